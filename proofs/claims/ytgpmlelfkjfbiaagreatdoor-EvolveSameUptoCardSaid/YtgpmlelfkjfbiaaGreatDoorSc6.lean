/-
  Part 6 of the proof: rules and walks that the claim's last text uses.
-/
import Derived.Lib.ItoaLen
import Derived.Test.YtgpmlelfkjfbiaaGreatDoorSc5
set_option linter.unusedSimpArgs false
set_option linter.unusedVariables false
set_option maxRecDepth 100000
set_option maxHeartbeats 4000000
namespace Go.Proofs.YtgpmlelfkjfbiaaGreatDoor
open Go Go.RowKit Go.Ev
def DN (rec:Ty→Vl→Option Vl) (n:Nat) (g:Int→(List (ByteArray × Vl))→Option Vl) (b:Int) (b3_k28_5:List (ByteArray × Vl)):Option Vl :=
 if BV (b+1) then
  g (b+1) b3_k28_5
 else none
def IM (rec:Ty→Vl→Option Vl) (n:Nat) (b:Vl) (b3_k20_5:List (ByteArray × Vl)):Option Vl :=
 some (Vl.mk b.kind b.int b.scale b.text b.list b3_k20_5)
def Br (rec:Ty→Vl→Option Vl) (n:Nat) (s:Ty) (q:Vl):Nat→Int→(List (ByteArray × Vl))→Option Vl
 | 0,_,_=>none
 | m+1,b,b3_l23_5 =>
  if decide (b<(s.fields.length:Int)) then
   (Cb s.fields b).bind fun g =>
   if (!(decide (g.2.2.1=3)))||(!(decide ((g.2.2.2.2.length:Int)=1))) then
    DN rec n (Br rec n s q m) b b3_l23_5
   else
    (C0 n b3_l23_5 g.2.1 (fun (x0:ByteArray × Vl) (x1:ByteArray)=>some (FI x0 x1))).bind fun h =>
    if !h.2 then
     (Cb g.2.2.2.2 0).bind fun y =>
     if (0≤h.1∧h.1≤(b3_l23_5.length:Int))∧(b3_l23_5.length+1)*104≤140737488355328∧b3_l23_5.length+1≤4611686018427387904 then
      DN rec n (Br rec n s q m) b (LX b3_l23_5 h.1 ((g.2.1,y)))
     else none
    else
     DN rec n (Br rec n s q m) b b3_l23_5
  else
   IM rec n q b3_l23_5
def Ik (rec:Ty→Vl→Option Vl) (n:Nat) (h:Ty) (b:Vl):Option Vl :=
 if !(decide (b.kind=h.kind)) then
  some (b)
 else
  (G4 n b).bind fun y7 =>
  if !y7 then
   some (b)
  else
   if decide (h.kind=9) then
    (JW n h b (fun (s:Ty) (q:Vl)=>rec s q)).bind fun g =>
    Br rec n h g n 0 g.fields
   else
    (KU n h b (fun (s:Ty) (q:Vl)=>rec s q)).bind fun y =>
    some (y)
def CU:Nat→Ty→Vl→Option Vl
 | 0,_,_=>none
 | n+1,g,b=>Ik (CU n) n g b
def Kp (w0:World) (F:Ty→Vl→Option Vl):Prop:=∀ (B:List (List AV)) (Rw:List RowA) (L:List LoopA) (g:Ty) (b:Vl) (r:Vl),F g b=some r→ACalls Tryz.prog w0 82 [.agg (g.cs),.agg (b.cs)] ⟨B,Rw,L⟩ fun x st=>x = .agg (r.cs)∧st=⟨B,Rw,L⟩
theorem Qn (w0:World) (hT:Lib.Utf8Tabs 0 1 w0) (rec:Ty→Vl→Option Vl) (ih:Kp w0 rec) (n:Nat):Kp w0 (Ik rec n):=by
 intro B Rw L a0 a1 r h
 rw [Ik] at h
 refine hd [.cell 4 46] Tryz.func82 Tryz.ntmps82 fun M0 W0 hN K O o hu p hs=>?_
 simp only [Au]
 refine rg [2,3,4] hs ?_
 apply Ah;intro K2 ah
 apply Ah;intro K3 C
 rcases Bool.eq_false_or_eq_true (!(decide (a1.kind=a0.kind))) with hf4 | hf4
 ·replace h:=AY h hf4
  have hs:=Aa hf4 hs
  refine rk 2 [2,3,4,19] hs ?_
  refine Az ?_
  refine ne hs C ?_
  clear C
  refine A2 true ev (ef hs) (fun hb5=>?_) (fun hb5=>by cases hb5)
  refine rg [4] hs ?_
  exact rt h hs o p
 ·replace h:=AZ h hf4
  obtain ⟨y7,am,h⟩:=bind_some h
  have hs:=Aa hf4 hs
  refine rk 2 [2,3,4,19] hs ?_
  refine Ai _ (O7 w0 hT n _ _ _ a1 _ am) (hv hs) ?_
  refine ne hs C ?_
  clear C
  refine AL h hs (fun hs h=>?_) (fun hs h=>?_)
  ·have Y:=hs.1
   refine rg [4] hs ?_
   exact rt h hs o p
  have Y:=hs.1
  refine sk [2,3,4] hs ah ?_
  clear ah
  apply Ah;intro K10 q
  rcases Bool.eq_false_or_eq_true (decide (a0.kind=9)) with hf11 | hf11
  ·replace h:=AY h hf11
   obtain ⟨j,aa,h⟩:=bind_some h
   have hs:=Aa hf11 hs
   refine rk 2 [2,4,5] hs ?_
   refine Bt _ (U9 w0 n _ _ _ a0 a1 82 [] (fun (x0:Ty) (x1:Vl)=>rec x0 x1) (fun x0 x1 r hx B' v af aj=>by exact ih _ _ _ x0 x1 _ hx) _ aa) (hv hs) ?_;rintro _ _ ⟨aq,Rv15,rfl,rfl,y⟩
   have p:=p.callV y
   refine ne hs q ?_
   clear q
   apply Ah;intro K16 D
   refine rg [2,4,5,26] hs ?_
   refine A2 false ev (ef hs) (fun hb18=>by cases hb18) (fun hb18=>?_)
   refine sk [2,4,5] hs D ?_
   clear D
   refine Av (fun e st=>∃ (k:List (ByteArray × Vl)) (l:VO) (Xk20:List (List AV)) (Rk20:List RowA),e=[(4,true,.box (B.length+2) 0),(5,true,.box (B.length+3) 0)]∧st=⟨B++([a0.cs,a1.cs,[.val (.int .i64 0),.val (.int .i64 0),.val (.int .i64 0),.val (.string ((⟨#[]⟩:ByteArray))),.list ([]) .full,.list ([]) .full],[.val (.int .i64 j.kind),.val (.int .i64 j.int),.val (.int .i64 j.scale),.val (.string j.text),.list (j.list.map Bo) .none,Ll l k.length]]++Xk20),Rk20,L⟩∧Owns Rw Rk20 [] .none [(l,7,k.flatMap fun x=>(B9 x).cells)]∧IM rec n j k=some r) ?_ ?_
   ·intro K21 Z
    refine rg [4,5,29,30,31] hs ?_
    apply Ak
    refine AC (fun m e st=>∃ (d:Int) (a:List (ByteArray × Vl)) (b:VO) (Xl23:List (List AV)) (Rl23:List RowA),e=[(4,true,.box (B.length+2) 0),(5,true,.box (B.length+3) 0),(29,true,.list (a0.fields.map Da) .none),(30,true,.val (.int .i64 (a0.fields.length:Int))),(31,true,.val (.int .i64 d))]∧st=⟨B++([a0.cs,a1.cs,[.val (.int .i64 0),.val (.int .i64 0),.val (.int .i64 0),.val (.string ((⟨#[]⟩:ByteArray))),.list ([]) .full,.list ([]) .full],[.val (.int .i64 j.kind),.val (.int .i64 j.int),.val (.int .i64 j.scale),.val (.string j.text),.list (j.list.map Bo) .none,Ll b a.length]]++Xl23),Rl23,L⟩∧Owns Rw Rl23 [] .none [(b,7,a.flatMap fun x=>(B9 x).cells)]∧Br rec n a0 j m d a=some r) n ⟨0,j.fields,aq,([]),Rv15,ef hs,ef hs,Owns.eqV (p) fn_,h⟩ ?_
    rintro ml23 e st ⟨d,a,b,Xl23,Rl23,rfl,rfl,p,h⟩ Ul23 Vl23
    cases ml23 with
    | zero=>cases h
    | succ ml23 =>
    rw [Br] at h
    have u:=p.underV
    simp only [List.mem_cons,List.not_mem_nil,or_false,forall_eq_or_imp,forall_eq] at u
    refine AP hN K O rfl o p ow ow ?_ (vu @Pq)
    refine rg [4,5,29,30,31,32] hs ?_
    apply Ah;intro K25 G
    refine AL h hs (fun hs h=>?_) (fun hs h=>?_)
    rotate_left
    ·refine sx [4,5] hs Z ?_
     exact ⟨a,b,([]),Rl23,ef hs,ef hs,Owns.eqV (p) fn_,h⟩
    refine sk [4,5,29,30,31] hs G ?_
    clear G
    refine Av (fun e st=>∃ (c:List (ByteArray × Vl)) (g:VO) (Xk28:List (List AV)) (Rk28:List RowA),e=[(4,true,.box (B.length+2) 0),(5,true,.box (B.length+3) 0),(29,true,.list (a0.fields.map Da) .none),(30,true,.val (.int .i64 (a0.fields.length:Int))),(31,true,.val (.int .i64 d))]∧st=⟨B++([a0.cs,a1.cs,[.val (.int .i64 0),.val (.int .i64 0),.val (.int .i64 0),.val (.string ((⟨#[]⟩:ByteArray))),.list ([]) .full,.list ([]) .full],[.val (.int .i64 j.kind),.val (.int .i64 j.int),.val (.int .i64 j.scale),.val (.string j.text),.list (j.list.map Bo) .none,Ll g c.length]]++Xk28),Rk28,L⟩∧Owns Rw Rk28 [] .none [(g,7,c.flatMap fun x=>(B9 x).cells)]∧DN rec n (Br rec n a0 j ml23) d c=some r) ?_ ?_
    ·intro K29 t
     apply Ak
     obtain ⟨i,ab,h⟩:=bind_some h
     obtain ⟨ao,au,J⟩:=AA ab
     have Q:=AB (f:=Da) J
     have hs:=Aa Q hs
     refine rg [4,5,7,29,30,31] hs ?_
     apply Ah;intro K32 E
     refine rg [4,5,7,29,30,31,43] hs ?_
     refine AL h hs (fun hs h=>?_) (fun hs h=>?_)
     ·refine sx [4,5,29,30,31] hs t ?_
      exact ⟨a,b,([.val (.int .i64 i.1)::(.val (.string i.2.1)::(.val (.int .i64 i.2.2.1)::((i.2.2.2.1.cs)++([.list (i.2.2.2.2.map Bo) .none]))))]),Rl23,ef hs,ef hs,Owns.eqV (p) fn_,h⟩
     refine sk [4,5,7,29,30,31] hs E ?_
     clear E
     apply Ah;intro K35 F
     obtain ⟨ai,hy36,h⟩:=bind_some h
     refine XX 0 (by decide) ?_
     refine rk 2 [4,5,7,8,9,29,30,31] hs ?_
     refine ZcW [false,true,true] _ (Jm w0 n _ _ _ b a p.vp i.2.1 140 [] (fun (x0:ByteArray × Vl) (x1:ByteArray)=>some (FI x0 x1)) (fun x0 x1 r hx B' v af aj=>by cases hx;exact PX w0 _ _ _ x0 x1) _ hy36) (hv hs) ?_
     refine ne hs F ?_
     clear F
     refine rg [4,5,7,8,29,30,31,53] hs ?_
     refine AL h hs (fun hs h=>?_) (fun hs h=>?_)
     ·obtain ⟨ag,ar,ap,w,h⟩:=ix Bo h
      have U:(i.2.2.2.2.map Bo).getD 0 .junk=_:=w
      obtain ⟨ad,h⟩:=Aj h
      obtain ⟨V,N,z,p,H⟩:=Zd w0 p ai.1 ad ((i.2.1,ag))
      refine XX 0 (by decide) ?_
      have hs:=Aa w hs
      have hs:=Aa U hs
      refine dj 11 1 2 [4,5,29,30,31] hs Iw ?_
      refine ZaO [false,true,true] _ (H _ _ _) (hv hs) ?_;rintro _ _ ⟨rfl,rfl⟩
      refine ne hs t ?_
      exact ⟨(LX a ai.1 ((i.2.1,ag))),((.row V N)),([.val (.int .i64 i.1)::(.val (.string i.2.1)::(.val (.int .i64 i.2.2.1)::((i.2.2.2.1.cs)++([.list (i.2.2.2.2.map Bo) .none]))))]),z,ef hs,ef hs,Owns.eqV (p) fn_,h⟩
     refine sk [4,5,29,30,31] hs t ?_
     exact ⟨a,b,([.val (.int .i64 i.1)::(.val (.string i.2.1)::(.val (.int .i64 i.2.2.1)::((i.2.2.2.1.cs)++([.list (i.2.2.2.2.map Bo) .none]))))]),Rl23,ef hs,ef hs,Owns.eqV (p) fn_,h⟩
    ·clear h;rintro e st ⟨c,g,Xk28,Rk28,rfl,rfl,p,h⟩
     rw [DN] at h
     have u:=p.underV
     simp only [List.mem_cons,List.not_mem_nil,or_false,forall_eq_or_imp,forall_eq] at u
     refine AP hN K O rfl o p ow ow ?_ (vu @Pq)
     obtain ⟨av,h⟩:=Aj h
     refine rl [4,5,29,30,31] hs (fun e s=>Vl23 ml23 e s (Nat.lt_succ_self _)) ?_
     exact ⟨(d+1),c,g,([]),Rk28,ef hs,ef hs,Owns.eqV (p) fn_,h⟩
   ·clear h;rintro e st ⟨k,l,Xk20,Rk20,rfl,rfl,p,h⟩
    rw [IM] at h
    have u:=p.underV
    simp only [List.mem_cons,List.not_mem_nil,or_false,forall_eq_or_imp,forall_eq] at u
    refine AP hN K O rfl o p ow ow ?_ (vu @Pq)
    refine rg [4] hs ?_
    refine YG (B.length+2) 5 (by first | rfl | (simp only [JM,Iu];rfl) | (simp +decide only [go_sem,Nat.reduceAdd,hf4,Y,hf11])) (by first | rfl | (simp only [Zfl,List.length_set];rfl)) p true (.inl rfl) (by decide) ((Jc (f:=B9) (sz:=7) (fun _=>by simp +decide only [go_sem]) _)) (Zfw (f:=B9) 7 (fun _=>rfl) (fun _=>by simp +decide only [go_sem]) _) (fun ak p=>?_)
    simp +decide only [go_sem,Nat.reduceAdd,List.set_cons_zero,List.set_cons_succ]
    exact rt h hs o p
  ·replace h:=AZ h hf11
   obtain ⟨ax,ae,h⟩:=bind_some h
   have hs:=Aa hf11 hs
   refine rk 2 [2,4,5] hs ?_
   refine Ai _ (Xt w0 n _ _ _ a0 a1 82 [] (fun (x0:Ty) (x1:Vl)=>rec x0 x1) (fun x0 x1 r hx B' v af aj=>by exact ih _ _ _ x0 x1 _ hx) _ ae) (hv hs) ?_
   refine ne hs q ?_
   clear q
   apply Ah;intro K49 aw
   refine rg [2,4,5,26] hs ?_
   refine A2 true ev (ef hs) (fun hb51=>?_) (fun hb51=>by cases hb51)
   refine rg [4] hs ?_
   exact rt h hs o p
theorem NF (w0:World) (hT:Lib.Utf8Tabs 0 1 w0):∀ n:Nat,Kp w0 (CU n)
 | 0=>fun _ _ _ _ _ _ h=>(nomatch h)
 | n+1=>Qn w0 hT (CU n) (NF w0 hT n) n
end Go.Proofs.YtgpmlelfkjfbiaaGreatDoor
namespace Go.Ev
open Go Go.RowKit
theorem QR {i j:Nat} (h:i≠j):∀ (B:List (List AV)) (a b:List AV),(B.set i a).set j b=(B.set j b).set i a:=fun B a b=>List.set_comm _ _ h
theorem Je (i:Nat):∀ (B:List (List AV)) (a b:List AV),(B.set i a).set i b=B.set i b:=fun B a b=>List.set_set a
theorem Lu {B:List (List AV)} {l:Nat} {cs:List AV} (h:B[l]? = some cs) (i j:Nat):∀ (X:List (List AV)) (a b c:List AV),((B.set i a).set j b++X).set l c=((B.set i a).set j b).set l c++X:=fun X a b c=>List.set_append_left _ _ (by rw [List.length_set,List.length_set];exact (Ag.1 h).1)
theorem Ww {B:List (List AV)} {l j:Nat} {cs:List AV} (h:B[l]? = some cs) (hne:j≠l) :
  (∀ a b X R L o,Dx ⟨(B.set l a).set j b++X,R,L⟩ (.box l o)=true)∧(∀ a b R L o,Dx ⟨(B.set l a).set j b,R,L⟩ (.box l o)=true)∧(∀ a b X R L o,Bj ⟨(B.set l a).set j b++X,R,L⟩ (.box l o)=a)∧(∀ a b R L o,Bj ⟨(B.set l a).set j b,R,L⟩ (.box l o)=a) ∧
  (∀ a b X,((B.set l a).set j b++X)[l]? = some a)∧(∀ a b,((B.set l a).set j b)[l]? = some a)∧(∀ a b X,((B.set l a).set j b++X).getD l []=a)∧(∀ a b,((B.set l a).set j b).getD l []=a):=by
 have c:∀ a,(B.set l a)[l]? = some a:=fun a=>List.getElem?_set_self (Ag.1 h).1
 exact ⟨fun a b X R L o=>(C2 (c a) hne).1 X R L o b,fun a b R L o=>(C2 (c a) hne).2.1 R L o b,fun a b X R L o=>(C2 (c a) hne).2.2.1 X R L o b,fun a b R L o=>(C2 (c a) hne).2.2.2.1 R L o b,
  fun a b X=>(C2 (c a) hne).2.2.2.2.1 X b,fun a b=>(C2 (c a) hne).2.2.2.2.2.1 b,fun a b X=>(C2 (c a) hne).2.2.2.2.2.2.1 X b,fun a b=>(C2 (c a) hne).2.2.2.2.2.2.2 b⟩
theorem SN {B:List (List AV)} {l i:Nat} {cs:List AV} (h:B[l]? = some cs) (hne:i≠l) :
  (∀ a b X R L o,Dx ⟨(B.set i a).set l b++X,R,L⟩ (.box l o)=true)∧(∀ a b R L o,Dx ⟨(B.set i a).set l b,R,L⟩ (.box l o)=true)∧(∀ a b X R L o,Bj ⟨(B.set i a).set l b++X,R,L⟩ (.box l o)=b)∧(∀ a b R L o,Bj ⟨(B.set i a).set l b,R,L⟩ (.box l o)=b) ∧
  (∀ a b X,((B.set i a).set l b++X)[l]? = some b)∧(∀ a b,((B.set i a).set l b)[l]? = some b)∧(∀ a b X,((B.set i a).set l b++X).getD l []=b)∧(∀ a b,((B.set i a).set l b).getD l []=b):=by
 have c:∀ a b,((B.set i a).set l b)[l]? = some b:=fun a b=>List.getElem?_set_self (by rw [List.length_set];exact (Ag.1 h).1)
 exact ⟨fun a b X R L o=>(An (c a b)).1 X R L o,fun a b R L o=>(An (c a b)).2.1 R L o,fun a b X R L o=>(An (c a b)).2.2.1 X R L o,fun a b R L o=>(An (c a b)).2.2.2.1 R L o,
  fun a b X=>(An (c a b)).2.2.2.2.1 X,c,fun a b X=>(An (c a b)).2.2.2.2.2.2.1 X,fun a b=>(An (c a b)).2.2.2.2.2.2.2.1⟩
theorem Yl (B:List (List AV)) (i j:Nat) (c d:List AV):((B.set i c).set j d).length=B.length:=by simp only [List.length_set]
@[go_sem] theorem Zh6 (B X:List (List AV)) (R:List RowA) (L:List LoopA) (i j k o:Nat) (c d:List AV):Dx ⟨(B.set i c).set j d++X,R,L⟩ (.box (B.length+k) o)=decide (k<X.length):=by have h:=Zbd ((B.set i c).set j d) X R L k o;rwa [Yl] at h
@[go_sem] theorem ZgK (B X:List (List AV)) (R:List RowA) (L:List LoopA) (i j o:Nat) (c d:List AV):Dx ⟨(B.set i c).set j d++X,R,L⟩ (.box B.length o)=decide (0<X.length):=by have h:=Ze ((B.set i c).set j d) X R L o;rwa [Yl] at h
@[go_sem] theorem ZcC (B X:List (List AV)) (i j k:Nat) (c d:List AV):((B.set i c).set j d++X).getD (B.length+k) []=X.getD k []:=by have h:=VY (B.set i c) X j k d;rwa [List.length_set] at h
@[go_sem] theorem Zbm (B X:List (List AV)) (i j:Nat) (c d:List AV):((B.set i c).set j d++X).getD B.length []=X.getD 0 []:=by have h:=UH (B.set i c) X j d;rwa [List.length_set] at h
@[go_sem] theorem Zf7 (B X:List (List AV)) (R:List RowA) (L:List LoopA) (i j k o:Nat) (c d:List AV):Bj ⟨(B.set i c).set j d++X,R,L⟩ (.box (B.length+k) o)=X.getD k []:=ZcC B X i j k c d
@[go_sem] theorem ZeV (B X:List (List AV)) (R:List RowA) (L:List LoopA) (i j o:Nat) (c d:List AV):Bj ⟨(B.set i c).set j d++X,R,L⟩ (.box B.length o)=X.getD 0 []:=Zbm B X i j c d
@[go_sem] theorem Zkz (B X:List (List AV)) (i j k:Nat) (c d x:List AV):((B.set i c).set j d++X).set (B.length+k) x=(B.set i c).set j d++X.set k x:=by have h:=Zc4 (B.set i c) X j k d x;rwa [List.length_set] at h
@[go_sem] theorem Zjv (B X:List (List AV)) (i j:Nat) (c d x:List AV):((B.set i c).set j d++X).set B.length x=(B.set i c).set j d++X.set 0 x:=by have h:=Zbw (B.set i c) X j d x;rwa [List.length_set] at h
@[go_sem] theorem Zk7 (B X:List (List AV)) (i j k:Nat) (c d:List AV):((B.set i c).set j d++X)[B.length+k]? = X[k]? := by have h:=Kr (B.set i c) X j k d;rwa [List.length_set] at h
@[go_sem] theorem Zjm (B X:List (List AV)) (i j:Nat) (c d:List AV):((B.set i c).set j d++X)[B.length]? = X[0]? := by have h:=IF (B.set i c) X j d;rwa [List.length_set] at h
theorem ZeS {P:Program} {w0:World} {n:Nat} {M0:Mem} {W0:World} {ro:Option Nat} {c:Code} {Q:AQ} {e:Env} {B B' X:List (List AV)} {R:List RowA} {L:List LoopA} (h:B'=B) (k:GE P w0 n M0 W0 ro c Q e ⟨B'++X,R,L⟩):GE P w0 n M0 W0 ro c Q e ⟨B++X,R,L⟩:=h▸k
end Go.Ev
namespace Go.Proofs.YtgpmlelfkjfbiaaGreatDoor
open Go Go.RowKit Go.Ev
def M9 (g:ByteArray × Int) (b:Bool):Option (Bool × Bool) :=
 some ((false,false))
theorem Vn (w0:World) (B:List (List AV)) (Rw:List RowA) (L:List LoopA) (a0:ByteArray × Int) (la1:Nat) (a1:Bool) (hla1:B[la1]? = some ([.val (.bool a1)])) (r:Bool × Bool) (h:M9 a0 a1=some r) :
  ACalls Tryz.prog w0 92 [.agg (.val (.string a0.1)::([.val (.int .i64 a0.2)])),.box la1 0] ⟨B,Rw,L⟩ fun x st=>x = .val (.bool r.1)∧st=⟨(B.set la1 [.val (.bool r.2)]),Rw,L⟩:=by
 rw [M9] at h
 refine hd [.tmp 3] Tryz.func92 Tryz.ntmps92 fun M0 W0 g e d a f c hs=>?_
 simp only [Au]
 have b:=(Ag.1 hla1).1
 have hs:=Aa (An hla1) hs
 refine rg [1] hs ?_
 refine rg [] hs ?_
 refine rg [3] hs ?_
 apply A3;simp +decide only [go_sem,Nat.reduceAdd,An hla1]
 have hgt:=Option.some.inj h;subst hgt
 first | refine DL (Ap a ev) Hy c.pre ev ⟨?_,rfl⟩ | refine E9 (Ap a ev) Hy c.pre ev ⟨?_,rfl⟩
 first | rfl | (simp +decide only [go_sem,Nat.reduceAdd,An hla1];done) | (simp +decide only [go_sem,Nat.reduceAdd,Vl.cs,Ty.cs,An hla1];done)
def Bi (a0_done:Bool) (x0_ok:Bool) (g:ByteArray) (h:Int):Option (Bool × Bool) :=
 if !a0_done then
  (M9 ((g,h)) x0_ok).bind fun b =>
  if !b.1 then
   some ((true,b.2))
  else
   some ((a0_done,b.2))
 else
  some ((a0_done,x0_ok))
theorem B8 (w0:World) (B:List (List AV)) (Rw:List RowA) (L:List LoopA) (lx0_ok:Nat) (la0:Nat) (a0_done:Bool) (hla0:B[la0]? = some ([.clo 92 [.box lx0_ok 0],.val (.bool a0_done)])) (x0_ok:Bool) (hlx0_ok:B[lx0_ok]? = some ([.val (.bool x0_ok)])) (hne_lx0_ok_la0:lx0_ok≠la0) (a1:ByteArray) (a2:Int) (r:Bool × Bool) (h:Bi a0_done x0_ok a1 a2=some r) :
  ACalls Tryz.prog w0 155 [.box la0 0,.val (.string a1),.val (.int .i64 a2)] ⟨B,Rw,L⟩ fun x st=>x = .tup []∧st=⟨((B.set la0 ([.clo 92 [.box lx0_ok 0],.val (.bool r.1)])).set lx0_ok [.val (.bool r.2)]),Rw,L⟩:=by
 rw [Bi] at h
 refine hd [] Tryz.func155 Tryz.ntmps155 fun M0 W0 n k j a l f hs=>?_
 simp only [Au]
 have g:=(Ag.1 hla0).1
 have e:=(Ag.1 hlx0_ok).1
 have b:=Aa (An hla0) (Aa (An hlx0_ok) (Aa (C2 hla0 hne_lx0_ok_la0) (Aa (C2 hlx0_ok (Ne.symm hne_lx0_ok_la0)) (Aa (QR hne_lx0_ok_la0) (Aa (La hla0 lx0_ok) (Aa (La hlx0_ok la0) (Aa (Lu hla0 la0 lx0_ok) (Aa (Lu hlx0_ok la0 lx0_ok) (Aa (Je lx0_ok) (Aa (Je la0) (Aa (Ww hla0 hne_lx0_ok_la0) (SN hlx0_ok (Ne.symm hne_lx0_ok_la0)))))))))))))
 apply Ah;intro K1 d
 rcases Bool.eq_false_or_eq_true (!a0_done) with hf2 | hf2
 ·replace h:=AY h hf2
  obtain ⟨m,i,h⟩:=bind_some h
  have hs:=Aa b hs
  have hs:=Aa hf2 hs
  refine rk 2 [0,21] hs ?_
  refine Bt _ (Vn w0 _ _ _ ((a1,a2)) lx0_ok x0_ok (ef hs) _ i) (hv hs) ?_;rintro _ _ ⟨rfl,rfl⟩
  refine ne hs d ?_
  clear d
  refine AL h hs (fun hs h=>?_) (fun hs h=>?_)
  ·have c:=hs.1
   apply Ao 1 []
   rw [Am];simp +decide only [go_sem,Nat.reduceAdd,b,hf2,c]
   (repeat' with_reducible apply Aa)<;>first | exact cl | skip
   have hgt:=Option.some.inj h;subst hgt
   first | refine DL (Ap (Ap a ow) ow) Hy f.pre ev ⟨?_,by first | rfl | (simp only [Aq hla0,Aq hlx0_ok];done)⟩ | refine E9 (Ap (Ap a ow) ow) Hy f.pre ev ⟨?_,by first | rfl | (simp only [Aq hla0,Aq hlx0_ok];done)⟩
   first | rfl | (simp +decide only [go_sem,Nat.reduceAdd,b,hf2,c];done) | (simp +decide only [go_sem,Nat.reduceAdd,Vl.cs,Ty.cs,b,hf2,c];done)
  have c:=hs.1
  refine DU (Do [] _) ?_ (Bg _ _)
  apply Bl;simp +decide only [go_sem,Nat.reduceAdd]
  (repeat' with_reducible apply Aa)<;>first | exact cl | skip
  have hgt:=Option.some.inj h;subst hgt
  first | refine DL (Ap a ow) Hy f.pre ev ⟨?_,by first | rfl | (simp only [Aq hla0,Aq hlx0_ok];done)⟩ | refine E9 (Ap a ow) Hy f.pre ev ⟨?_,by first | rfl | (simp only [Aq hla0,Aq hlx0_ok];done)⟩
  first | rfl | (simp +decide only [go_sem,Nat.reduceAdd,b,hf2,c];done) | (simp +decide only [go_sem,Nat.reduceAdd,Vl.cs,Ty.cs,b,hf2,c];done)
 ·replace h:=AZ h hf2
  have hs:=Aa b hs
  have hs:=Aa hf2 hs
  refine rk 2 [0,21] hs ?_
  refine Az ?_
  refine ne hs d ?_
  clear d
  refine A2 false ev (ef hs) (fun hb5=>by cases hb5) (fun hb5=>?_)
  refine DU (Do [] _) ?_ (Bg _ _)
  apply Bl;simp +decide only [go_sem,Nat.reduceAdd]
  (repeat' with_reducible apply Aa)<;>first | exact cl | skip
  have hgt:=Option.some.inj h;subst hgt
  first | refine DL a rfl f.pre ev ⟨?_,by first | rfl | (simp only [Aq hla0,Aq hlx0_ok];done)⟩ | refine E9 a rfl f.pre ev ⟨?_,by first | rfl | (simp only [Aq hla0,Aq hlx0_ok];done)⟩
  first | rfl | (simp +decide only [go_sem,Nat.reduceAdd,b,hf2];done) | (simp +decide only [go_sem,Nat.reduceAdd,Vl.cs,Ty.cs,b,hf2];done)
def Bv (a0_done:Bool) (x0_ok:Bool) (b:Ty) (q:ByteArray) (g:Int):Option (Bool × Bool) :=
 if (decide (g<b.min))||(decide (b.max<g)) then
  (Bi a0_done x0_ok q 2).bind fun h =>
  some ((h.1,h.2))
 else
  some ((a0_done,x0_ok))
theorem EJ (w0:World) (B:List (List AV)) (Rw:List RowA) (L:List LoopA) (lx0_ok:Nat) (la0:Nat) (a0_done:Bool) (hla0:B[la0]? = some ([.clo 92 [.box lx0_ok 0],.val (.bool a0_done)])) (x0_ok:Bool) (hlx0_ok:B[lx0_ok]? = some ([.val (.bool x0_ok)])) (hne_lx0_ok_la0:lx0_ok≠la0) (a1:Ty) (a2:ByteArray) (a3:Int) (r:Bool × Bool) (h:Bv a0_done x0_ok a1 a2 a3=some r) :
  ACalls Tryz.prog w0 156 [.box la0 0,.agg (a1.cs),.val (.string a2),.val (.int .i64 a3)] ⟨B,Rw,L⟩ fun x st=>x = .tup []∧st=⟨((B.set la0 ([.clo 92 [.box lx0_ok 0],.val (.bool r.1)])).set lx0_ok [.val (.bool r.2)]),Rw,L⟩:=by
 rw [Bv] at h
 refine hd [] Tryz.func156 Tryz.ntmps156 fun M0 W0 m j i a k f hs=>?_
 simp only [Au]
 have e:=(Ag.1 hla0).1
 have d:=(Ag.1 hlx0_ok).1
 have c:=Aa (An hla0) (Aa (An hlx0_ok) (Aa (C2 hla0 hne_lx0_ok_la0) (Aa (C2 hlx0_ok (Ne.symm hne_lx0_ok_la0)) (Aa (QR hne_lx0_ok_la0) (Aa (La hla0 lx0_ok) (Aa (La hlx0_ok la0) (Aa (Lu hla0 la0 lx0_ok) (Aa (Lu hlx0_ok la0 lx0_ok) (Aa (Je lx0_ok) (Aa (Je la0) (Aa (Ww hla0 hne_lx0_ok_la0) (SN hlx0_ok (Ne.symm hne_lx0_ok_la0)))))))))))))
 have hs:=Aa c hs
 refine rg [0,2,3,5] hs ?_
 refine rg [0,2,17] hs ?_
 refine AL h hs (fun hs h=>?_) (fun hs h=>?_)
 ·have b:=hs.1
  obtain ⟨l,g,h⟩:=bind_some h
  apply Ao 2 []
  rw [Am];simp +decide only [go_sem,Nat.reduceAdd,c,b]
  (repeat' apply Aa)<;>first | (refine Bt _ (B8 w0 _ _ _ lx0_ok la0 a0_done (ef hs) x0_ok (ef hs) nq a2 2 _ g) (hv hs) ?_;rintro _ _ ⟨rfl,rfl⟩) | exact cl
  rw [Am];simp +decide only [go_sem,Nat.reduceAdd,c,b]
  (repeat' with_reducible apply Aa)<;>first | exact cl | skip
  have hgt:=Option.some.inj h;subst hgt
  first | refine DL (Ap (Ap a ow) ow) Hy f.pre ev ⟨?_,by first | rfl | (simp only [Aq hla0,Aq hlx0_ok];done)⟩ | refine E9 (Ap (Ap a ow) ow) Hy f.pre ev ⟨?_,by first | rfl | (simp only [Aq hla0,Aq hlx0_ok];done)⟩
  first | rfl | (simp +decide only [go_sem,Nat.reduceAdd,c,b];done) | (simp +decide only [go_sem,Nat.reduceAdd,Vl.cs,Ty.cs,c,b];done)
 have b:=hs.1
 refine DU (Do [] _) ?_ (Bg _ _)
 apply Bl;simp +decide only [go_sem,Nat.reduceAdd]
 (repeat' with_reducible apply Aa)<;>first | exact cl | skip
 have hgt:=Option.some.inj h;subst hgt
 first | refine DL a rfl f.pre ev ⟨?_,by first | rfl | (simp only [Aq hla0,Aq hlx0_ok];done)⟩ | refine E9 a rfl f.pre ev ⟨?_,by first | rfl | (simp only [Aq hla0,Aq hlx0_ok];done)⟩
 first | rfl | (simp +decide only [go_sem,Nat.reduceAdd,c,b];done) | (simp +decide only [go_sem,Nat.reduceAdd,Vl.cs,Ty.cs,c,b];done)
def GV (b:ByteArray) (g:ByteArray):Option ByteArray :=
 if DK b ((⟨#[]⟩:ByteArray)) then
  some (g)
 else
  if b.size+((⟨#[46]⟩:ByteArray)).size≤9223372036854775807 then
   if (b++((⟨#[46]⟩:ByteArray))).size+g.size≤9223372036854775807 then
    some ((b++((⟨#[46]⟩:ByteArray)))++g)
   else none
  else none
theorem Nj (w0:World) (B:List (List AV)) (Rw:List RowA) (L:List LoopA) (a0:ByteArray) (a1:ByteArray) (r:ByteArray) (h:GV a0 a1=some r) :
  ACalls Tryz.prog w0 202 [.val (.string a0),.val (.string a1)] ⟨B,Rw,L⟩ fun x st=>x = .val (.string r)∧st=⟨B,Rw,L⟩:=by
 rw [GV] at h
 refine hd [.tmp 4] Tryz.func202 Tryz.ntmps202 fun M0 W0 l j i a k g hs=>?_
 simp only [Au]
 refine rg [0,1] hs ?_
 apply Ah;intro K2 d
 refine rg [0,1,6] hs ?_
 refine AL h hs (fun hs h=>?_) (fun hs h=>?_)
 ·refine rg [4] hs ?_
  exact rt h hs a g
 refine sk [0,1] hs d ?_
 clear d
 obtain ⟨f,h⟩:=Aj h
 have b:=f
 try simp +decide only [go_sem] at b
 obtain ⟨e,h⟩:=Aj h
 have c:=e
 try simp +decide only [go_sem] at c
 refine rg [4] hs ?_
 exact rt h hs a g
def BG (rec:Bool→Bool→Ty→Vl→ByteArray→Option (Bool × Bool)) (n:Nat) (g:Int→Bool→Bool→Option (Bool × Bool)) (b:Int) (pla0_k11_1:Bool) (plx0_ok_k11:Bool):Option (Bool × Bool) :=
 if BV (b+1) then
  g (b+1) pla0_k11_1 plx0_ok_k11
 else none
def CN (rec:Bool→Bool→Ty→Vl→ByteArray→Option (Bool × Bool)) (n:Nat) (g:Int→Bool→Bool→Option (Bool × Bool)) (b:Int) (pla0_k32_1:Bool) (plx0_ok_k32:Bool):Option (Bool × Bool) :=
 if BV (b+1) then
  g (b+1) pla0_k32_1 plx0_ok_k32
 else none
def Bm (rec:Bool→Bool→Ty→Vl→ByteArray→Option (Bool × Bool)) (n:Nat) (y:Ty) (q:Vl) (s:ByteArray):Nat→Int→Bool→Bool→Option (Bool × Bool)
 | 0,_,_,_=>none
 | m+1,b,pla0_l27_1,plx0_ok_l27 =>
  if decide (b<(q.fields.length:Int)) then
   (Cb q.fields b).bind fun h =>
   (C3 n y h.1).bind fun y37 =>
   if !y37.2 then
    (GV s h.1).bind fun y40 =>
    (Bi pla0_l27_1 plx0_ok_l27 y40 6).bind fun g =>
    CN rec n (Bm rec n y q s m) b g.1 g.2
   else
    CN rec n (Bm rec n y q s m) b pla0_l27_1 plx0_ok_l27
  else
   some ((pla0_l27_1,plx0_ok_l27))
def EZ (rec:Bool→Bool→Ty→Vl→ByteArray→Option (Bool × Bool)) (n:Nat) (b:Ty) (h:Vl) (g:ByteArray) (pla0_k3_1:Bool) (plx0_ok_k3:Bool):Option (Bool × Bool) :=
 Bm rec n b h g n 0 pla0_k3_1 plx0_ok_k3
def Be (rec:Bool→Bool→Ty→Vl→ByteArray→Option (Bool × Bool)) (n:Nat) (q:Ty) (a2:Vl) (h:ByteArray):Nat→Int→Bool→Bool→Option (Bool × Bool)
 | 0,_,_,_=>none
 | m+1,b,pla0_l6_1,plx0_ok_l6 =>
  if decide (b<(q.fields.length:Int)) then
   (Cb q.fields b).bind fun g =>
   (G5 n a2 g.2.1).bind fun s =>
   if s.2 then
    (GV h g.2.1).bind fun y19 =>
    (rec pla0_l6_1 plx0_ok_l6 g.2.2.2.1 s.1 y19).bind fun y20 =>
    BG rec n (Be rec n q a2 h m) b y20.1 y20.2
   else
    if !(decide (g.2.2.1=2)) then
     (GV h g.2.1).bind fun y23 =>
     (Bi pla0_l6_1 plx0_ok_l6 y23 5).bind fun y =>
     BG rec n (Be rec n q a2 h m) b y.1 y.2
    else
     BG rec n (Be rec n q a2 h m) b pla0_l6_1 plx0_ok_l6
  else
   EZ rec n q a2 h pla0_l6_1 plx0_ok_l6
def Hl (rec:Bool→Bool→Ty→Vl→ByteArray→Option (Bool × Bool)) (n:Nat) (a0_done:Bool) (x0_ok:Bool) (b:Ty) (h:Vl) (g:ByteArray):Option (Bool × Bool) :=
 Be rec n b h g n 0 a0_done x0_ok
theorem NS (w0:World) (rec:Bool→Bool→Ty→Vl→ByteArray→Option (Bool × Bool)) (ih:∀ (B:List (List AV)) (Rw:List RowA) (L:List LoopA) (lx0_ok:Nat) (la0:Nat) (a0_done:Bool) (hla0:B[la0]? = some ([.clo 92 [.box lx0_ok 0],.val (.bool a0_done)])) (x0_ok:Bool) (hlx0_ok:B[lx0_ok]? = some ([.val (.bool x0_ok)])) (hne_lx0_ok_la0:lx0_ok≠la0) (a1:Ty) (a2:Vl) (a3:ByteArray) (r:Bool × Bool) (h:rec a0_done x0_ok a1 a2 a3=some r),ACalls Tryz.prog w0 93 [.box la0 0,.agg (a1.cs),.agg (a2.cs),.val (.string a3)] ⟨B,Rw,L⟩ fun x st=>x = .tup []∧st=⟨((B.set la0 ([.clo 92 [.box lx0_ok 0],.val (.bool r.1)])).set lx0_ok [.val (.bool r.2)]),Rw,L⟩) (n:Nat) (B:List (List AV)) (Rw:List RowA) (L:List LoopA) (lx0_ok:Nat) (la0:Nat) (a0_done:Bool) (hla0:B[la0]? = some ([.clo 92 [.box lx0_ok 0],.val (.bool a0_done)])) (x0_ok:Bool) (hlx0_ok:B[lx0_ok]? = some ([.val (.bool x0_ok)])) (hne_lx0_ok_la0:lx0_ok≠la0) (a1:Ty) (a2:Vl) (a3:ByteArray) (r:Bool × Bool) (h:Hl rec n a0_done x0_ok a1 a2 a3=some r) :
  ACalls Tryz.prog w0 158 [.box la0 0,.agg (a1.cs),.agg (a2.cs),.val (.string a3)] ⟨B,Rw,L⟩ fun x st=>x = .tup []∧st=⟨((B.set la0 ([.clo 92 [.box lx0_ok 0],.val (.bool r.1)])).set lx0_ok [.val (.bool r.2)]),Rw,L⟩:=by
 rw [Hl] at h
 refine hd [] Tryz.func158 Tryz.ntmps158 fun M0 W0 hN J O w hu z hs=>?_
 simp only [Au]
 have ax:=(Ag.1 hla0).1
 have ad:=(Ag.1 hlx0_ok).1
 have C:=Aa (An hla0) (Aa (An hlx0_ok) (Aa (C2 hla0 hne_lx0_ok_la0) (Aa (C2 hlx0_ok (Ne.symm hne_lx0_ok_la0)) (Aa (QR hne_lx0_ok_la0) (Aa (La hla0 lx0_ok) (Aa (La hlx0_ok la0) (Aa (Lu hla0 la0 lx0_ok) (Aa (Lu hlx0_ok la0 lx0_ok) (Aa (Je lx0_ok) (Aa (Je la0) (Aa (Ww hla0 hne_lx0_ok_la0) (SN hlx0_ok (Ne.symm hne_lx0_ok_la0)))))))))))))
 have hs:=Aa C hs
 refine rg [0,3,5,6] hs ?_
 refine Av (fun e st=>∃ (t:Bool) (o:Bool) (Xk3:List (List AV)) (Rk3:List RowA),e=[(0,true,.box la0 0),(3,true,.val (.string a3)),(5,true,.box B.length 0),(6,true,.box (B.length+1) 0)]∧st=⟨((B.set la0 ([.clo 92 [.box lx0_ok 0],.val (.bool t)])).set lx0_ok ([.val (.bool o)]))++([a1.cs,a2.cs]++Xk3),Rk3,L⟩∧Owns Rw Rk3 []∧EZ rec n a1 a2 a3 t o=some r) ?_ ?_
 ·intro K4 a5
  refine rg [0,3,5,6,17,18,19] hs ?_
  apply Ak
  refine AC (fun m e st=>∃ (v:Int) (b:Bool) (a:Bool) (Xl6:List (List AV)) (Rl6:List RowA),e=[(0,true,.box la0 0),(3,true,.val (.string a3)),(5,true,.box B.length 0),(6,true,.box (B.length+1) 0),(17,true,.list (a1.fields.map Da) .none),(18,true,.val (.int .i64 (a1.fields.length:Int))),(19,true,.val (.int .i64 v))]∧st=⟨((B.set la0 ([.clo 92 [.box lx0_ok 0],.val (.bool b)])).set lx0_ok ([.val (.bool a)]))++([a1.cs,a2.cs]++Xl6),Rl6,L⟩∧Owns Rw Rl6 []∧Be rec n a1 a2 a3 m v b a=some r) n ⟨0,a0_done,x0_ok,([]),Rw,ef hs,ef hs,z,h⟩ ?_
  rintro ml6 e st ⟨v,b,a,Xl6,Rl6,rfl,rfl,z,h⟩ Ul6 Vl6
  cases ml6 with
  | zero=>cases h
  | succ ml6 =>
  rw [Be] at h
  refine AP hN J O Hy (Ap (Ap w ow) ow) z ow ow ?_
  refine rg [0,3,5,6,17,18,19,20] hs ?_
  apply Ah;intro K8 ao
  refine AL h hs (fun hs h=>?_) (fun hs h=>?_)
  rotate_left
  ·have F:=hs.1
   refine sx [0,3,5,6] hs a5 ?_
   exact ⟨b,a,([]),Rl6,ef hs,ef hs,z,h⟩
  have F:=hs.1
  refine sk [0,3,5,6,17,18,19] hs ao ?_
  clear ao
  refine Av (fun e st=>∃ (p:Bool) (j:Bool) (Xk11:List (List AV)) (Rk11:List RowA),e=[(0,true,.box la0 0),(3,true,.val (.string a3)),(5,true,.box B.length 0),(6,true,.box (B.length+1) 0),(17,true,.list (a1.fields.map Da) .none),(18,true,.val (.int .i64 (a1.fields.length:Int))),(19,true,.val (.int .i64 v))]∧st=⟨((B.set la0 ([.clo 92 [.box lx0_ok 0],.val (.bool p)])).set lx0_ok ([.val (.bool j)]))++([a1.cs,a2.cs]++Xk11),Rk11,L⟩∧Owns Rw Rk11 []∧BG rec n (Be rec n a1 a2 a3 ml6) v p j=some r) ?_ ?_
  ·intro K12 K
   apply Ak
   obtain ⟨k,aq,h⟩:=bind_some h
   obtain ⟨ay,a6,aa⟩:=AA aq
   have u:=AB (f:=Da) aa
   have hs:=Aa u hs
   refine rg [0,3,5,6,9,17,18,19] hs ?_
   obtain ⟨N,ap,h⟩:=bind_some h
   refine rc 2 [0,3,5,6,9,10,11,17,18,19] hs ?_;intro K15 V
   refine Ai _ (PH w0 n _ _ _ a2 k.2.1 _ ap) (hv hs) ?_
   refine ne hs V ?_
   clear V
   refine rg [0,3,5,6,9,10,17,18,19,30] hs ?_
   refine AL h hs (fun hs h=>?_) (fun hs h=>?_)
   ·have y:=hs.1
    obtain ⟨az,ak,h⟩:=bind_some h
    obtain ⟨au,aw,h⟩:=bind_some h
    apply JP Iw [8] [0,3,5,6,17,18,19] kr (fun s=>∃ (X:List (List AV)) (rows:List RowA) (Y:List AV) (E:List AV),s=⟨((B.set la0 Y).set lx0_ok E)++([a1.cs,a2.cs,.val (.int .i64 k.1)::(.val (.string k.2.1)::(.val (.int .i64 k.2.2.1)::((k.2.2.2.1.cs)++([.list (k.2.2.2.2.map Bo) .none])))),N.1.cs]++X),rows,L⟩) 2 (B.length+4)
    ·simp +decide only [go_sem,Nat.reduceAdd]
    ·rintro s ⟨X,rows,Y,E,rfl⟩
     refine ⟨2,?_⟩
     rw [Am];simp +decide only [go_sem,Nat.reduceAdd,EO,C,F,u,y]
     (repeat' apply Aa)<;>first | refine Ai _ (Nj w0 _ _ _ a3 k.2.1 _ ak) (hv hs) ?_ | exact cl
     rw [Am];simp +decide only [go_sem,Nat.reduceAdd,C,F,u,y]
     (repeat' apply Aa)<;>first | rfl | exact cl
    ·refine Good.mk [8] kr ⟨[],_,_,_,by first | rfl | simp only [List.append_nil,List.nil_append]⟩ ?_ ?_
     ·intro h;exact absurd h (by decide)
     ·intro i hi;simp only [List.mem_cons,List.not_mem_nil,or_false] at hi
      subst hi
      ·apply D3 rfl rfl ev
       ·simp +decide only [go_sem,Nat.reduceAdd,Gt,C,F,u,y]
        (repeat' with_reducible apply Aa)<;>first | exact Q9 (ih _ _ _ lx0_ok la0 b (ef hs) a (ef hs) nq k.2.2.2.1 N.1 az _ aw) (hv hs) | rfl | exact cl
       ·simp +decide only [go_sem,Nat.reduceAdd,C,F,u,y]
        refine Good.mk [] kr ⟨[],_,_,_,by first | rfl | simp only [List.append_nil,List.nil_append]⟩ ?_ ?_
        ·intro _;apply DJ [0,3,5,6,17,18,19];first | (simp +decide only [go_sem,Nat.reduceAdd,C,F,u,y];done) | (simp +decide only [go_sem,Nat.reduceAdd,C,F,u,y];rfl)
        ·intro i hi;cases hi
    simp +decide only [go_sem,Nat.reduceAdd,C,F,u,y]
    (repeat' apply Aa)<;>first | refine K _ _ ⟨au.1,au.2,([.val (.int .i64 k.1)::(.val (.string k.2.1)::(.val (.int .i64 k.2.2.1)::((k.2.2.2.1.cs)++([.list (k.2.2.2.2.map Bo) .none])))),N.1.cs]),Rl6,ef hs,ef hs,z,h⟩ | exact cl
   have y:=hs.1
   refine rg [0,3,5,6,9,17,18,19,42] hs ?_
   refine AL h hs (fun hs h=>?_) (fun hs h=>?_)
   ·obtain ⟨a8,av,h⟩:=bind_some h
    obtain ⟨am,af,h⟩:=bind_some h
    refine rk 3 [0,3,5,6,17,18,19] hs ?_
    refine Ai _ (Nj w0 _ _ _ a3 k.2.1 _ av) (hv hs) ?_
    refine nc hs ?_
    refine Bt _ (B8 w0 _ _ _ lx0_ok la0 b (ef hs) a (ef hs) nq a8 5 _ af) (hv hs) ?_;rintro _ _ ⟨rfl,rfl⟩
    refine ne hs K ?_
    exact ⟨am.1,am.2,([.val (.int .i64 k.1)::(.val (.string k.2.1)::(.val (.int .i64 k.2.2.1)::((k.2.2.2.1.cs)++([.list (k.2.2.2.2.map Bo) .none])))),N.1.cs]),Rl6,ef hs,ef hs,z,h⟩
   refine sk [0,3,5,6,17,18,19] hs K ?_
   exact ⟨b,a,([.val (.int .i64 k.1)::(.val (.string k.2.1)::(.val (.int .i64 k.2.2.1)::((k.2.2.2.1.cs)++([.list (k.2.2.2.2.map Bo) .none])))),N.1.cs]),Rl6,ef hs,ef hs,z,h⟩
  ·clear h;rintro e st ⟨p,j,Xk11,Rk11,rfl,rfl,z,h⟩
   rw [BG] at h
   refine AP hN J O Hy (Ap (Ap w ow) ow) z ow ow ?_
   obtain ⟨a9,h⟩:=Aj h
   refine rl [0,3,5,6,17,18,19] hs (fun e s=>Vl6 ml6 e s (Nat.lt_succ_self _)) ?_
   exact ⟨(v+1),p,j,([]),Rk11,ef hs,ef hs,z,h⟩
 ·clear h;rintro e st ⟨t,o,Xk3,Rk3,rfl,rfl,z,h⟩
  rw [EZ] at h
  refine AP hN J O Hy (Ap (Ap w ow) ow) z ow ow ?_
  refine rg [0,3,5,51,52,53] hs ?_
  apply Ak
  refine AC (fun m e st=>∃ (q:Int) (d:Bool) (c:Bool) (Xl27:List (List AV)) (Rl27:List RowA),e=[(0,true,.box la0 0),(3,true,.val (.string a3)),(5,true,.box B.length 0),(51,true,.list (a2.fields.map B9) .none),(52,true,.val (.int .i64 (a2.fields.length:Int))),(53,true,.val (.int .i64 q))]∧st=⟨((B.set la0 ([.clo 92 [.box lx0_ok 0],.val (.bool d)])).set lx0_ok ([.val (.bool c)]))++([a1.cs,a2.cs]++Xl27),Rl27,L⟩∧Owns Rw Rl27 []∧Bm rec n a1 a2 a3 m q d c=some r) n ⟨0,t,o,([]),Rk3,ef hs,ef hs,z,h⟩ ?_
  rintro ml27 e st ⟨q,d,c,Xl27,Rl27,rfl,rfl,z,h⟩ Ul27 Vl27
  cases ml27 with
  | zero=>cases h
  | succ ml27 =>
  rw [Bm] at h
  refine AP hN J O Hy (Ap (Ap w ow) ow) z ow ow ?_
  refine rg [0,3,5,51,52,53,54] hs ?_
  apply Ah;intro K29 U
  refine AL h hs (fun hs h=>?_) (fun hs h=>?_)
  rotate_left
  ·have H:=hs.1
   refine DU (Do [] _) ?_ (Bg _ _)
   apply KE;simp +decide only [go_sem,Nat.reduceAdd]
   (repeat' with_reducible apply Aa)<;>first | exact cl | skip
   have hgt:=Option.some.inj h;subst hgt
   first | refine DL (Ap (Ap w ow) ow) Hy z.pre ev ⟨?_,by first | rfl | (simp only [Aq hla0,Aq hlx0_ok];done)⟩ | refine E9 (Ap (Ap w ow) ow) Hy z.pre ev ⟨?_,by first | rfl | (simp only [Aq hla0,Aq hlx0_ok];done)⟩
   first | rfl | (simp +decide only [go_sem,Nat.reduceAdd,C,H];done) | (simp +decide only [go_sem,Nat.reduceAdd,Vl.cs,Ty.cs,C,H];done)
  have H:=hs.1
  refine sk [0,3,5,51,52,53] hs U ?_
  clear U
  refine Av (fun e st=>∃ (l:Bool) (g:Bool) (Xk32:List (List AV)) (Rk32:List RowA),e=[(0,true,.box la0 0),(3,true,.val (.string a3)),(5,true,.box B.length 0),(51,true,.list (a2.fields.map B9) .none),(52,true,.val (.int .i64 (a2.fields.length:Int))),(53,true,.val (.int .i64 q))]∧st=⟨((B.set la0 ([.clo 92 [.box lx0_ok 0],.val (.bool l)])).set lx0_ok ([.val (.bool g)]))++([a1.cs,a2.cs]++Xk32),Rk32,L⟩∧Owns Rw Rk32 []∧CN rec n (Bm rec n a1 a2 a3 ml27) q l g=some r) ?_ ?_
  ·intro K33 Q
   apply Ak
   obtain ⟨G,ag,h⟩:=bind_some h
   obtain ⟨a4,a0,ae⟩:=AA ag
   have ab:=AB (f:=B9) ae
   have hs:=Aa ab hs
   refine rg [0,3,5,13,51,52,53] hs ?_
   obtain ⟨D,ar,h⟩:=bind_some h
   refine rc 2 [0,3,5,13,15,51,52,53] hs ?_;intro K36 Z
   refine Ai _ (Fz w0 n _ _ _ a1 G.1 _ ar) (hv hs) ?_
   refine ne hs Z ?_
   clear Z
   refine rg [0,3,5,13,51,52,53,65] hs ?_
   refine AL h hs (fun hs h=>?_) (fun hs h=>?_)
   ·obtain ⟨a7,ah,h⟩:=bind_some h
    obtain ⟨aj,ai,h⟩:=bind_some h
    refine rk 3 [0,3,5,51,52,53] hs ?_
    refine Ai _ (Nj w0 _ _ _ a3 G.1 _ ah) (hv hs) ?_
    refine nc hs ?_
    refine Bt _ (B8 w0 _ _ _ lx0_ok la0 d (ef hs) c (ef hs) nq a7 6 _ ai) (hv hs) ?_;rintro _ _ ⟨rfl,rfl⟩
    refine ne hs Q ?_
    exact ⟨aj.1,aj.2,([.val (.string G.1)::(G.2.cs),.val (.int .i64 D.1.1)::(.val (.string D.1.2.1)::(.val (.int .i64 D.1.2.2.1)::((D.1.2.2.2.1.cs)++([.list (D.1.2.2.2.2.map Bo) .none]))))]),Rl27,ef hs,ef hs,z,h⟩
   refine sk [0,3,5,51,52,53] hs Q ?_
   exact ⟨d,c,([.val (.string G.1)::(G.2.cs),.val (.int .i64 D.1.1)::(.val (.string D.1.2.1)::(.val (.int .i64 D.1.2.2.1)::((D.1.2.2.2.1.cs)++([.list (D.1.2.2.2.2.map Bo) .none]))))]),Rl27,ef hs,ef hs,z,h⟩
  ·clear h;rintro e st ⟨l,g,Xk32,Rk32,rfl,rfl,z,h⟩
   rw [CN] at h
   refine AP hN J O Hy (Ap (Ap w ow) ow) z ow ow ?_
   obtain ⟨ba,h⟩:=Aj h
   refine rl [0,3,5,51,52,53] hs (fun e s=>Vl27 ml27 e s (Nat.lt_succ_self _)) ?_
   exact ⟨(q+1),l,g,([]),Rk32,ef hs,ef hs,z,h⟩
def CG (rec:Bool→Bool→Ty→Vl→ByteArray→Option (Bool × Bool)) (n:Nat) (g:Int→Bool→Bool→Option (Bool × Bool)) (b:Int) (pla0_k53_1:Bool) (plx0_ok_k53:Bool):Option (Bool × Bool) :=
 if BV (b+1) then
  g (b+1) pla0_k53_1 plx0_ok_k53
 else none
def Bn (rec:Bool→Bool→Ty→Vl→ByteArray→Option (Bool × Bool)) (n:Nat) (y:Ty) (s:Vl) (g:ByteArray):Nat→Int→Bool→Bool→Option (Bool × Bool)
 | 0,_,_,_=>none
 | m+1,b,pla0_l48_1,plx0_ok_l48 =>
  if decide (b<(s.list.length:Int)) then
   (Cb s.list b).bind fun x56 =>
   if g.size+((⟨#[91]⟩:ByteArray)).size≤9223372036854775807 then
    if BV (b) then
     if (g++((⟨#[91]⟩:ByteArray))).size+((⟨(Lib.itoa b).toArray⟩:ByteArray)).size≤9223372036854775807 then
      if ((g++((⟨#[91]⟩:ByteArray)))++((⟨(Lib.itoa b).toArray⟩:ByteArray))).size+((⟨#[93]⟩:ByteArray)).size≤9223372036854775807 then
       if decide ((y.elem.length:Int)=1) then
        (Cb y.elem 0).bind fun x64 =>
        (rec pla0_l48_1 plx0_ok_l48 x64 x56 (((g++((⟨#[91]⟩:ByteArray)))++((⟨(Lib.itoa b).toArray⟩:ByteArray)))++((⟨#[93]⟩:ByteArray)))).bind fun q =>
        CG rec n (Bn rec n y s g m) b q.1 q.2
       else
        (Bi pla0_l48_1 plx0_ok_l48 (((g++((⟨#[91]⟩:ByteArray)))++((⟨(Lib.itoa b).toArray⟩:ByteArray)))++((⟨#[93]⟩:ByteArray))) 1).bind fun h =>
        CG rec n (Bn rec n y s g m) b h.1 h.2
      else none
     else none
    else none
   else none
  else
   some ((pla0_l48_1,plx0_ok_l48))
def CC (rec:Bool→Bool→Ty→Vl→ByteArray→Option (Bool × Bool)) (n:Nat) (x0_ok:Bool) (a0_done:Bool) (b:Ty) (h:Vl) (q:ByteArray) (g:Bool):Option (Bool × Bool) :=
 if g then
  if (decide (b.kind=4))&&(decide (0<(b.words.length:Int))) then
   (Bz n b.words h.text).bind fun y39 =>
   if !y39 then
    (Bi a0_done x0_ok q 4).bind fun y41 =>
    some ((y41.1,y41.2))
   else
    some ((a0_done,x0_ok))
  else
   (Bv a0_done x0_ok b q (h.text.size:Int)).bind fun s =>
   some ((s.1,s.2))
 else
  if decide (b.kind=8) then
   (Bv a0_done x0_ok b q (h.list.length:Int)).bind fun y =>
   Bn rec n b h q n 0 y.1 y.2
  else
   if decide (b.kind=9) then
    (Hl rec n a0_done x0_ok b h q).bind fun y70 =>
    some ((y70.1,y70.2))
   else
    if decide (b.kind=10) then
     (C3 n b h.text).bind fun y74 =>
     if y74.2 then
      (Cb h.list 0).bind fun x77 =>
      if q.size+((⟨#[63]⟩:ByteArray)).size≤9223372036854775807 then
       if (q++((⟨#[63]⟩:ByteArray))).size+h.text.size≤9223372036854775807 then
        (rec a0_done x0_ok y74.1.2.2.2.1 x77 ((q++((⟨#[63]⟩:ByteArray)))++h.text)).bind fun y80 =>
        some ((y80.1,y80.2))
       else none
      else none
     else
      (Bi a0_done x0_ok q 7).bind fun y81 =>
      some ((y81.1,y81.2))
    else
     some ((a0_done,x0_ok))
def BH (rec:Bool→Bool→Ty→Vl→ByteArray→Option (Bool × Bool)) (n:Nat) (x0_ok:Bool) (a0_done:Bool) (g:Ty) (h:Vl) (q:ByteArray) (b:Bool):Option (Bool × Bool) :=
 if b then
  (Bv a0_done x0_ok g q h.int).bind fun s =>
  some ((s.1,s.2))
 else
  if decide (g.kind=3) then
   if !(decide (h.scale=g.scale)) then
    (Bi a0_done x0_ok q 3).bind fun y28 =>
    some ((y28.1,y28.2))
   else
    (Bv a0_done x0_ok g q h.int).bind fun y =>
    some ((y.1,y.2))
  else
   if decide (g.kind=4) then
    CC rec n x0_ok a0_done g h q true
   else
    CC rec n x0_ok a0_done g h q (decide (g.kind=5))
def Gz (rec:Bool→Bool→Ty→Vl→ByteArray→Option (Bool × Bool)) (n:Nat) (a0_done:Bool) (x0_ok:Bool) (b:Ty) (g:Vl) (h:ByteArray):Option (Bool × Bool) :=
 if a0_done then
  some ((a0_done,x0_ok))
 else
  if ((decide (b.kind<1))||(decide (10<b.kind)))||(!(decide (g.kind=b.kind))) then
   (Bi a0_done x0_ok h 1).bind fun y =>
   some ((y.1,y.2))
  else
   (G4 n g).bind fun s =>
   if !s then
    (Bi a0_done x0_ok h 8).bind fun q =>
    some ((q.1,q.2))
   else
    if decide (b.kind=2) then
     BH rec n x0_ok a0_done b g h true
    else
     if decide (b.kind=6) then
      BH rec n x0_ok a0_done b g h true
     else
      BH rec n x0_ok a0_done b g h (decide (b.kind=7))
def B7:Nat→Bool→Bool→Ty→Vl→ByteArray→Option (Bool × Bool)
 | 0,_,_,_,_,_=>none
 | n+1,a0_done,x0_ok,b,h,g=>Gz (B7 n) n a0_done x0_ok b h g
def Is (w0:World) (F:Bool→Bool→Ty→Vl→ByteArray→Option (Bool × Bool)):Prop:=∀ (B:List (List AV)) (Rw:List RowA) (L:List LoopA) (lx0_ok:Nat) (la0:Nat) (a0_done:Bool) (hla0:B[la0]? = some ([.clo 92 [.box lx0_ok 0],.val (.bool a0_done)])) (x0_ok:Bool) (hlx0_ok:B[lx0_ok]? = some ([.val (.bool x0_ok)])) (hne_lx0_ok_la0:lx0_ok≠la0) (b:Ty) (h:Vl) (g:ByteArray) (r:Bool × Bool),F a0_done x0_ok b h g=some r→ACalls Tryz.prog w0 93 [.box la0 0,.agg (b.cs),.agg (h.cs),.val (.string g)] ⟨B,Rw,L⟩ fun x st=>x = .tup []∧st=⟨((B.set la0 ([.clo 92 [.box lx0_ok 0],.val (.bool r.1)])).set lx0_ok [.val (.bool r.2)]),Rw,L⟩
theorem N3 (w0:World) (hP:Pow10 w0) (hT:Lib.Utf8Tabs 0 1 w0) (rec:Bool→Bool→Ty→Vl→ByteArray→Option (Bool × Bool)) (ih:Is w0 rec) (n:Nat):Is w0 (Gz rec n):=by
 intro B Rw L j C t q y a v a1 a2 a3 r h
 rw [Gz] at h
 refine hd [] Tryz.func93 Tryz.ntmps93 fun M0 W0 hN ak am g hu G hs=>?_
 simp only [Au]
 have b1:=(Ag.1 q).1
 have a5:=(Ag.1 a).1
 have l:=Aa (An q) (Aa (An a) (Aa (C2 q v) (Aa (C2 a (Ne.symm v)) (Aa (QR v) (Aa (La q j) (Aa (La a C) (Aa (Lu q C j) (Aa (Lu a C j) (Aa (Je j) (Aa (Je C) (Aa (Ww q v) (SN a (Ne.symm v)))))))))))))
 have hs:=Aa l hs
 refine rg [0,3,5,6] hs ?_
 apply Ah;intro K2 bv
 apply Ak
 refine rg [0,3,5,6,13] hs ?_
 refine AL h hs (fun hs h=>?_) (fun hs h=>?_)
 ·have k:=hs.1
  apply A3;simp +decide only [go_sem,Nat.reduceAdd,l,k]
  have hgt:=Option.some.inj h;subst hgt
  first | refine DL g rfl G.pre ev ⟨?_,by first | rfl | (simp only [Aq q,Aq a];done)⟩ | refine E9 g rfl G.pre ev ⟨?_,by first | rfl | (simp only [Aq q,Aq a];done)⟩
  first | rfl | (simp +decide only [go_sem,Nat.reduceAdd,l,k];done) | (simp +decide only [go_sem,Nat.reduceAdd,Vl.cs,Ty.cs,l,k];done)
 have k:=hs.1
 refine rg [0,3,5,6,18] hs ?_
 refine AL h hs (fun hs h=>?_) (fun hs h=>?_)
 ·have p:=hs.1
  obtain ⟨y8,ca,h⟩:=bind_some h
  refine rc 2 [] hs ?_;intro K7 bf
  refine Bt _ (B8 w0 _ _ _ j C t (ef hs) y (ef hs) nq a3 1 _ ca) (hv hs) ?_;rintro _ _ ⟨rfl,rfl⟩
  refine ne hs bf ?_
  clear bf
  apply A3;simp +decide only [go_sem,Nat.reduceAdd,l,k,p]
  have hgt:=Option.some.inj h;subst hgt
  first | refine DL (Ap (Ap g ow) ow) Hy G.pre ev ⟨?_,by first | rfl | (simp only [Aq q,Aq a];done)⟩ | refine E9 (Ap (Ap g ow) ow) Hy G.pre ev ⟨?_,by first | rfl | (simp only [Aq q,Aq a];done)⟩
  first | rfl | (simp +decide only [go_sem,Nat.reduceAdd,l,k,p];done) | (simp +decide only [go_sem,Nat.reduceAdd,Vl.cs,Ty.cs,l,k,p];done)
 have p:=hs.1
 obtain ⟨ce,bq,h⟩:=bind_some h
 refine rc 2 [0,3,5,6,37] hs ?_;intro K9 be
 refine Ai _ (O7 w0 hT n _ _ _ a2 _ bq) (hv hs) ?_
 refine ne hs be ?_
 clear be
 refine AL h hs (fun hs h=>?_) (fun hs h=>?_)
 ·have b:=hs.1
  obtain ⟨cc,bl,h⟩:=bind_some h
  refine rc 2 [] hs ?_;intro K12 av
  refine Bt _ (B8 w0 _ _ _ j C t (ef hs) y (ef hs) nq a3 8 _ bl) (hv hs) ?_;rintro _ _ ⟨rfl,rfl⟩
  refine ne hs av ?_
  clear av
  apply A3;simp +decide only [go_sem,Nat.reduceAdd,l,k,p,b]
  have hgt:=Option.some.inj h;subst hgt
  first | refine DL (Ap (Ap g ow) ow) Hy G.pre ev ⟨?_,by first | rfl | (simp only [Aq q,Aq a];done)⟩ | refine E9 (Ap (Ap g ow) ow) Hy G.pre ev ⟨?_,by first | rfl | (simp only [Aq q,Aq a];done)⟩
  first | rfl | (simp +decide only [go_sem,Nat.reduceAdd,l,k,p,b];done) | (simp +decide only [go_sem,Nat.reduceAdd,Vl.cs,Ty.cs,l,k,p,b];done)
 have b:=hs.1
 refine sk [0,3,5,6] hs bv ?_
 clear bv
 refine rg [0,3,5,6,45] hs ?_
 apply Ak
 refine Av (fun e st=>∃ (ae:Bool),Ck e st B Rw L [(0,true,.box C 0),(3,true,.val (.string a3)),(5,true,.box B.length 0),(6,true,.box (B.length+1) 0),(45,true,.val (.int .i64 a1.kind)),(46,true,.val (.bool ae))] [a1.cs,a2.cs] [] (BH rec n y t a1 a2 a3 ae=some r)) ?_ ?_
 ·intro K17 ai
  refine rg [0,3,5,6,45,46] hs ?_
  refine AL h hs (fun hs h=>?_) (fun hs h=>?_)
  ·refine sk [0,3,5,6,45,46] hs ai ?_
   exact ⟨true,([]),Rw,ef hs,ef hs,G,h⟩
  refine rg [0,3,5,6,45,46] hs ?_
  refine AL h hs (fun hs h=>?_) (fun hs h=>?_)
  ·refine sk [0,3,5,6,45,46] hs ai ?_
   exact ⟨true,([]),Rw,ef hs,ef hs,G,h⟩
  refine rl [0,3,5,6,45,46] hs ai ?_
  exact ⟨(decide (a1.kind=7)),([]),Rw,ef hs,ef hs,G,h⟩
 ·clear h;rintro e st ⟨ae,Xk16,Rk16,rfl,rfl,G,h⟩
  rw [BH] at h
  refine td hN ak am g G ?_
  refine AL h hs (fun hs h=>?_) (fun hs h=>?_)
  ·have c:=hs.1
   obtain ⟨ci,bp,h⟩:=bind_some h
   apply Ao 2 []
   rw [Am];simp +decide only [go_sem,Nat.reduceAdd,l,k,p,b,c]
   (repeat' apply Aa)<;>first | (refine Bt _ (EJ w0 _ _ _ j C t (ef hs) y (ef hs) nq a1 a3 a2.int _ bp) (hv hs) ?_;rintro _ _ ⟨rfl,rfl⟩) | exact cl
   rw [Am];simp +decide only [go_sem,Nat.reduceAdd,l,k,p,b,c]
   (repeat' with_reducible apply Aa)<;>first | exact cl | skip
   have hgt:=Option.some.inj h;subst hgt
   first | refine DL (Ap (Ap g ow) ow) Hy G.pre ev ⟨?_,by first | rfl | (simp only [Aq q,Aq a];done)⟩ | refine E9 (Ap (Ap g ow) ow) Hy G.pre ev ⟨?_,by first | rfl | (simp only [Aq q,Aq a];done)⟩
   first | rfl | (simp +decide only [go_sem,Nat.reduceAdd,l,k,p,b,c];done) | (simp +decide only [go_sem,Nat.reduceAdd,Vl.cs,Ty.cs,l,k,p,b,c];done)
  have c:=hs.1
  refine rg [0,3,5,6,45,56] hs ?_
  refine AL h hs (fun hs h=>?_) (fun hs h=>?_)
  ·have d:=hs.1
   refine rg [0,3,5,6,62] hs ?_
   refine AL h hs (fun hs h=>?_) (fun hs h=>?_)
   ·have aa:=hs.1
    obtain ⟨cj,bb,h⟩:=bind_some h
    apply Ao 2 []
    rw [Am];simp +decide only [go_sem,Nat.reduceAdd,l,k,p,b,c,d,aa]
    (repeat' apply Aa)<;>first | (refine Bt _ (B8 w0 _ _ _ j C t (ef hs) y (ef hs) nq a3 3 _ bb) (hv hs) ?_;rintro _ _ ⟨rfl,rfl⟩) | exact cl
    rw [Am];simp +decide only [go_sem,Nat.reduceAdd,l,k,p,b,c,d,aa]
    (repeat' with_reducible apply Aa)<;>first | exact cl | skip
    have hgt:=Option.some.inj h;subst hgt
    first | refine DL (Ap (Ap g ow) ow) Hy G.pre ev ⟨?_,by first | rfl | (simp only [Aq q,Aq a];done)⟩ | refine E9 (Ap (Ap g ow) ow) Hy G.pre ev ⟨?_,by first | rfl | (simp only [Aq q,Aq a];done)⟩
    first | rfl | (simp +decide only [go_sem,Nat.reduceAdd,l,k,p,b,c,d,aa];done) | (simp +decide only [go_sem,Nat.reduceAdd,Vl.cs,Ty.cs,l,k,p,b,c,d,aa];done)
   have aa:=hs.1
   obtain ⟨cf,bd,h⟩:=bind_some h
   apply Ao 2 []
   rw [Am];simp +decide only [go_sem,Nat.reduceAdd,l,k,p,b,c,d,aa]
   (repeat' apply Aa)<;>first | (refine Bt _ (EJ w0 _ _ _ j C t (ef hs) y (ef hs) nq a1 a3 a2.int _ bd) (hv hs) ?_;rintro _ _ ⟨rfl,rfl⟩) | exact cl
   rw [Am];simp +decide only [go_sem,Nat.reduceAdd,l,k,p,b,c,d,aa]
   (repeat' with_reducible apply Aa)<;>first | exact cl | skip
   have hgt:=Option.some.inj h;subst hgt
   first | refine DL (Ap (Ap g ow) ow) Hy G.pre ev ⟨?_,by first | rfl | (simp only [Aq q,Aq a];done)⟩ | refine E9 (Ap (Ap g ow) ow) Hy G.pre ev ⟨?_,by first | rfl | (simp only [Aq q,Aq a];done)⟩
   first | rfl | (simp +decide only [go_sem,Nat.reduceAdd,l,k,p,b,c,d,aa];done) | (simp +decide only [go_sem,Nat.reduceAdd,Vl.cs,Ty.cs,l,k,p,b,c,d,aa];done)
  have d:=hs.1
  refine Av (fun e st=>∃ (ad:Bool),Ck e st B Rw L [(0,true,.box C 0),(3,true,.val (.string a3)),(5,true,.box B.length 0),(6,true,.box (B.length+1) 0),(45,true,.val (.int .i64 a1.kind)),(72,true,.val (.bool ad))] [a1.cs,a2.cs] [] (CC rec n y t a1 a2 a3 ad=some r)) ?_ ?_
  ·intro K32 aw
   refine rg [0,3,5,6,45,72] hs ?_
   refine AL h hs (fun hs h=>?_) (fun hs h=>?_)
   ·refine sk [0,3,5,6,45,72] hs aw ?_
    exact ⟨true,([]),Rk16,ef hs,ef hs,G,h⟩
   refine rl [0,3,5,6,45,72] hs aw ?_
   exact ⟨(decide (a1.kind=5)),([]),Rk16,ef hs,ef hs,G,h⟩
  ·clear h;rintro e st ⟨ad,Xk31,Rk31,rfl,rfl,G,h⟩
   rw [CC] at h
   refine td hN ak am g G ?_
   refine AL h hs (fun hs h=>?_) (fun hs h=>?_)
   ·have o:=hs.1
    refine rg [0,3,5,6,83] hs ?_
    refine AL h hs (fun hs h=>?_) (fun hs h=>?_)
    ·have V:=hs.1
     obtain ⟨ch,bu,h⟩:=bind_some h
     refine rc 2 [0,3,89] hs ?_;intro K38 ar
     refine Ai _ (EH w0 n _ _ _ a1.words a2.text _ bu) (hv hs) ?_
     refine ne hs ar ?_
     clear ar
     refine AL h hs (fun hs h=>?_) (fun hs h=>?_)
     ·have ab:=hs.1
      obtain ⟨ck,bh,h⟩:=bind_some h
      apply Ao 2 []
      rw [Am];simp +decide only [go_sem,Nat.reduceAdd,l,k,p,b,c,d,o,V,ab]
      (repeat' apply Aa)<;>first | (refine Bt _ (B8 w0 _ _ _ j C t (ef hs) y (ef hs) nq a3 4 _ bh) (hv hs) ?_;rintro _ _ ⟨rfl,rfl⟩) | exact cl
      rw [Am];simp +decide only [go_sem,Nat.reduceAdd,l,k,p,b,c,d,o,V,ab]
      (repeat' with_reducible apply Aa)<;>first | exact cl | skip
      have hgt:=Option.some.inj h;subst hgt
      first | refine DL (Ap (Ap g ow) ow) Hy G.pre ev ⟨?_,by first | rfl | (simp only [Aq q,Aq a];done)⟩ | refine E9 (Ap (Ap g ow) ow) Hy G.pre ev ⟨?_,by first | rfl | (simp only [Aq q,Aq a];done)⟩
      first | rfl | (simp +decide only [go_sem,Nat.reduceAdd,l,k,p,b,c,d,o,V,ab];done) | (simp +decide only [go_sem,Nat.reduceAdd,Vl.cs,Ty.cs,l,k,p,b,c,d,o,V,ab];done)
     have ab:=hs.1
     refine DU (Do [] _) ?_ (Bg _ _)
     apply Bl;simp +decide only [go_sem,Nat.reduceAdd]
     (repeat' with_reducible apply Aa)<;>first | exact cl | skip
     have hgt:=Option.some.inj h;subst hgt
     first | refine DL g rfl G.pre ev ⟨?_,by first | rfl | (simp only [Aq q,Aq a];done)⟩ | refine E9 g rfl G.pre ev ⟨?_,by first | rfl | (simp only [Aq q,Aq a];done)⟩
     first | rfl | (simp +decide only [go_sem,Nat.reduceAdd,l,k,p,b,c,d,o,V,ab];done) | (simp +decide only [go_sem,Nat.reduceAdd,Vl.cs,Ty.cs,l,k,p,b,c,d,o,V,ab];done)
    have V:=hs.1
    obtain ⟨cd,b0,h⟩:=bind_some h
    apply Ao 2 []
    rw [Am];simp +decide only [go_sem,Nat.reduceAdd,l,k,p,b,c,d,o,V]
    (repeat' apply Aa)<;>first | (refine Bt _ (EJ w0 _ _ _ j C t (ef hs) y (ef hs) nq a1 a3 (a2.text.size:Int) _ b0) (hv hs) ?_;rintro _ _ ⟨rfl,rfl⟩) | exact cl
    rw [Am];simp +decide only [go_sem,Nat.reduceAdd,l,k,p,b,c,d,o,V]
    (repeat' with_reducible apply Aa)<;>first | exact cl | skip
    have hgt:=Option.some.inj h;subst hgt
    first | refine DL (Ap (Ap g ow) ow) Hy G.pre ev ⟨?_,by first | rfl | (simp only [Aq q,Aq a];done)⟩ | refine E9 (Ap (Ap g ow) ow) Hy G.pre ev ⟨?_,by first | rfl | (simp only [Aq q,Aq a];done)⟩
    first | rfl | (simp +decide only [go_sem,Nat.reduceAdd,l,k,p,b,c,d,o,V];done) | (simp +decide only [go_sem,Nat.reduceAdd,Vl.cs,Ty.cs,l,k,p,b,c,d,o,V];done)
   have o:=hs.1
   refine rg [0,3,5,6,45,100] hs ?_
   refine AL h hs (fun hs h=>?_) (fun hs h=>?_)
   ·have u:=hs.1
    obtain ⟨a8,bn,h⟩:=bind_some h
    refine rc 2 [0,3,5,6] hs ?_;intro K45 ao
    refine Bt _ (EJ w0 _ _ _ j C t (ef hs) y (ef hs) nq a1 a3 (a2.list.length:Int) _ bn) (hv hs) ?_;rintro _ _ ⟨rfl,rfl⟩
    refine ne hs ao ?_
    clear ao
    refine rg [0,3,5,110,111,112] hs ?_
    apply Ak
    refine AC (fun m e st=>∃ (w:Int) (D:Bool) (x:Bool) (Xl48:List (List AV)) (Rl48:List RowA),e=[(0,true,.box C 0),(3,true,.val (.string a3)),(5,true,.box B.length 0),(110,true,.list (a2.list.map Bo) .none),(111,true,.val (.int .i64 (a2.list.length:Int))),(112,true,.val (.int .i64 w))]∧st=⟨((B.set C ([.clo 92 [.box j 0],.val (.bool D)])).set j ([.val (.bool x)]))++([a1.cs,a2.cs]++Xl48),Rl48,L⟩∧Owns Rw Rl48 []∧Bn rec n a1 a2 a3 m w D x=some r) n ⟨0,a8.1,a8.2,([]),Rk31,ef hs,ef hs,G,h⟩ ?_
    rintro ml48 e st ⟨w,D,x,Xl48,Rl48,rfl,rfl,G,h⟩ Ul48 Vl48
    cases ml48 with
    | zero=>cases h
    | succ ml48 =>
    rw [Bn] at h
    refine AP hN ak am Hy (Ap (Ap g ow) ow) G ow ow ?_
    refine rg [0,3,5,110,111,112,113] hs ?_
    apply Ah;intro K50 ax
    refine AL h hs (fun hs h=>?_) (fun hs h=>?_)
    rotate_left
    ·have Z:=hs.1
     refine DU (Do [] _) ?_ (Bg _ _)
     apply KE;simp +decide only [go_sem,Nat.reduceAdd]
     (repeat' with_reducible apply Aa)<;>first | exact cl | skip
     have hgt:=Option.some.inj h;subst hgt
     first | refine DL (Ap (Ap g ow) ow) Hy G.pre ev ⟨?_,by first | rfl | (simp only [Aq q,Aq a];done)⟩ | refine E9 (Ap (Ap g ow) ow) Hy G.pre ev ⟨?_,by first | rfl | (simp only [Aq q,Aq a];done)⟩
     first | rfl | (simp +decide only [go_sem,Nat.reduceAdd,l,k,p,b,c,d,o,u,Z];done) | (simp +decide only [go_sem,Nat.reduceAdd,Vl.cs,Ty.cs,l,k,p,b,c,d,o,u,Z];done)
    have Z:=hs.1
    refine sk [0,3,5,110,111,112] hs ax ?_
    clear ax
    refine Av (fun e st=>∃ (H:Bool) (E:Bool) (Xk53:List (List AV)) (Rk53:List RowA),e=[(0,true,.box C 0),(3,true,.val (.string a3)),(5,true,.box B.length 0),(110,true,.list (a2.list.map Bo) .none),(111,true,.val (.int .i64 (a2.list.length:Int))),(112,true,.val (.int .i64 w))]∧st=⟨((B.set C ([.clo 92 [.box j 0],.val (.bool H)])).set j ([.val (.bool E)]))++([a1.cs,a2.cs]++Xk53),Rk53,L⟩∧Owns Rw Rk53 []∧CG rec n (Bn rec n a1 a2 a3 ml48) w H E=some r) ?_ ?_
    ·intro K54 aq
     apply Ak
     obtain ⟨aj,br,h⟩:=bind_some h
     obtain ⟨b4,b8,ay⟩:=AA br
     have Y:=AB (f:=Bo) ay
     have hs:=Aa Y hs
     refine rg [0,3,5,8,9,110,111,112] hs ?_
     obtain ⟨bc,h⟩:=Aj h
     have a6:=bc
     try simp +decide only [go_sem] at a6
     obtain ⟨bg,h⟩:=Aj h
     obtain ⟨ba,h⟩:=Aj h
     have a7:=ba
     try simp +decide only [go_sem] at a7
     obtain ⟨bm,h⟩:=Aj h
     have az:=bm
     try simp +decide only [go_sem] at az
     refine rc 2 [0,3,5,9,10,110,111,112] hs ?_;intro K57 au
     refine Ai _ (ZcV w0 _ _ _ hP w bg) (hv hs) ?_
     refine ne hs au ?_
     clear au
     refine rg [0,3,5,9,10,110,111,112,126] hs ?_
     refine AL h hs (fun hs h=>?_) (fun hs h=>?_)
     ·have af:=hs.1
      obtain ⟨b9,b7,b2,O,h⟩:=ix Ia h
      have Q:(a1.elem.map Ia).getD 0 .junk=_:=O
      obtain ⟨bz,bt,h⟩:=bind_some h
      apply JP Iw [7] [0,3,5,110,111,112] kr (fun s=>∃ (X:List (List AV)) (rows:List RowA) (ag:List AV) (U:List AV),s=⟨((B.set C ag).set j U)++([a1.cs,a2.cs,aj.cs]++X),rows,L⟩) 2 (B.length+3)
      ·simp +decide only [go_sem,Nat.reduceAdd]
      ·rintro s ⟨X,rows,ag,U,rfl⟩
       refine ⟨1,?_⟩
       rw [Am];simp +decide only [go_sem,Nat.reduceAdd,EO,l,k,p,b,c,d,o,u,Z,Y,af,O,Q]
       (repeat' apply Aa)<;>first | rfl | exact cl
      ·refine Good.mk [7] kr ⟨[],_,_,_,by first | rfl | simp only [List.append_nil,List.nil_append]⟩ ?_ ?_
       ·intro h;exact absurd h (by decide)
       ·intro i hi;simp only [List.mem_cons,List.not_mem_nil,or_false] at hi
        subst hi
        ·apply D3 rfl rfl ev
         ·simp +decide only [go_sem,Nat.reduceAdd,Gt,l,k,p,b,c,d,o,u,Z,Y,af,O,Q]
          have hs:=Aa O hs
          have hs:=Aa Q hs
          (repeat' with_reducible apply Aa)<;>first | exact Q9 (ih _ _ _ j C D (ef hs) x (ef hs) nq b9 aj (((a3++((⟨#[91]⟩:ByteArray)))++((⟨(Lib.itoa w).toArray⟩:ByteArray)))++((⟨#[93]⟩:ByteArray))) _ bt) (hv hs) | rfl | exact cl
         ·simp +decide only [go_sem,Nat.reduceAdd,l,k,p,b,c,d,o,u,Z,Y,af,O,Q]
          refine Good.mk [] kr ⟨[],_,_,_,by first | rfl | simp only [List.append_nil,List.nil_append]⟩ ?_ ?_
          ·intro _;apply DJ [0,3,5,110,111,112];first | (simp +decide only [go_sem,Nat.reduceAdd,l,k,p,b,c,d,o,u,Z,Y,af,O,Q];done) | (simp +decide only [go_sem,Nat.reduceAdd,l,k,p,b,c,d,o,u,Z,Y,af,O,Q];rfl)
          ·intro i hi;cases hi
      simp +decide only [go_sem,Nat.reduceAdd,l,k,p,b,c,d,o,u,Z,Y,af,O,Q]
      have hs:=Aa O hs
      have hs:=Aa Q hs
      (repeat' apply Aa)<;>first | refine aq _ _ ⟨bz.1,bz.2,([aj.cs]),Rl48,ef hs,ef hs,G,h⟩ | exact cl
     have af:=hs.1
     obtain ⟨bj,bx,h⟩:=bind_some h
     refine rk 2 [0,3,5,110,111,112] hs ?_
     refine Bt _ (B8 w0 _ _ _ j C D (ef hs) x (ef hs) nq (((a3++((⟨#[91]⟩:ByteArray)))++((⟨(Lib.itoa w).toArray⟩:ByteArray)))++((⟨#[93]⟩:ByteArray))) 1 _ bx) (hv hs) ?_;rintro _ _ ⟨rfl,rfl⟩
     refine ne hs aq ?_
     exact ⟨bj.1,bj.2,([aj.cs]),Rl48,ef hs,ef hs,G,h⟩
    ·clear h;rintro e st ⟨H,E,Xk53,Rk53,rfl,rfl,G,h⟩
     rw [CG] at h
     refine AP hN ak am Hy (Ap (Ap g ow) ow) G ow ow ?_
     obtain ⟨cb,h⟩:=Aj h
     refine rl [0,3,5,110,111,112] hs (fun e s=>Vl48 ml48 e s (Nat.lt_succ_self _)) ?_
     exact ⟨(w+1),H,E,([]),Rk53,ef hs,ef hs,G,h⟩
   have u:=hs.1
   refine rg [0,3,5,6,45,139] hs ?_
   refine AL h hs (fun hs h=>?_) (fun hs h=>?_)
   ·have z:=hs.1
    obtain ⟨cg,bw,h⟩:=bind_some h
    apply Ao 2 []
    rw [Am];simp +decide only [go_sem,Nat.reduceAdd,l,k,p,b,c,d,o,u,z]
    (repeat' apply Aa)<;>first | (refine Bt _ (NS w0 rec ih n _ _ _ j C t (ef hs) y (ef hs) nq a1 a2 a3 _ bw) (hv hs) ?_;rintro _ _ ⟨rfl,rfl⟩) | exact cl
    rw [Am];simp +decide only [go_sem,Nat.reduceAdd,l,k,p,b,c,d,o,u,z]
    (repeat' with_reducible apply Aa)<;>first | exact cl | skip
    have hgt:=Option.some.inj h;subst hgt
    first | refine DL (Ap (Ap g ow) ow) Hy G.pre ev ⟨?_,by first | rfl | (simp only [Aq q,Aq a];done)⟩ | refine E9 (Ap (Ap g ow) ow) Hy G.pre ev ⟨?_,by first | rfl | (simp only [Aq q,Aq a];done)⟩
    first | rfl | (simp +decide only [go_sem,Nat.reduceAdd,l,k,p,b,c,d,o,u,z];done) | (simp +decide only [go_sem,Nat.reduceAdd,Vl.cs,Ty.cs,l,k,p,b,c,d,o,u,z];done)
   have z:=hs.1
   refine rg [0,3,5,6,146] hs ?_
   refine AL h hs (fun hs h=>?_) (fun hs h=>?_)
   ·have F:=hs.1
    obtain ⟨ah,bo,h⟩:=bind_some h
    refine rc 2 [0,3,6,11,12] hs ?_;intro K73 ap
    refine Ai _ (Fz w0 n _ _ _ a1 a2.text _ bo) (hv hs) ?_
    refine ne hs ap ?_
    clear ap
    refine rg [0,3,6,11,155] hs ?_
    refine AL h hs (fun hs h=>?_) (fun hs h=>?_)
    ·have K:=hs.1
     obtain ⟨b6,b3,b5,J,h⟩:=ix Bo h
     have N:(a2.list.map Bo).getD 0 .junk=_:=J
     obtain ⟨bk,h⟩:=Aj h
     have a4:=bk
     try simp +decide only [go_sem] at a4
     obtain ⟨bs,h⟩:=Aj h
     have a0:=bs
     try simp +decide only [go_sem] at a0
     obtain ⟨cn,a9,h⟩:=bind_some h
     refine ZeS (B':=((B.set C ([.clo 92 [.box j 0],.val (.bool t)])).set j ([.val (.bool y)]))) (by simp only [Aq q,Aq a]) ?_
     apply JP Iw [12] [] kr (fun s=>∃ (X:List (List AV)) (rows:List RowA) (ag:List AV) (U:List AV),s=⟨((B.set C ag).set j U)++([a1.cs,a2.cs,.val (.int .i64 ah.1.1)::(.val (.string ah.1.2.1)::(.val (.int .i64 ah.1.2.2.1)::((ah.1.2.2.2.1.cs)++([.list (ah.1.2.2.2.2.map Bo) .none]))))]++X),rows,L⟩) 2 (B.length+3)
     ·simp +decide only [go_sem,Nat.reduceAdd]
     ·rintro s ⟨X,rows,ag,U,rfl⟩
      refine ⟨1,?_⟩
      rw [Am];simp +decide only [go_sem,Nat.reduceAdd,EO,l,k,p,b,c,d,o,u,z,F,K,J,N]
      (repeat' apply Aa)<;>first | rfl | exact cl
     ·refine Good.mk [12] kr ⟨[],_,_,_,by first | rfl | simp only [List.append_nil,List.nil_append]⟩ ?_ ?_
      ·intro h;exact absurd h (by decide)
      ·intro i hi;simp only [List.mem_cons,List.not_mem_nil,or_false] at hi
       subst hi
       ·apply D3 rfl rfl ev
        ·simp +decide only [go_sem,Nat.reduceAdd,Gt,l,k,p,b,c,d,o,u,z,F,K,J,N]
         have hs:=Aa J hs
         have hs:=Aa N hs
         (repeat' with_reducible apply Aa)<;>first | exact Q9 (ih _ _ _ j C t (ef hs) y (ef hs) nq ah.1.2.2.2.1 b6 ((a3++((⟨#[63]⟩:ByteArray)))++a2.text) _ a9) (hv hs) | rfl | exact cl
        ·simp +decide only [go_sem,Nat.reduceAdd,l,k,p,b,c,d,o,u,z,F,K,J,N]
         refine Good.mk [] kr ⟨[],_,_,_,by first | rfl | simp only [List.append_nil,List.nil_append]⟩ ?_ ?_
         ·intro _;apply DJ [];first | (simp +decide only [go_sem,Nat.reduceAdd,l,k,p,b,c,d,o,u,z,F,K,J,N];done) | (simp +decide only [go_sem,Nat.reduceAdd,l,k,p,b,c,d,o,u,z,F,K,J,N];rfl)
         ·intro i hi;cases hi
     simp +decide only [go_sem,Nat.reduceAdd,l,k,p,b,c,d,o,u,z,F,K,J,N]
     (repeat' with_reducible apply Aa)<;>first | exact cl | skip
     have hgt:=Option.some.inj h;subst hgt
     first | refine DL (Ap (Ap g ow) ow) Hy G.pre ev ⟨?_,by first | rfl | (simp only [Aq q,Aq a];done)⟩ | refine E9 (Ap (Ap g ow) ow) Hy G.pre ev ⟨?_,by first | rfl | (simp only [Aq q,Aq a];done)⟩
     first | rfl | (simp +decide only [go_sem,Nat.reduceAdd,l,k,p,b,c,d,o,u,z,F,K,J,N];done) | (simp +decide only [go_sem,Nat.reduceAdd,Vl.cs,Ty.cs,l,k,p,b,c,d,o,u,z,F,K,J,N];done)
    have K:=hs.1
    obtain ⟨co,bi,h⟩:=bind_some h
    apply Ao 2 []
    rw [Am];simp +decide only [go_sem,Nat.reduceAdd,l,k,p,b,c,d,o,u,z,F,K]
    (repeat' apply Aa)<;>first | (refine Bt _ (B8 w0 _ _ _ j C t (ef hs) y (ef hs) nq a3 7 _ bi) (hv hs) ?_;rintro _ _ ⟨rfl,rfl⟩) | exact cl
    rw [Am];simp +decide only [go_sem,Nat.reduceAdd,l,k,p,b,c,d,o,u,z,F,K]
    (repeat' with_reducible apply Aa)<;>first | exact cl | skip
    have hgt:=Option.some.inj h;subst hgt
    first | refine DL (Ap (Ap g ow) ow) Hy G.pre ev ⟨?_,by first | rfl | (simp only [Aq q,Aq a];done)⟩ | refine E9 (Ap (Ap g ow) ow) Hy G.pre ev ⟨?_,by first | rfl | (simp only [Aq q,Aq a];done)⟩
    first | rfl | (simp +decide only [go_sem,Nat.reduceAdd,l,k,p,b,c,d,o,u,z,F,K];done) | (simp +decide only [go_sem,Nat.reduceAdd,Vl.cs,Ty.cs,l,k,p,b,c,d,o,u,z,F,K];done)
   have F:=hs.1
   refine DU (Do [] _) ?_ (Bg _ _)
   apply Bl;simp +decide only [go_sem,Nat.reduceAdd]
   (repeat' with_reducible apply Aa)<;>first | exact cl | skip
   have hgt:=Option.some.inj h;subst hgt
   first | refine DL g rfl G.pre ev ⟨?_,by first | rfl | (simp only [Aq q,Aq a];done)⟩ | refine E9 g rfl G.pre ev ⟨?_,by first | rfl | (simp only [Aq q,Aq a];done)⟩
   first | rfl | (simp +decide only [go_sem,Nat.reduceAdd,l,k,p,b,c,d,o,u,z,F];done) | (simp +decide only [go_sem,Nat.reduceAdd,Vl.cs,Ty.cs,l,k,p,b,c,d,o,u,z,F];done)
theorem KD (w0:World) (hP:Pow10 w0) (hT:Lib.Utf8Tabs 0 1 w0):∀ n:Nat,Is w0 (B7 n)
 | 0=>fun _ _ _ _ _ _ _ _ _ _ _ _ _ _ h=>(nomatch h)
 | n+1=>N3 w0 hP hT (B7 n) (KD w0 hP hT n) n
def Kx (n:Nat) (h:Ty) (b:Vl):Option Bool :=
 (B7 n false true h b ((⟨#[]⟩:ByteArray))).bind fun g =>
 some (g.2)
theorem Yb (w0:World) (hP:Pow10 w0) (hT:Lib.Utf8Tabs 0 1 w0) (n:Nat) (B:List (List AV)) (Rw:List RowA) (L:List LoopA) (a0:Ty) (a1:Vl) (r:Bool) (h:Kx n a0 a1=some r) :
  ACalls Tryz.prog w0 39 [.agg (a0.cs),.agg (a1.cs)] ⟨B,Rw,L⟩ fun x st=>x = .val (.bool r)∧st=⟨B,Rw,L⟩:=by
 rw [Kx] at h
 refine hd [.tmp 4] Tryz.func39 Tryz.ntmps39 fun M0 W0 i f e a g d hs=>?_
 simp only [Au]
 refine rg [2,3] hs ?_
 refine rg [2,3,5] hs ?_
 refine rg [2,3,5,6] hs ?_
 obtain ⟨j,c,h⟩:=bind_some h
 refine rc 2 [5] hs ?_;intro K4 b
 refine Bt _ (KD w0 hP hT n _ _ _ (B.length+2) (B.length+3) false ev true ev nq a0 a1 ((⟨#[]⟩:ByteArray)) _ c) (hv hs) ?_;rintro _ _ ⟨rfl,rfl⟩
 refine ne hs b ?_
 clear b
 refine rg [4] hs ?_
 exact rt h hs a d
def Ft (n:Nat) (h:Ty) (s:Vl):Option (Vl × Int) :=
 (CU n h s).bind fun g =>
 (Kx n h g).bind fun q =>
 if !q then
  some ((Vl.mk 0 0 0 ((⟨#[]⟩:ByteArray)) ([]) ([]),18))
 else
  (BN n g).bind fun b =>
  some ((b,0))
theorem NE (w0:World) (hP:Pow10 w0) (hT:Lib.Utf8Tabs 0 1 w0) (n:Nat) (B:List (List AV)) (Rw:List RowA) (L:List LoopA) (a0:Ty) (a1:Vl) (r:Vl × Int) (h:Ft n a0 a1=some r) :
  ACalls Tryz.prog w0 31 [.agg (a0.cs),.agg (a1.cs)] ⟨B,Rw,L⟩ fun x st=>x = .tup [.agg (r.1.cs),.val (.int .i64 r.2)]∧st=⟨B,Rw,L⟩:=by
 rw [Ft] at h
 refine hd [.cell 4 46,.tmp 5] Tryz.func31 Tryz.ntmps31 fun M0 W0 s o m a q j hs=>?_
 simp only [Au]
 refine rg [2,3,4] hs ?_
 obtain ⟨k,i,h⟩:=bind_some h
 refine rc 2 [2,4,6] hs ?_;intro K2 f
 refine Ai _ (NF w0 hT n _ _ _ a0 a1 _ i) (hv hs) ?_
 refine ne hs f ?_
 clear f
 apply Ah;intro K4 d
 obtain ⟨p,g,h⟩:=bind_some h
 refine rc 2 [4,6,13] hs ?_;intro K5 c
 refine Ai _ (Yb w0 hP hT n _ _ _ a0 k _ g) (hv hs) ?_
 refine ne hs c ?_
 clear c
 refine AL h hs (fun hs h=>?_) (fun hs h=>?_)
 ·refine rg [4,5] hs ?_
  exact rt h hs a j
 refine sk [4,6] hs d ?_
 clear d
 obtain ⟨l,e,h⟩:=bind_some h
 refine rc 2 [4,5] hs ?_;intro K9 b
 refine Ai _ (GO w0 n _ _ _ k _ e) (hv hs) ?_
 refine ne hs b ?_
 clear b
 exact rt h hs a j
def ssB:List (ByteArray × Vl)→Bool
 | p::q::r=>Wq p.1 q.1&&ssB (q::r)
 | _=>true
theorem Zdg:∀ l,ssB l=true↔SS l
 | []=>by simp [ssB,SS]
 | [p]=>by simp [ssB,SS]
 | p::q::r=>by
  rw [ssB,Bool.and_eq_true,Zdg (q::r),Z8,decide_eq_true_eq]
  unfold SS
  rw [List.pairwise_cons (a:=p)]
  constructor
  ·rintro ⟨c,b⟩
   refine ⟨fun x hx=>?_,b⟩
   rcases List.mem_cons.1 hx with rfl | hx
   ·exact c
   ·exact QS c ((List.pairwise_cons.1 b).1 x hx)
  ·rintro ⟨c,b⟩
   exact ⟨c q (by simp),b⟩
def bare (i s t l f:Bool) (v:Vl):Bool:=(i||decide (v.int=0))&&(s||decide (v.scale=0))&&(t||DK v.text ⟨#[]⟩)&&(l||decide (v.list.length=0))&&(f||decide (v.fields.length=0))
def DD (v:Vl):Bool :=
 if v.kind=1 then (decide (v.int=0)||decide (v.int=1))&&bare true false false false false v
 else if v.kind=2∨v.kind=6∨v.kind=7 then bare true false false false false v
 else if v.kind=3 then bare true true false false false v
 else if v.kind=4 then Lib.validD v.text.data.toList&&bare false false true false false v
 else if v.kind=5 then bare false false true false false v
 else if v.kind=8 then bare false false false true false v
 else if v.kind=9 then ssB v.fields&&bare false false false false true v
 else if v.kind=10 then decide (v.list.length=1)&&bare false false true true false v
 else bare false false false false false v
theorem ZjH (k:Nat):decide ((k:Int)=0)=decide (k=0):=by rw [decide_eq_decide];omega
theorem On (n:Nat) (k i s:Int) (t:ByteArray) (l:List Vl) (f:List (ByteArray × Vl)):BW n (Vl.mk k i s t l f)=some (decide (i=0)&&decide (s=0)&&DK t ⟨#[]⟩&&decide (l.length=0)&&decide (f.length=0)):=by
 unfold BW
 change some ((((decide (i=0)&&decide (s=0))&&DK t ⟨#[]⟩)&&decide ((l.length:Int)=0))&&decide ((f.length:Int)=0))=_
 rw [ZjH,ZjH]
theorem PM (n:Nat) (v:Vl) (hl:v.fields.length≤1000000000):∀ (k m j:Nat),v.fields.length≤j+1+k→k<m→DX n v m ((j+1:Nat):Int)=some (ssB (v.fields.drop j)&&bare false false false false true v)
 | k,0,j,_,h=>absurd h (Nat.not_lt_zero _)
 | 0,m+1,j,hj,_=>by
  rw [DX,As,Ac (by omega),Af (by decide),Il,On]
  have:ssB (v.fields.drop j)=true:=by
   match h:v.fields.drop j with
   | []=>rfl
   | [_]=>rfl
   | a::b::r =>
    have:=congrArg List.length h
    simp at this;omega
  rw [this];simp [bare]
 | k+1,m+1,j,hj,hm=>by
  rw [DX,As]
  by_cases q:j+1<v.fields.length
  ·have d:j<v.fields.length:=by omega
   have e:((j+1:Nat):Int)-1=(j:Int):=by omega
   rw [Ad q,Ae rfl,e,Ae (by unfold BV;omega),Ax d,Ab,Ax q,Ab,List.drop_eq_getElem_cons d,List.drop_eq_getElem_cons q,ssB]
   cases c:Wq v.fields[j].1 v.fields[j+1].1 with
   | false=>rw [Ae (by rfl)];rfl
   | true =>
    rw [Af (by decide),Ae (Aw (by omega)),Bool.true_and,←List.drop_eq_getElem_cons q]
    exact PM n v hl k m (j+1) (by omega) (by omega)
  ·have:=PM n v hl 0 (m+1) j (by omega) (by omega)
   rw [DX,As] at this
   exact this
theorem Vt (n:Nat) (v:Vl) (hn:v.fields.length+1<n) (hl:v.fields.length≤1000000000) (ht:v.text.size≤maxLen):G4 n v=some (DD v):=by
 have a:=PM n v hl v.fields.length n 0 (by omega) (by omega)
 rw [List.drop_zero,show ((0+1:Nat):Int)=1 from rfl] at a
 have z:DK (⟨#[]⟩:ByteArray) ⟨#[]⟩=true:=Mc _
 rw [G4,DD]
 by_cases h1:v.kind=1
 ·rw [Ad h1,Ae rfl,Ae h1,On]
  by_cases q0:v.int=0
  ·rw [Ad q0,Bool.not_true,Bool.false_and,Af (by decide)];simp [bare]
  ·by_cases q1:v.int=1
   ·rw [Ad q1,Ac q0,Af (by decide)];simp [bare]
   ·rw [Ac q1,Ac q0,Ae (by rfl)];rfl
 rw [Ac h1,Af (by decide),Af h1]
 by_cases h2:v.kind=2
 ·rw [Ad h2,Ae rfl,Ae (by omega),Dp,Ae rfl,On];simp [bare]
 rw [Ac h2,Af (by decide)]
 by_cases h6:v.kind=6
 ·rw [Ad h6,Ae rfl,Ae (by omega),Dp,Ae rfl,On];simp [bare]
 rw [Ac h6,Af (by decide)]
 by_cases h7:v.kind=7
 ·rw [Ad h7,Ae (by omega),Dp,Ae rfl,On];simp [bare]
 rw [Ac h7,Af (by omega),Dp,Af (by decide)]
 by_cases h3:v.kind=3
 ·rw [Ad h3,Ae rfl,Ae h3,On];simp [bare]
 rw [Ac h3,Af (by decide),Af h3]
 by_cases h4:v.kind=4
 ·rw [Ad h4,Ae rfl,Ae h4,Nc,Ae ht,Ab]
  cases Lib.validD v.text.data.toList with
  | false=>rfl
  | true=>rw [Af (by decide),On,z];simp [bare]
 rw [Ac h4,Af (by decide),Af h4]
 by_cases h5:v.kind=5
 ·rw [Ad h5,Ae rfl,Ae h5,On,z];simp [bare]
 rw [Ac h5,Af (by decide),Af h5]
 by_cases h8:v.kind=8
 ·rw [Ad h8,Ae rfl,Ae h8,On];simp [bare]
 rw [Ac h8,Af (by decide),Af h8]
 by_cases h9:v.kind=9
 ·rw [Ad h9,Ae rfl,Ae h9,a]
 rw [Ac h9,Af (by decide),Af h9]
 by_cases h10:v.kind=10
 ·rw [Ad h10,Ae rfl,Ae h10]
  by_cases q:v.list.length=1
  ·rw [Ad (show (v.list.length:Int)=1 by omega),Af (by decide),On,z,Ad q];simp [bare]
  ·rw [Ac (show ¬ (v.list.length:Int)=1 by omega),Ae (by rfl),Ac q];rfl
 ·rw [Ac h10,Af (by decide),Af h10]
  have:=On n v.kind v.int v.scale v.text v.list v.fields
  rw [Vl.eta] at this
  rw [this];simp [bare]
def QT (l:List (ByteArray × Vl)) (w:ByteArray):Nat:=(l.takeWhile fun q=>decide (EM q.1 w<0)).length
theorem Zcq (l:List (ByteArray × Vl)) (w:ByteArray):QT l w≤l.length:=(List.takeWhile_sublist _).length_le
theorem ZfJ {p:ByteArray × Vl} {r:List (ByteArray × Vl)} {w:ByteArray}:QT (p::r) w=if EM p.1 w<0 then QT r w+1 else 0:=by
 unfold QT
 by_cases q:EM p.1 w<0
 ·rw [List.takeWhile_cons_of_pos (by simpa using q),Ae q];rfl
 ·rw [List.takeWhile_cons_of_neg (by simpa using q),Af q];rfl
theorem NQ (w:ByteArray):∀ (l:List (ByteArray × Vl)),∀ p∈l.take (QT l w),EM p.1 w<0
 | [],p,hp=>by simp at hp
 | q::r,p,hp=>by
  rw [ZfJ] at hp
  by_cases c:EM q.1 w<0
  ·rw [Ae c,List.take_succ_cons] at hp
   rcases List.mem_cons.1 hp with rfl | hp
   ·exact c
   ·exact NQ w r p hp
  ·rw [Af c] at hp;simp at hp
theorem Zc1 (l:List (ByteArray × Vl)) (w:ByteArray) (h:QT l w<l.length):¬ EM l[QT l w].1 w<0:=by
 induction l with
 | nil=>simp at h
 | cons p r ih =>
  by_cases q:EM p.1 w<0
  ·have e:QT (p::r) w=QT r w+1:=by unfold QT;rw [List.takeWhile_cons_of_pos (by simpa using q)];rfl
   simp only [e,List.getElem_cons_succ]
   exact ih (by rw [e] at h;simpa using h)
  ·have e:QT (p::r) w=0:=by unfold QT;rw [List.takeWhile_cons_of_neg (by simpa using q)];rfl
   simp only [e,List.getElem_cons_zero]
   exact q
theorem VM {l:List (ByteArray × Vl)} {w:ByteArray} {k:Nat} (hk:k≤l.length) (h1:∀ i (h:i<k),EM (l[i]'(by omega)).1 w<0) (h2:∀ h:k<l.length,¬ EM l[k].1 w<0):k=QT l w:=by
 rcases Nat.lt_trichotomy k (QT l w) with q | q | q
 ·have b:=Zcq l w
  have a:l[k]'(by omega)∈l.take (QT l w):=List.mem_take_iff_getElem.2 ⟨k,by omega,rfl⟩
  exact absurd (NQ w l _ a) (h2 (by omega))
 ·exact q
 ·exact absurd (h1 (QT l w) q) (Zc1 l w (by omega))
def Zj (l:List (ByteArray × Vl)) (w:ByteArray):Bool:=l.any fun q=>DK q.1 w
theorem OD {l:List (ByteArray × Vl)} {w:ByteArray}:Zj l w=true↔∃ q∈l,q.1=w:=by
 unfold Zj
 rw [List.any_eq_true]
 exact ⟨fun ⟨q,h,e⟩=>⟨q,h,(E3 _ _).1 e⟩,fun ⟨q,h,e⟩=>⟨q,h,(E3 _ _).2 e⟩⟩
theorem Zhb {l:List (ByteArray × Vl)} (hs:SS l) (w:ByteArray) (h:QT l w<l.length):decide (EM l[QT l w].1 w=0)=Zj l w:=by
 have d:=Zc1 l w h
 cases q:Zj l w with
 | true =>
  obtain ⟨x,b,e⟩:=OD.1 q
  obtain ⟨i,a,rfl⟩:=List.mem_iff_getElem.1 b
  have z:EM l[i].1 w=0:=(J5 _ _).2 e
  rcases Nat.lt_trichotomy i (QT l w) with c | c | c
  ·have:=NQ w l l[i] (List.mem_take_iff_getElem.2 ⟨i,by omega,rfl⟩)
   omega
  ·subst c;exact Ad z
  ·have:=List.pairwise_iff_getElem.1 hs _ _ h a c
   rw [e] at this
   exact absurd this d
 | false =>
  refine Ac fun z=>?_
  have:=OD.2 ⟨_,List.getElem_mem h,(J5 _ _).1 z⟩
  rw [this] at q;cases q
theorem ZfE {l:List (ByteArray × Vl)} (w:ByteArray) (h:QT l w=l.length):Zj l w=false:=by
 cases q:Zj l w with
 | false=>rfl
 | true =>
  obtain ⟨x,a,e⟩:=OD.1 q
  have:=NQ w l x (by rw [h,List.take_length];exact a)
  rw [e,OX] at this
  omega
theorem Zdk (n:Nat) (l:List (ByteArray × Vl)) (w:ByteArray) (f:ByteArray × Vl→ByteArray→Option Int) (hf:∀ x,f x w=some (EM x.1 w)) (hs:SS l) (hl:l.length≤1000000000):∀ (k m lo hi:Nat),hi-lo≤k→lo≤hi→hi≤l.length →
  (∀ i (h:i<lo) (h2:i<l.length),EM l[i].1 w<0)→(∀ i (h:hi≤i) (h2:i<l.length),¬ EM l[i].1 w<0)→k<m→A6 n l w f m lo hi=some ((QT l w:Int),Zj l w)
 | k,0,lo,hi,_,_,_,_,_,h=>absurd h (Nat.not_lt_zero _)
 | k,m+1,lo,hi,hk,h1,h2,h3,h4,hm=>by
  rw [A6,As]
  by_cases q:lo<hi
  ·have e:(lo:Int)+(hi:Int)=((lo+hi:Nat):Int):=by omega
   have g:((lo+hi:Nat):Int) / 2=(((lo+hi) / 2:Nat):Int):=by omega
   have d:(lo+hi) / 2<l.length:=by omega
   rw [Ad q,Ae rfl,e,Ae (by unfold BV;omega),Ae (by omega),Ae (by omega),g,Ae (by unfold BV;omega),Ax d,Ab,hf,Ab]
   obtain ⟨k,rfl⟩:∃ j,k=j+1:=⟨k-1,by omega⟩
   by_cases c:EM l[(lo+hi) / 2].1 w<0
   ·rw [Ad c,Ae rfl,Ae (Aw (by omega))]
    refine Zdk n l w f hf hs hl k m ((lo+hi) / 2+1) hi (by omega) (by omega) h2 (fun i a b=>?_) h4 (by omega)
    rcases Nat.lt_or_ge i ((lo+hi) / 2) with z | z
    ·exact QS (List.pairwise_iff_getElem.1 hs i _ b d z) c
    ·obtain rfl:i=(lo+hi) / 2:=by omega
     exact c
   ·rw [Ac c,Af (by decide)]
    refine Zdk n l w f hf hs hl k m lo ((lo+hi) / 2) (by omega) (by omega) (by omega) h3 (fun i a b=>?_) (by omega)
    rcases Nat.lt_or_ge ((lo+hi) / 2) i with z | z
    ·exact fun y=>c (QS (List.pairwise_iff_getElem.1 hs _ i d b z) y)
    ·obtain rfl:i=(lo+hi) / 2:=by omega
     exact c
  ·obtain rfl:lo=hi:=by omega
   have e:=VM (l:=l) (w:=w) h2 (fun i a=>h3 i a (by omega)) (fun a=>h4 lo (Nat.le_refl _) a)
   rw [Ac q,Af (by decide),CL,As,e]
   by_cases c:QT l w<l.length
   ·rw [Ad c,Ae rfl,Ax c,Ab,hf,Ab,Zhb hs w c]
   ·rw [Ac c,Af (by decide),ZfE w (by have:=Zcq l w;omega)]
theorem Zi2 (n:Nat) (l:List (ByteArray × Vl)) (w:ByteArray) (f:ByteArray × Vl→ByteArray→Option Int) (hf:∀ x,f x w=some (EM x.1 w)) (hs:SS l) (hl:l.length≤1000000000) (hn:l.length<n):C0 n l w f=some ((QT l w:Int),Zj l w) :=
 Zdk n l w f hf hs hl l.length n 0 l.length (by omega) (by omega) (Nat.le_refl _) (fun i h=>by omega) (fun i h a=>by omega) hn
def ZeR (p:TF):Option Vl:=if p.2.2.1=3∧p.2.2.2.2.length=1 then p.2.2.2.2[0]? else none
def SH (l:List (ByteArray × Vl)) (w:ByteArray) (x:Vl):List (ByteArray × Vl):=LX l (QT l w:Int) (w,x)
def PK:List TF→List (ByteArray × Vl)→List (ByteArray × Vl)
 | [],l=>l
 | p::ps,l=>match ZeR p with
  | some x=>if Zj l p.2.1=true then PK ps l else PK ps (SH l p.2.1 x)
  | none=>PK ps l
theorem Zab {l:List (ByteArray × Vl)} (hs:SS l) {w:ByteArray} (h:Zj l w=false) (x:Vl):SS (SH l w x):=by
 unfold SH LX
 rw [Int.toNat_natCast]
 have:=Zbu hs (w,x) (fun p a e=>by rw [OD.2 ⟨p,a,e⟩] at h;cases h) (j:=QT l w) (NQ w l) (fun q=>Zc1 l w q)
 simpa using this
theorem Ru (l:List (ByteArray × Vl)) (w:ByteArray) (x:Vl):(SH l w x).Perm ((w,x)::l):=by
 unfold SH LX
 rw [Int.toNat_natCast]
 have:=(List.perm_middle (a:=(w,x)) (l₁:=l.take (QT l w)) (l₂:=l.drop (QT l w)))
 rwa [List.take_append_drop] at this
theorem Yc (l:List (ByteArray × Vl)) (w:ByteArray) (x:Vl):(SH l w x).length=l.length+1:=(Ru l w x).length_eq
def WE (v:Vl) (l:List (ByteArray × Vl)):Vl:=Vl.mk v.kind v.int v.scale v.text v.list l
theorem YA (rec:Ty→Vl→Option Vl) (n:Nat) (t:Ty) (y:Vl) (hl:t.fields.length≤1000000) (hn:1000000000<n):∀ (k m i:Nat) (l:List (ByteArray × Vl)),i+k=t.fields.length→k<m→SS l→l.length+k≤100000000 →
  Br rec n t y m i l=some (WE y (PK (t.fields.drop i) l))
 | k,0,i,l,_,h,_,_=>absurd h (Nat.not_lt_zero _)
 | 0,m+1,i,l,hi,_,_,_=>by
  rw [Br,As,Ac (by omega),Af (by decide),List.drop_eq_nil_of_le (by omega)];rfl
 | k+1,m+1,i,l,hi,hm,hs,hk=>by
  have d:i<t.fields.length:=by omega
  have f:∀ e,SS e→e.length+k≤100000000→DN rec n (Br rec n t y m) i e=some (WE y (PK (t.fields.drop (i+1)) e)):=fun e a b=>by
   rw [DN,Ae (Aw (by omega))]
   exact YA rec n t y hl hn k m (i+1) e (by omega) (by omega) a b
  rw [Br,As,Ad d,Ae rfl,Ax d,Ab,List.drop_eq_getElem_cons d,PK,ZeR]
  by_cases c:t.fields[i].2.2.1=3∧t.fields[i].2.2.2.2.length=1
  ·have g:0<t.fields[i].2.2.2.2.length:=by omega
   rw [Ad c.1,Ad (show (t.fields[i].2.2.2.2.length:Int)=1 by omega),Af (by decide),Zi2 n l _ _ (fun x=>rfl) hs (by omega) (by omega),Ab,Ae c,List.getElem?_eq_getElem g]
   simp only
   cases q:Zj l t.fields[i].2.1 with
   | true=>rw [Af (by decide),Ae rfl];exact f l hs (by omega)
   | false =>
    have j:=Zcq l t.fields[i].2.1
    rw [Ae (by rfl),Af (by decide),show Cb t.fields[i].2.2.2.2 0=some t.fields[i].2.2.2.2[0] from Ax (k:=0) g,Ab,Ae (by omega)]
    exact f _ (Zab hs q _) (by have:=Yc l t.fields[i].2.1 t.fields[i].2.2.2.2[0];rw [SH] at this;rw [this];omega)
  ·rw [Ae,Af c]
   ·exact f l hs (by omega)
   ·rw [Bool.or_eq_true,Bool.not_eq_true',Bool.not_eq_true',decide_eq_false_iff_not,decide_eq_false_iff_not];omega
def ER (f:Ty→Vl→Vl) (t:Ty) (v:Vl):Vl :=
 if t.kind=8 then (match t.elem with | [x]=>Vl.mk v.kind v.int v.scale v.text (v.list.map (f x)) v.fields | _=>v)
 else if t.kind=9 then WE v (v.fields.map fun q=>match B5 t q.1 with | some p=>(q.1,f p.2.2.2.1 q.2) | none=>q)
 else if t.kind=10 then (match B5 t v.text,v.list with | some p,x::_=>Vl.mk v.kind v.int v.scale v.text [f p.2.2.2.1 x] v.fields | _,_=>v)
 else v
def CQ:Nat→Ty→Vl→Vl
 | 0,_,v=>v
 | d+1,t,v=>if v.kind≠t.kind∨DD v=false then v else if t.kind=9 then WE (ER (CQ d) t v) (PK t.fields (ER (CQ d) t v).fields) else ER (CQ d) t v
theorem Zci (n:Nat) (t:Ty) (v:Vl) (a2:Ty→Vl→Option Vl) (f:Ty→Vl→Vl) (hf:∀ q∈v.fields,∀ p,B5 t q.1=some p→a2 p.2.2.2.1 q.2=some (f p.2.2.2.1 q.2)) (ht:t.fields.length≤1000000000) (htn:t.fields.length<n) (hl:v.fields.length≤1000000000):∀ (k m i:Nat),i+k=v.fields.length→k<m →
  Dv n t v a2 m i ((v.fields.take i).map fun q=>match B5 t q.1 with | some p=>(q.1,f p.2.2.2.1 q.2) | none=>q)=some (WE v (v.fields.map fun q=>match B5 t q.1 with | some p=>(q.1,f p.2.2.2.1 q.2) | none=>q))
 | k,0,i,_,h=>absurd h (Nat.not_lt_zero _)
 | 0,m+1,i,hi,_=>by
  rw [Dv,As,Ac (by omega),Af (by decide),List.take_of_length_le (by omega)];rfl
 | k+1,m+1,i,hi,hm=>by
  have a:i<v.fields.length:=by omega
  have ih:=Zci n t v a2 f hf ht htn hl k m (i+1) (by omega) (by omega)
  rw [List.take_succ_eq_append_getElem a,List.map_append,List.map_singleton] at ih
  rw [Dv,As,Ad a,Ae rfl,Ax a,Ab,J0 n t _ ht htn,Ab]
  cases c:B5 t v.fields[i].1 with
  | none =>
   rw [c] at ih
   rw [Af (by decide),FA,Ae (by rw [List.length_map,List.length_take];omega),Ae (Aw (by omega))]
   exact ih
  | some p =>
   rw [c] at ih
   have e:=hf _ (List.getElem_mem a) p c
   simp only [Option.isSome_some,if_true,Option.getD_some,e,Ab]
   rw [FA,Ae (by rw [List.length_map,List.length_take];omega),Ae (Aw (by omega))]
   exact ih
theorem ZfU (n:Nat) (t x:Ty) (v:Vl) (a2:Ty→Vl→Option Vl) (f:Ty→Vl→Vl) (he:t.elem=[x]) (hf:∀ u∈v.list,a2 x u=some (f x u)) (hl:v.list.length≤1000000000):∀ (k m i:Nat),i+k=v.list.length→k<m →
  E5 n t v a2 m i ((v.list.take i).map (f x))=some (Vl.mk v.kind v.int v.scale v.text (v.list.map (f x)) v.fields)
 | k,0,i,_,h=>absurd h (Nat.not_lt_zero _)
 | 0,m+1,i,hi,_=>by
  rw [E5,As,Ac (by omega),Af (by decide),List.take_of_length_le (by omega)];rfl
 | k+1,m+1,i,hi,hm=>by
  have a:i<v.list.length:=by omega
  have ih:=ZfU n t x v a2 f he hf hl k m (i+1) (by omega) (by omega)
  rw [List.take_succ_eq_append_getElem a,List.map_append,List.map_singleton] at ih
  rw [E5,As,Ad a,Ae rfl,Ax a,Ab,he,show Cb [x] 0=some x from rfl,Ab,hf _ (List.getElem_mem a),Ab,Ae (by rw [List.length_map,List.length_take];omega),Ae (Aw (by omega))]
  exact ih
theorem V3 {v:Vl} (h:DD v=true) (hk:v.kind=9):SS v.fields:=by
 rw [DD,Af (by omega),Af (by omega),Af (by omega),Af (by omega),Af (by omega),Af (by omega),Ae hk,Bool.and_eq_true] at h
 exact (Zdg _).1 h.1
theorem PT {v:Vl} (h:DD v=true) (hk:v.kind=10):v.list.length=1:=by
 rw [DD,Af (by omega),Af (by omega),Af (by omega),Af (by omega),Af (by omega),Af (by omega),Af (by omega),Ae hk,Bool.and_eq_true,decide_eq_true_eq] at h
 exact h.1
theorem ZcF {l m:List (ByteArray × Vl)} (h:l.map Prod.fst=m.map Prod.fst) (hs:SS m):SS l:=by
 have c:∀ l:List (ByteArray × Vl),SS l↔(l.map Prod.fst).Pairwise fun a b=>EM a b<0:=fun l=>by unfold SS;rw [List.pairwise_map]
 rw [c] at hs ⊢
 rwa [h]
theorem RJ (f:Ty→Vl→Vl) (t:Ty) (v:Vl) (hk:t.kind=9):(ER f t v).fields.map Prod.fst=v.fields.map Prod.fst:=by
 rw [ER,Af (by omega),Ae hk]
 simp only [WE,Vl.fields,List.map_map]
 refine List.map_congr_left fun q _=>?_
 simp only [Function.comp]
 cases B5 t q.1<;>rfl
theorem LA:∀ (d n:Nat) (t:Ty) (v:Vl),t.depth≤d→t.size≤200→v.size≤1048576→v.ok→2000000000+d<n→CU n t v=some (CQ d t v)
 | 0,n,t,v,h,_,_,_,_=>by have:=t.depth_eq;omega
 | d+1,0,t,v,_,_,_,_,h=>absurd h (by omega)
 | d+1,n+1,t,v,hd,ht,hv,ho,hn=>by
  have J:=t.lens
  have H:=HZ v
  obtain ⟨G,C,F⟩:=v.ok_eq.1 ho
  rw [CU,Ik,CQ]
  by_cases hk:v.kind=t.kind
  rotate_left
  ·rw [Ac hk,Ae (by rfl),Ae (.inl hk)]
  rw [Ad hk,Af (by decide),Vt n v (by omega) (by omega) (Tm G),Ab]
  cases hf:DD v with
  | false=>rw [Ae (by rfl),Ae (.inr rfl)]
  | true =>
   rw [Af (by decide),Af (show ¬ (v.kind≠t.kind∨true=false) by simp [hk])]
   by_cases k9:t.kind=9
   ·rw [Ad k9,Ae rfl,Ae k9]
    have e:=Zci n t v (fun m k=>CU n m k) (CQ d) (fun q s p g=>LA d n _ _ (by have:=Ty.depth_field (EE g).1;omega) (by have:=t.field_size p (EE g).1;omega) (by have:=v.field_size q s;omega) (F q s).2 (by omega)) (by omega) (by omega) (by omega) v.fields.length n 0 (by omega) (by omega)
    have E:WE v (v.fields.map fun q=>match B5 t q.1 with | some p=>(q.1,CQ d p.2.2.2.1 q.2) | none=>q)=ER (CQ d) t v:=by rw [ER,Af (by omega),Ae k9]
    rw [List.take_zero,List.map_nil,E] at e
    have l:SS (ER (CQ d) t v).fields:=ZcF (RJ _ t v k9) (V3 hf (by omega))
    have z:(ER (CQ d) t v).fields.length=v.fields.length:=by have:=congrArg List.length (RJ (CQ d) t v k9);simpa using this
    have:=YA (CU n) n t (ER (CQ d) t v) (by omega) (by omega) t.fields.length n 0 (ER (CQ d) t v).fields (by omega) (by omega) l (by omega)
    rw [JW,Ae k9]
    rw [List.drop_zero] at this
    refine Eq.trans ?_ this
    exact congrArg (fun o=>Option.bind o fun i=>Br (CU n) n t i n 0 i.fields) e
   ·rw [Ac k9,Af (by decide),Af k9,ER,KU]
    by_cases k8:t.kind=8
    ·rw [Ae k8,Ad k8,Bool.true_and]
     match he:t.elem with
     | [x] =>
      have f:x∈t.elem:=by rw [he];simp
      have e:=ZfU n t x v (fun m k=>CU n m k) (CQ d) he (fun u w=>LA d n x u (by have:=Ty.depth_elem f;omega) (by have:=t.elem_size x f;omega) (by have:=v.list_size u w;omega) (C u w) (by omega)) (by omega) v.list.length n 0 (by omega) (by omega)
      rw [List.take_zero,List.map_nil] at e
      rw [Ae (by rfl)]
      exact congrArg (fun o=>Option.bind o fun y=>some y) e
     | []=>rw [Af (by decide),Ac k9,Af (by decide),Ac (show ¬ t.kind=10 by omega),Af (by decide),CZ,Ab,Vl.eta]
     | a::b::r=>rw [Af (by rw [decide_eq_true_eq];simp;omega),Ac k9,Af (by decide),Ac (show ¬ t.kind=10 by omega),Af (by decide),CZ,Ab,Vl.eta]
    rw [Af k8,Af k9,Ac k8,Bool.false_and,Af (by decide),Ac k9,Af (by decide)]
    by_cases k10:t.kind=10
    ·have D:=PT hf (by omega)
     obtain ⟨x,f⟩:=List.length_eq_one_iff.1 D
     have j:x∈v.list:=by rw [f];simp
     rw [Ad k10,Ae rfl,Ae k10,J0 n t v.text (by omega) (by omega),Ab,f]
     cases c:B5 t v.text with
     | none=>rw [Af (by decide),CZ,Ab,←f,Vl.eta]
     | some p =>
      have g:=(EE c).1
      have e:=LA d n p.2.2.2.1 x (by have:=Ty.depth_field g;omega) (by have:=t.field_size p g;omega) (by have:=v.list_size x j;omega) (C x j) (by omega)
      rw [Ae (by rfl),show Cb [x] 0=some x from rfl,Ab]
      simp only [Option.getD_some,e,Ab,CZ]
    ·rw [Ac k10,Af (by decide),Af k10,CZ,Ab,Vl.eta]
inductive Vl.Nar:Vl→Prop
 | mk (v:Vl) (hl:v.list.length≤100000000) (hf:v.fields.length≤100000000) (ht:v.text.size≤1048576) (h1:∀ x∈v.list,Vl.Nar x) (h2:∀ p∈v.fields,p.1.size≤1048576) (h3:∀ p∈v.fields,Vl.Nar p.2):Vl.Nar v
theorem Vl.Nar.inv {v:Vl} (h:v.Nar):v.list.length≤100000000∧v.fields.length≤100000000∧v.text.size≤1048576∧(∀ x∈v.list,Vl.Nar x)∧∀ p∈v.fields,p.1.size≤1048576∧Vl.Nar p.2:=by
 cases h with
 | mk _ a b c d e f=>exact ⟨a,b,c,d,fun p g=>⟨e p g,f p g⟩⟩
theorem Vl.Nar.wide {v:Vl} (h:v.Nar):v.wide=true:=by
 induction h with
 | mk v a b c d e f i1 i2=>exact v.wide_iff.2 ⟨by omega,by omega,i1,i2⟩
theorem Vl.Nar.ok {v:Vl} (h:v.Nar):v.ok:=by
 induction h with
 | mk v a b c d e f i1 i2=>exact v.ok_eq.2 ⟨c,i1,fun p g=>⟨e p g,i2 p g⟩⟩
theorem Oe:∀ (k:Nat) (v:Vl),v.size≤k→v.size≤1048576→v.ok→v.Nar
 | 0,v,h,_,_=>by have:=v.size_pos;omega
 | k+1,v,h,hs,ho=>by
  obtain ⟨e,d,b⟩:=v.ok_eq.1 ho
  have f:=HZ v
  exact .mk v (by omega) (by omega) e (fun x c=>by have:=v.list_size x c;exact Oe k x (by omega) (by omega) (d x c)) (fun p a=>(b p a).1) (fun p a=>by have:=v.field_size p a;exact Oe k p.2 (by omega) (by omega) (b p a).2)
theorem Vl.Nar.list {v x:Vl} (h:v.Nar) (hx:x∈v.list):x.Nar:=h.inv.2.2.2.1 x hx
theorem Vl.Nar.field {v:Vl} {p:ByteArray × Vl} (h:v.Nar) (hp:p∈v.fields):p.2.Nar:=(h.inv.2.2.2.2 p hp).2
theorem Vl.depth_list {v x:Vl} (hx:x∈v.list):x.depth<v.depth:=by
 have e:=v.depth_eq
 have:=(HQ v.list _).1 (Nat.le_refl _) x hx
 omega
theorem Vl.depth_fld {v:Vl} {p:ByteArray × Vl} (hp:p∈v.fields):p.2.depth<v.depth:=by
 have e:=v.depth_eq
 have:=(IW v.fields _).1 (Nat.le_refl _) p hp
 omega
theorem HW:∀ (n:Nat) (v:Vl),v.Nar→v.depth+1000000000<n→BN n v=some v
 | 0,v,_,h=>absurd h (Nat.not_lt_zero _)
 | n+1,v,hv,h=>by
  obtain ⟨d,c,_,_,_⟩:=hv.inv
  rw [BN,MG]
  have:=RD (BN n) n v ⟨by omega,by omega⟩ (by omega) ⟨fun x b=>HW n x (hv.list b) (by have:=Vl.depth_list b;omega),fun p a=>HW n p.2 (hv.field a) (by have:=Vl.depth_fld a;omega)⟩ v.list.length n 0 (by omega) (by omega)
  rw [List.take_zero] at this
  exact this
def IY:Nat→Ty→Vl→Bool
 | 0,_,_=>false
 | d+1,t,v =>
  if (t.kind<1∨10<t.kind)∨v.kind≠t.kind∨DD v=false then false
  else if t.kind=2∨t.kind=6∨t.kind=7 then NM v.int t
  else if t.kind=3 then decide (v.scale=t.scale)&&NM v.int t
  else if t.kind=4 then Jl v.text t
  else if t.kind=5 then NM v.text.size t
  else if t.kind=8 then NM v.list.length t&&v.list.all fun u=>(match t.elem with | [x]=>IY d x u | _=>false)
  else if t.kind=9 then (t.fields.all fun p=>match Eb v p.2.1 with | some y=>IY d p.2.2.2.1 y | none=>decide (p.2.2.1=2))&&v.fields.all fun q=>(B5 t q.1).isSome
  else if t.kind=10 then (match B5 t v.text,v.list with | some p,x::_=>IY d p.2.2.2.1 x | _,_=>false)
  else true
theorem Rr (b:Bool) (p:ByteArray) (c:Int):Bi (!b) b p c=some (true,false):=by cases b<;>rfl
theorem Ug (b:Bool) (t:Ty) (p:ByteArray) (k:Int):Bv (!b) b t p k=some (!(b&&NM k t),b&&NM k t):=by
 rw [Bv,Rr]
 by_cases h1:k<t.min
 ·rw [Ad h1,Ae (by rfl)]
  rw [NM,Ac (by omega)];simp
 ·by_cases h2:t.max<k
  ·rw [Ad h2,Ae (by simp)]
   rw [NM,Ac (show ¬ k≤t.max by omega)];simp
  ·rw [Ac h1,Ac h2,Af (by decide),NM,Ad (show t.min≤k by omega),Ad (show k≤t.max by omega)];simp
theorem ZhH (l:List UInt8):(⟨l.toArray⟩:ByteArray).size=l.length:=by simp [ByteArray.size]
theorem JE (a b:ByteArray):(a++b).size=a.size+b.size:=ByteArray.size_append
theorem Ya (p w:ByteArray) (hp:p.size≤1000000000000000) (hw:w.size≤1048576):∃ s,GV p w=some s∧s.size≤p.size+1048577:=by
 rw [GV]
 cases DK p ⟨#[]⟩ with
 | true=>exact ⟨w,rfl,by omega⟩
 | false =>
  have e:(⟨#[46]⟩:ByteArray).size=1:=rfl
  rw [Af (by decide),Ae (by omega),Ae (by rw [JE];omega)]
  exact ⟨_,rfl,by rw [JE,JE];omega⟩
theorem YH (rec:Bool→Bool→Ty→Vl→ByteArray→Option (Bool × Bool)) (n:Nat) (t:Ty) (v:Vl) (p:ByteArray) (g:Ty→Vl→Bool) (hp:p.size≤1000000000000000) (hl:v.list.length≤1000000000)
  (hr:∀ x,t.elem=[x]→∀ u∈v.list,∀ (b:Bool) (s:ByteArray),s.size≤p.size+1048577→rec (!b) b x u s=some (!(b&&g x u),b&&g x u)):∀ (k m i:Nat) (b:Bool),i+k=v.list.length→k<m →
  Bn rec n t v p m i (!b) b=some (!(b&&(v.list.drop i).all fun u=>(match t.elem with | [x]=>g x u | _=>false)),b&&(v.list.drop i).all fun u=>(match t.elem with | [x]=>g x u | _=>false))
 | k,0,i,b,_,h=>absurd h (Nat.not_lt_zero _)
 | 0,m+1,i,b,hi,_=>by
  rw [Bn,As,Ac (by omega),Af (by decide),List.drop_eq_nil_of_le (by omega),List.all_nil,Bool.and_true]
 | k+1,m+1,i,b,hi,hm=>by
  have d:i<v.list.length:=by omega
  have ih:=fun b=>YH rec n t v p g hp hl hr k m (i+1) b (by omega) (by omega)
  have l:(⟨#[91]⟩:ByteArray).size=1:=rfl
  have j:(⟨#[93]⟩:ByteArray).size=1:=rfl
  have e:=Lib.itoa_length_le (i:Int) (by omega) (by omega)
  have f:(⟨(Lib.itoa i).toArray⟩:ByteArray).size=(Lib.itoa i).length:=ZhH _
  rw [Bn,As,Ad d,Ae rfl,Ax d,Ab,Ae (by omega),Ae (by unfold BV;omega),Ae (by rw [JE];omega),Ae (by rw [JE,JE];omega),List.drop_eq_getElem_cons d,List.all_cons]
  match he:t.elem with
  | [x] =>
   have:=hr x he _ (List.getElem_mem d) b (((p++(⟨#[91]⟩:ByteArray))++(⟨(Lib.itoa i).toArray⟩:ByteArray))++(⟨#[93]⟩:ByteArray)) (by rw [JE,JE,JE];omega)
   have ih:=ih (b&&g x v.list[i])
   rw [he] at ih
   rw [Ae (by rfl),show Cb [x] 0=some x from rfl,Ab,this,Ab,CG,Ae (Aw (by omega))]
   simp only [Bool.and_assoc] at ih ⊢
   exact ih
  | [] =>
   have ih:=ih false
   rw [he] at ih
   rw [Af (by decide),Rr,Ab,CG,Ae (Aw (by omega)),Bool.false_and,Bool.and_false]
   exact ih
  | a::c::r =>
   have ih:=ih false
   rw [he] at ih
   rw [Af (by rw [decide_eq_true_eq];simp;omega),Rr,Ab,CG,Ae (Aw (by omega)),Bool.false_and,Bool.and_false]
   exact ih
theorem Zas (rec:Bool→Bool→Ty→Vl→ByteArray→Option (Bool × Bool)) (n:Nat) (t:Ty) (v:Vl) (p:ByteArray) (hp:p.size≤1000000000000000) (ht:t.fields.length≤1000000000) (htn:t.fields.length<n) (hl:v.fields.length≤1000000000) (hv:∀ q∈v.fields,q.1.size≤1048576):∀ (k m i:Nat) (b:Bool),i+k=v.fields.length→k<m →
  Bm rec n t v p m i (!b) b=some (!(b&&(v.fields.drop i).all fun q=>(B5 t q.1).isSome),b&&(v.fields.drop i).all fun q=>(B5 t q.1).isSome)
 | k,0,i,b,_,h=>absurd h (Nat.not_lt_zero _)
 | 0,m+1,i,b,hi,_=>by
  rw [Bm,As,Ac (by omega),Af (by decide),List.drop_eq_nil_of_le (by omega),List.all_nil,Bool.and_true]
 | k+1,m+1,i,b,hi,hm=>by
  have a:i<v.fields.length:=by omega
  have ih:=fun b=>Zas rec n t v p hp ht htn hl hv k m (i+1) b (by omega) (by omega)
  rw [Bm,As,Ad a,Ae rfl,Ax a,Ab,J0 n t _ ht htn,Ab,List.drop_eq_getElem_cons a,List.all_cons]
  cases c:B5 t v.fields[i].1 with
  | none =>
   obtain ⟨s,d,_⟩:=Ya p v.fields[i].1 hp (hv _ (List.getElem_mem a))
   have ih:=ih false
   rw [Ae (by rfl),d,Ab,Rr,Ab,CN,Ae (Aw (by omega)),Option.isSome_none,Bool.false_and,Bool.and_false]
   exact ih
  | some q =>
   rw [Af (by simp),CN,Ae (Aw (by omega)),Option.isSome_some,Bool.true_and]
   exact ih b
theorem PI {v y:Vl} {w:ByteArray} (h:Eb v w=some y):∃ q∈v.fields,q.1=w∧q.2=y:=by
 rw [Eb] at h
 obtain ⟨q,a,b⟩:=Option.map_eq_some_iff.1 h
 exact ⟨q,List.mem_of_find?_eq_some a,(E3 _ _).1 (List.find?_some (p:=fun q:ByteArray × Vl=>DK q.1 w) a),b⟩
theorem Zhi (rec:Bool→Bool→Ty→Vl→ByteArray→Option (Bool × Bool)) (n:Nat) (t:Ty) (v:Vl) (p:ByteArray) (g:Ty→Vl→Bool) (hk:v.kind=9) (hc:∀ q∈v.fields,BN n q.2=some q.2) (hs:v.fields.length<n) (hp:p.size≤1000000000000000) (ht:t.fields.length≤1000000000) (htn:t.fields.length<n) (hl:v.fields.length≤1000000000) (hv:∀ q∈v.fields,q.1.size≤1048576) (hn:∀ q∈t.fields,q.2.1.size≤1048576)
  (hr:∀ q∈t.fields,∀ y,Eb v q.2.1=some y→∀ (b:Bool) (s:ByteArray),s.size≤p.size+1048577→rec (!b) b q.2.2.2.1 y s=some (!(b&&g q.2.2.2.1 y),b&&g q.2.2.2.1 y)):∀ (k m i:Nat) (b:Bool),i+k=t.fields.length→k<m →
  Be rec n t v p m i (!b) b=some (!(b&&(((t.fields.drop i).all fun q=>match Eb v q.2.1 with | some y=>g q.2.2.2.1 y | none=>decide (q.2.2.1=2))&&v.fields.all fun q=>(B5 t q.1).isSome)),b&&(((t.fields.drop i).all fun q=>match Eb v q.2.1 with | some y=>g q.2.2.2.1 y | none=>decide (q.2.2.1=2))&&v.fields.all fun q=>(B5 t q.1).isSome)):=by
 intro k
 induction k with
 | zero =>
  intro m i b l o
  obtain ⟨m,rfl⟩:∃ q,m=q+1:=⟨m-1,by omega⟩
  have:=Zas rec n t v p hp ht htn hl hv v.fields.length n 0 b (by omega) (by omega)
  rw [List.drop_zero] at this
  rw [Be,As,Ac (by omega),Af (by decide),EZ,List.drop_eq_nil_of_le (by omega),List.all_nil,Bool.true_and]
  exact this
 | succ k ih =>
  intro m i b l o
  obtain ⟨m,rfl⟩:∃ q,m=q+1:=⟨m-1,by omega⟩
  have d:i<t.fields.length:=by omega
  have f:=List.getElem_mem d
  have ih:=fun b=>ih m (i+1) b (by omega) (by omega)
  obtain ⟨s,h,j⟩:=Ya p t.fields[i].2.1 hp (hn _ f)
  rw [Be,As,Ad d,Ae rfl,Ax d,Ab,YT n v _ hk hl hs hc,Ab,List.drop_eq_getElem_cons d,List.all_cons]
  cases c:Eb v t.fields[i].2.1 with
  | some y =>
   have e:=hr _ f y c b s j
   have ih:=ih (b&&g t.fields[i].2.2.2.1 y)
   have r:∀ a g x y:Bool,(a&&g&&(x&&y))=(a&&(g&&x&&y)):=by decide
   rw [r] at ih
   rw [Ae Option.isSome_some,h,Ab,Option.getD_some,e,Ab,BG,Ae (Aw (by omega))]
   exact ih
  | none =>
   rw [Af (by simp)]
   by_cases q:t.fields[i].2.2.1=2
   ·rw [Ad q,Af (by decide),BG,Ae (Aw (by omega))]
    simp only [Bool.true_and]
    exact ih b
   ·have ih:=ih false
    rw [Ac q,Ae (by rfl),h,Ab,Rr,Ab,BG,Ae (Aw (by omega))]
    simp only [Bool.false_and,Bool.and_false] at ih ⊢
    exact ih
theorem Qx:∀ (d n:Nat) (t:Ty) (v:Vl) (p:ByteArray) (b:Bool),t.depth≤d→t.size≤200→t.ok→v.Nar→v.depth+1000000000<n→2000000000+d<n→p.size+d*2000000≤100000000000000→B7 n (!b) b t v p=some (!(b&&IY d t v),b&&IY d t v)
 | 0,n,t,v,p,b,h,_,_,_,_,_,_=>by have:=t.depth_eq;omega
 | d+1,0,t,v,p,b,_,_,_,_,_,h,_=>absurd h (by omega)
 | d+1,n+1,t,v,p,b,hd,ht,hto,hv,hvs,hn,hp=>by
  have J:=t.lens
  have U:=HZ v
  obtain ⟨Y,Q,F,E,r⟩:=hv.inv
  obtain ⟨K,Z,G,w⟩:=t.ok_eq.1 hto
  rw [B7,Gz,IY]
  cases b with
  | false=>rw [Ae (by rfl)];rfl
  | true =>
   rw [Af (by decide),Bool.true_and]
   have a:∀ c,(Bi (!true) true p c).bind (fun y=>some (y.1,y.2))=some (!false,false):=fun c=>by rw [Rr];rfl
   by_cases c:(t.kind<1∨10<t.kind)∨v.kind≠t.kind
   ·rw [Ae (by simp only [Bool.or_eq_true,decide_eq_true_eq,Bool.not_eq_true',decide_eq_false_iff_not];exact c),Ae (by rcases c with c | c;exact .inl c;exact .inr (.inl c))]
    exact a 1
   rw [Af (by simp only [Bool.or_eq_true,decide_eq_true_eq,Bool.not_eq_true',decide_eq_false_iff_not];exact c),Vt n v (by omega) (by omega) (Tm F),Ab]
   cases hf:DD v with
   | false=>rw [Ae (by rfl),Ae (.inr (.inr rfl))];exact a 8
   | true =>
    have N:v.kind=t.kind:=by
     by_cases q:v.kind=t.kind
     ·exact q
     ·exact absurd (.inr q) c
    have g:∀ k,(Bv (!true) true t p k).bind (fun y=>some (y.1,y.2))=some (!NM k t,NM k t):=fun k=>by rw [Ug];rfl
    rw [Af (by decide),Af (show ¬ ((t.kind<1∨10<t.kind)∨v.kind≠t.kind∨true=false) by rintro (q | q | q);exact c (.inl q);exact c (.inr q);cases q)]
    by_cases k2:t.kind=2
    ·rw [Ad k2,Ae rfl,Ae (.inl k2),BH,Ae rfl];exact g v.int
    rw [Ac k2,Af (by decide)]
    by_cases k6:t.kind=6
    ·rw [Ad k6,Ae rfl,Ae (.inr (.inl k6)),BH,Ae rfl];exact g v.int
    rw [Ac k6,Af (by decide)]
    by_cases k7:t.kind=7
    ·rw [Ad k7,Ae (.inr (.inr k7)),BH,Ae rfl];exact g v.int
    rw [Ac k7,Af (by omega),BH,Af (by decide)]
    by_cases k3:t.kind=3
    ·rw [Ad k3,Ae rfl,Ae k3]
     by_cases q:v.scale=t.scale
     ·rw [Ad q,Af (by decide),Bool.true_and];exact g v.int
     ·rw [Ac q,Ae (by rfl),Bool.false_and];exact a 3
    rw [Ac k3,Af (by decide),Af k3]
    by_cases k4:t.kind=4
    ·rw [Ad k4,Ae rfl,Ae k4,CC,Ae rfl,Ad k4,Jl]
     by_cases q:t.words=[]
     ·rw [Ae q,q,Af (by decide)];exact g v.text.size
     ·have V:0<t.words.length:=List.length_pos_iff.2 q
      rw [Af q,Ae (by simp only [Bool.true_and,decide_eq_true_eq];omega),I2 n _ t (by omega) (by omega),Ab]
      cases t.words.any fun x=>DK x v.text with
      | true=>rfl
      | false=>rw [Ae (by rfl)];exact a 4
    rw [Ac k4,Af (by decide),Af k4]
    by_cases k5:t.kind=5
    ·rw [Ad k5,Ae k5,CC,Ae rfl,Ac k4,Bool.false_and,Af (by decide)];exact g v.text.size
    rw [Ac k5,Af k5,CC,Af (by decide)]
    by_cases k8:t.kind=8
    ·rw [Ad k8,Ae rfl,Ae k8]
     have e:=YH (B7 n) n t v p (IY d) (by omega) (by omega) (fun x m u C b s hs=>by
      have j:x∈t.elem:=by rw [m];simp
      exact Qx d n x u s b (by have:=Ty.depth_elem j;omega) (by have:=t.elem_size x j;omega) (G x j) (E u C) (by have:=Vl.depth_list C;omega) (by omega) (by omega)) v.list.length n 0 (NM v.list.length t) (by omega) (by omega)
     rw [List.drop_zero] at e
     refine Eq.trans ?_ e
     exact congrArg (fun o=>Option.bind o fun y46:Bool × Bool=>Bn (B7 n) n t v p n 0 y46.1 y46.2) (Ug true t p v.list.length)
    rw [Ac k8,Af (by decide),Af k8]
    by_cases k9:t.kind=9
    ·rw [Ad k9,Ae rfl,Ae k9]
     have e:=Zhi (B7 n) n t v p (IY d) (by omega) (fun q i=>HW n q.2 (r q i).2 (by have:=Vl.depth_fld i;omega)) (by omega) (by omega) (by omega) (by omega) (by omega) (fun q i=>(r q i).1) (fun q i=>(w q i).1) (fun q i y H b s hs=>by
       obtain ⟨z,D,_,rfl⟩:=PI H
       exact Qx d n _ _ s b (by have:=Ty.depth_field i;omega) (by have:=t.field_size q i;omega) (w q i).2.1 (r z D).2 (by have:=Vl.depth_fld D;omega) (by omega) (by omega)) t.fields.length n 0 true (by omega) (by omega)
     rw [List.drop_zero,Bool.true_and] at e
     exact congrArg (fun o=>Option.bind o fun y70:Bool × Bool=>some (y70.1,y70.2)) e
    rw [Ac k9,Af (by decide),Af k9]
    by_cases k10:t.kind=10
    ·obtain ⟨x,m⟩:=List.length_eq_one_iff.1 (PT hf (by omega))
     have l:x∈v.list:=by rw [m];simp
     have O:(⟨#[63]⟩:ByteArray).size=1:=rfl
     rw [Ad k10,Ae rfl,Ae k10,J0 n t v.text (by omega) (by omega),Ab,m]
     cases q:B5 t v.text with
     | none=>rw [Af (by decide)];exact a 7
     | some f =>
      have j:=(EE q).1
      have e:=Qx d n f.2.2.2.1 x ((p++(⟨#[63]⟩:ByteArray))++v.text) true (by have:=Ty.depth_field j;omega) (by have:=t.field_size f j;omega) (w f j).2.1 (E x l) (by have:=Vl.depth_list l;omega) (by omega) (by rw [JE,JE];omega)
      rw [Ae (by rfl),show Cb [x] 0=some x from rfl,Ab,Ae (by omega),Ae (by rw [JE];omega)]
      rw [Bool.true_and] at e
      exact congrArg (fun o=>Option.bind o fun y80:Bool × Bool=>some (y80.1,y80.2)) e
    ·rw [Ac k10,Af (by decide),Af k10]
theorem Ze5 (n d:Nat) (t:Ty) (v:Vl) (hd:t.depth≤d) (hdd:d≤100) (ht:t.size≤200) (hto:t.ok) (hv:v.Nar) (hvs:v.depth+1000000000<n) (hn:2000000000+d<n):Kx n t v=some (IY d t v):=by
 rw [Kx]
 have:=Qx d n t v ⟨#[]⟩ true hd ht hto hv hvs hn (by have:(⟨#[]⟩:ByteArray).size=0:=rfl;omega)
 rw [Bool.true_and] at this
 exact congrArg (fun o=>Option.bind o fun y5:Bool × Bool=>some y5.2) this
inductive Ty.Fine:Nat→Ty→Prop
 | mk (d:Nat) (t:Ty) (own:QJ t=0) (he:∀ x∈t.elem,Ty.Fine d x) (hf:∀ p∈t.fields,Ty.Fine d p.2.2.2.1) (hd:∀ p∈t.fields,∀ v∈p.2.2.2.2,NZ v=0∧MP 12 p.2.2.2.1 v=true):Ty.Fine (d+1) t
theorem Ty.Fine.depth:∀ (d:Nat) (t:Ty),t.Fine d→t.depth≤d
 | 0,t,h=>by cases h
 | d+1,t,h=>by
  cases h with
  | mk _ _ own he hf hd =>
   have c:=(Nv t.elem d).2 fun x a=>Ty.Fine.depth d x (he x a)
   have b:=(K0 t.fields d).2 fun x a=>Ty.Fine.depth d _ (hf x a)
   have:=t.depth_eq
   omega
instance (k:IntKind) (n:Int):Decidable (inK k n):=by cases k<;>exact inferInstanceAs (Decidable (_∧_))
@[go_sem] theorem ZaY (n:Int):Ux (.val (.int .u8 n))=(0≤n∧n≤255):=rfl
@[go_sem] theorem Zgn:GW []=(⟨#[]⟩:ByteArray):=rfl
@[go_sem] theorem ZeD (k:Nat):(∀ y∈List.replicate k (AV.val (.int .u8 0)),Ux y)↔True:=iff_true_intro fun y a=>by
 rw [List.eq_of_mem_replicate a,ZaY];omega
theorem Ty.Fine.own {d:Nat} {t:Ty} (h:t.Fine d):QJ t=0:=by cases h with | mk _ _ a _ _ _=>exact a
theorem Ty.Fine.good:∀ {d:Nat} {t:Ty},t.Fine d→t.Good
 | 0,t,h=>by cases h
 | d+1,t,h=>by
  cases h with
  | mk _ _ own he hf hd=>exact .mk t own (fun x b=>(he x b).good) fun p a=>(hf p a).good
theorem Ty.Fine.elem {d:Nat} {t x:Ty} (h:t.Fine (d+1)) (hx:x∈t.elem):x.Fine d:=by cases h with | mk _ _ _ a _ _=>exact a x hx
theorem Ty.Fine.field {d:Nat} {t:Ty} {p:TF} (h:t.Fine (d+1)) (hx:p∈t.fields):p.2.2.2.1.Fine d:=by cases h with | mk _ _ _ _ a _=>exact a p hx
theorem Ty.Fine.dfl {d:Nat} {t:Ty} {p:TF} (h:t.Fine (d+1)) (hx:p∈t.fields):∀ v∈p.2.2.2.2,NZ v=0∧MP 12 p.2.2.2.1 v=true:=by cases h with | mk _ _ _ _ _ a=>exact a p hx
theorem Zbv {v:Vl} (h:v.kind≠0):B1 v=false:=by
 rw [B1,Ac h];simp
theorem Zq {v:Vl} (h:v.Good):1≤v.kind∧v.kind≤10:=by
 have:=(O0 (L6 h)).1
 omega
theorem OJ (k:Int):∀ (l b:List TF),Hi k b l=0→(l.map fun p=>p.2.1).Nodup∧∀ p∈l,∀ q∈b,q.2.1≠p.2.1
 | [],_,_=>⟨.nil,by simp⟩
 | x::r,b,h=>by
  rw [Hi] at h
  by_cases q:JI k b x=0
  rotate_left
  ·rw [Af q] at h;exact absurd h q
  rw [Ae q] at h
  obtain ⟨f,c⟩:=OJ k r (b++[x]) h
  have g:∀ y∈b,y.2.1≠x.2.1:=by
   intro y a e
   unfold JI at q
   by_cases c1:E8 x.2.1=true
   ·rw [Ae c1] at q
    by_cases c2:¬ (1≤x.1∧x.1≤9999)
    ·rw [Ae c2] at q;exact absurd q (by decide)
    rw [Af c2,Ae (List.any_eq_true.2 ⟨y,a,by rw [D1,(E3 _ _).2 e];simp⟩)] at q
    exact absurd q (by decide)
   ·rw [Af c1] at q;exact absurd q (by decide)
  refine ⟨List.nodup_cons.2 ⟨fun d=>?_,f⟩,fun p hp y a=>?_⟩
  ·obtain ⟨p,hp,e⟩:=List.mem_map.1 d
   exact c p hp x (by simp) e.symm
  ·rcases List.mem_cons.1 hp with rfl | hp
   ·exact g y a
   ·exact c p hp y (by simp [a])
def DF (b:Int):Bool :=
 (decide (b=2))||(decide (b=3))
theorem QQ (w0:World) (B:List (List AV)) (Rw:List RowA) (L:List LoopA) (a0:Int) (r:Bool) (h:DF a0=r) :
  ACalls Tryz.prog w0 189 [.val (.int .i64 a0)] ⟨B,Rw,L⟩ fun x st=>x = .val (.bool r)∧st=⟨B,Rw,L⟩:=by
 rw [DF] at h
 refine hd [.tmp 2] Tryz.func189 Tryz.ntmps189 fun M0 W0 f d c a e b hs=>?_
 simp only [Au]
 refine rg [0] hs ?_
 refine rg [2] hs ?_
 exact rT h hs a b
theorem Kw (w0:World) (B:List (List AV)) (Rw:List RowA) (L:List LoopA) (a0:Int) :
  ACalls Tryz.prog w0 189 [.val (.int .i64 a0)] ⟨B,Rw,L⟩ fun x st=>x = .val (.bool (DF a0))∧st=⟨B,Rw,L⟩:=QQ w0 B Rw L a0 _ rfl
def Dn (g:Int) (b:Int):Bool :=
 (decide (g=b))||((DF g)&&(DF b))
theorem Uf (w0:World) (B:List (List AV)) (Rw:List RowA) (L:List LoopA) (a0:Int) (a1:Int) (r:Bool) (h:Dn a0 a1=r) :
  ACalls Tryz.prog w0 128 [.val (.int .i64 a0),.val (.int .i64 a1)] ⟨B,Rw,L⟩ fun x st=>x = .val (.bool r)∧st=⟨B,Rw,L⟩:=by
 rw [Dn] at h
 refine hd [.tmp 4] Tryz.func128 Tryz.ntmps128 fun M0 W0 g e d a f c hs=>?_
 simp only [Au]
 refine rg [0,1] hs ?_
 refine rc 3 [4] hs ?_;intro K2 b
 refine HB _ (fun _=>Kw w0 _ _ _ a0) (hv hs) ?_
 refine nc hs ?_
 refine HB _ (fun _=>Kw w0 _ _ _ a1) (hv hs) ?_
 refine ne hs b ?_
 clear b
 exact rT h hs a c
theorem Jz (w0:World) (B:List (List AV)) (Rw:List RowA) (L:List LoopA) (a0:Int) (a1:Int) :
  ACalls Tryz.prog w0 128 [.val (.int .i64 a0),.val (.int .i64 a1)] ⟨B,Rw,L⟩ fun x st=>x = .val (.bool (Dn a0 a1))∧st=⟨B,Rw,L⟩:=Uf w0 B Rw L a0 a1 _ rfl
def Bh (g:Int) (b:Ty):Bool :=
 (decide (b.min≤g))&&(decide (g≤b.max))
theorem Qe (w0:World) (B:List (List AV)) (Rw:List RowA) (L:List LoopA) (a0:Int) (a1:Ty) (r:Bool) (h:Bh a0 a1=r) :
  ACalls Tryz.prog w0 130 [.val (.int .i64 a0),.agg (a1.cs)] ⟨B,Rw,L⟩ fun x st=>x = .val (.bool r)∧st=⟨B,Rw,L⟩:=by
 rw [Bh] at h
 refine hd [.tmp 4] Tryz.func130 Tryz.ntmps130 fun M0 W0 f d c a e b hs=>?_
 simp only [Au]
 refine rg [0,3] hs ?_
 refine rg [4] hs ?_
 exact rT h hs a b
theorem C9 (w0:World) (B:List (List AV)) (Rw:List RowA) (L:List LoopA) (a0:Int) (a1:Ty) :
  ACalls Tryz.prog w0 130 [.val (.int .i64 a0),.agg (a1.cs)] ⟨B,Rw,L⟩ fun x st=>x = .val (.bool (Bh a0 a1))∧st=⟨B,Rw,L⟩:=Qe w0 B Rw L a0 a1 _ rfl
def A5 (rec:Ty→Ty→Vl→Option (Vl × Bool)) (n:Nat) (g:(List (ByteArray × Vl))→Int→Option (Vl × Bool)) (b:Int) (h:List (ByteArray × Vl)):Option (Vl × Bool) :=
 if BV (b+1) then
  g h (b+1)
 else none
def D7 (rec:Ty→Ty→Vl→Option (Vl × Bool)) (n:Nat)  (b:List (ByteArray × Vl)):Option (Vl × Bool) :=
 (J8 n b).bind fun g =>
 some ((g,true))
def AE (rec:Ty→Ty→Vl→Option (Vl × Bool)) (n:Nat) (a0:Ty) (s:Ty) (a2:Vl):Nat→(List (ByteArray × Vl))→Int→Option (Vl × Bool)
 | 0,_,_=>none
 | m+1,b,g =>
  if decide (g<(s.fields.length:Int)) then
   (Cb s.fields g).bind fun h =>
   (CV n a0.fields h.1).bind fun q =>
   (G5 n a2 q.1.2.1).bind fun y =>
   if q.2&&y.2 then
    (rec q.1.2.2.2.1 h.2.2.2.1 y.1).bind fun y23 =>
    if !y23.2 then
     some ((Vl.mk 0 0 0 ((⟨#[]⟩:ByteArray)) ([]) ([]),false))
    else
     if (b.length+1)*104≤140737488355328∧b.length+1≤4611686018427387904 then
      A5 rec n (AE rec n a0 s a2 m) g (b++([(h.2.1,y23.1)]))
     else none
   else
    if decide (h.2.2.1=1) then
     some ((Vl.mk 0 0 0 ((⟨#[]⟩:ByteArray)) ([]) ([]),false))
    else
     if decide (h.2.2.1=3) then
      (Cb h.2.2.2.2 0).bind fun x37 =>
      if (b.length+1)*104≤140737488355328∧b.length+1≤4611686018427387904 then
       A5 rec n (AE rec n a0 s a2 m) g (b++([(h.2.1,x37)]))
      else none
     else
      A5 rec n (AE rec n a0 s a2 m) g b
  else
   D7 rec n b
def Ei (rec:Ty→Ty→Vl→Option (Vl × Bool)) (n:Nat) (g:Ty) (b:Ty) (h:Vl):Option (Vl × Bool) :=
 AE rec n g b h n ([]) 0
theorem LY (w0:World) (rec:Ty→Ty→Vl→Option (Vl × Bool)) (ih:∀ (B:List (List AV)) (Rw:List RowA) (L:List LoopA) (a0:Ty) (a1:Ty) (a2:Vl) (r:Vl × Bool) (h:rec a0 a1 a2=some r),ACalls Tryz.prog w0 79 [.agg (a0.cs),.agg (a1.cs),.agg (a2.cs)] ⟨B,Rw,L⟩ fun x st=>x = .tup [.agg (r.1.cs),.val (.bool r.2)]∧st=⟨B,Rw,L⟩) (n:Nat) (B:List (List AV)) (Rw:List RowA) (L:List LoopA) (a0:Ty) (a1:Ty) (a2:Vl) (r:Vl × Bool) (h:Ei rec n a0 a1 a2=some r) :
  ACalls Tryz.prog w0 132 [.agg (a0.cs),.agg (a1.cs),.agg (a2.cs)] ⟨B,Rw,L⟩ fun x st=>x = .tup [.agg (r.1.cs),.val (.bool r.2)]∧st=⟨B,Rw,L⟩:=by
 rw [Ei] at h
 refine hd [.cell 6 46,.tmp 7] Tryz.func132 Tryz.ntmps132 fun M0 W0 hN O V k hu q hs=>?_
 simp only [Au]
 refine rg [3,4,5,6] hs ?_
 refine rg [3,4,5,6,8] hs ?_
 refine Av (fun e st=>∃ (p:List (ByteArray × Vl)) (t:Ev.Own),Ck e st B Rw L [(6,true,.box (B.length+3) 0),(8,true,.list (p.map B9) t)] [a0.cs,a1.cs,a2.cs,[.val (.int .i64 0),.val (.int .i64 0),.val (.int .i64 0),.val (.string ((⟨#[]⟩:ByteArray))),.list ([]) .full,.list ([]) .full]] [(7,p.length,t)] (D7 rec n p=some r)) ?_ ?_
 ·intro K5 ah
  refine rg [3,5,6,8,18,19,20] hs ?_
  apply Ak
  refine AC (fun m e st=>∃ (a:List (ByteArray × Vl)) (d:Int) (i:Ev.Own),Ck e st B Rw L [(3,true,.box B.length 0),(5,true,.box (B.length+2) 0),(6,true,.box (B.length+3) 0),(8,true,.list (a.map B9) i),(18,true,.list (a1.fields.map Da) .none),(19,true,.val (.int .i64 (a1.fields.length:Int))),(20,true,.val (.int .i64 d))] [a0.cs,a1.cs,a2.cs,[.val (.int .i64 0),.val (.int .i64 0),.val (.int .i64 0),.val (.string ((⟨#[]⟩:ByteArray))),.list ([]) .full,.list ([]) .full]] [(7,a.length,i)] (AE rec n a0 a1 a2 m a d=some r)) n ⟨([]),0,.full,([]),Rw,ef hs,ef hs,Owns.of_eq ((q).full 7 0) FN,h⟩ ?_
  rintro ml7 e st ⟨a,d,i,Xl7,Rl7,rfl,rfl,q,h⟩ Ul7 Vl7
  cases ml7 with
  | zero=>cases h
  | succ ml7 =>
  rw [AE] at h
  have hU:=q.unders
  simp only [List.mem_cons,List.not_mem_nil,or_false,forall_eq_or_imp,forall_eq] at hU
  refine td hN O V k q ?_
  refine rg [3,5,6,8,18,19,20,21] hs ?_
  apply Ah;intro K9 Y
  refine AL h hs (fun hs h=>?_) (fun hs h=>?_)
  rotate_left
  ·refine sx [6,8] hs ah ?_
   exact ⟨a,i,([]),Rl7,ef hs,ef hs,Owns.of_eq (q) FN,h⟩
  refine sk [3,5,6,8,18,19,20] hs Y ?_
  clear Y
  refine Av (fun e st=>∃ (g:List (ByteArray × Vl)) (j:Ev.Own),Ck e st B Rw L [(3,true,.box B.length 0),(5,true,.box (B.length+2) 0),(6,true,.box (B.length+3) 0),(8,true,.list (g.map B9) j),(18,true,.list (a1.fields.map Da) .none),(19,true,.val (.int .i64 (a1.fields.length:Int))),(20,true,.val (.int .i64 d))] [a0.cs,a1.cs,a2.cs,[.val (.int .i64 0),.val (.int .i64 0),.val (.int .i64 0),.val (.string ((⟨#[]⟩:ByteArray))),.list ([]) .full,.list ([]) .full]] [(7,g.length,j)] (A5 rec n (AE rec n a0 a1 a2 ml7) d g=some r)) ?_ ?_
  ·intro K13 u
   apply Ak
   obtain ⟨b,ab,h⟩:=bind_some h
   obtain ⟨am,ag,U⟩:=AA ab
   have N:=AB (f:=Da) U
   have hs:=Aa N hs
   refine rg [3,5,6,8,10,18,19,20] hs ?_
   obtain ⟨c,ad,h⟩:=bind_some h
   refine rc 2 [3,5,6,8,10,11,12,18,19,20] hs ?_;intro K16 D
   refine Ai _ (ED w0 n _ _ _ a0.fields b.1 _ ad) (hv hs) ?_
   refine ne hs D ?_
   clear D
   obtain ⟨w,aa,h⟩:=bind_some h
   refine rc 2 [3,5,6,8,10,11,12,13,14,18,19,20] hs ?_;intro K18 F
   refine Ai _ (PH w0 n _ _ _ a2 c.1.2.1 _ aa) (hv hs) ?_
   refine ne hs F ?_
   clear F
   apply Ak
   refine rg [3,5,6,8,10,11,13,18,19,20,39] hs ?_
   refine AL h hs (fun hs h=>?_) (fun hs h=>?_)
   ·obtain ⟨af,ae,h⟩:=bind_some h
    refine rc 2 [3,5,6,8,10,15,16,18,19,20] hs ?_;intro K22 J
    refine Ai _ (ih _ _ _ c.1.2.2.2.1 b.2.2.2.1 w.1 _ ae) (hv hs) ?_
    refine ne hs J ?_
    clear J
    apply Ah;intro K24 K
    refine rg [3,5,6,8,10,15,18,19,20,54] hs ?_
    refine AL h hs (fun hs h=>?_) (fun hs h=>?_)
    ·refine rg [6,7] hs ?_
     exact rt h hs k q
    refine sk [3,5,6,8,10,15,18,19,20] hs K ?_
    clear K
    obtain ⟨H,h⟩:=Aj h
    obtain ⟨ao,z,q,o⟩:=q.append (P:=Tryz.prog) Pl (by rw [Kv];rfl) (by decide) 1 H.1 H.2
    replace o:=fun (ys:List AV) B L o2=>o (a.map B9) ys B L o2 FN
    replace o:=fun (y:AV) B L o2=>o [y] B L o2 FN ev
    try simp only [List.mem_singleton,List.mem_cons,List.not_mem_nil,or_false,forall_eq_or_imp,forall_eq,List.map_append,List.map_cons,List.map_nil,Hn,Hk,Ht,Hq,Hm,GG,Fh,Fj,Hj,DZ,DY,Fe,Fp,Fg] at o
    have hs:=Aa o hs
    refine rl [3,5,6,8,18,19,20] hs u ?_
    exact ⟨(a++([(b.2.1,af.1)])),ao,([.val (.int .i64 b.1)::(.val (.string b.2.1)::(.val (.int .i64 b.2.2.1)::((b.2.2.2.1.cs)++([.list (b.2.2.2.2.map Bo) .none])))),.val (.int .i64 c.1.1)::(.val (.string c.1.2.1)::(.val (.int .i64 c.1.2.2.1)::((c.1.2.2.2.1.cs)++([.list (c.1.2.2.2.2.map Bo) .none])))),w.1.cs,af.1.cs]),z,ef hs,ef hs,Owns.of_eq (q) FN,h⟩
   refine rg [3,5,6,8,10,18,19,20,63] hs ?_
   refine AL h hs (fun hs h=>?_) (fun hs h=>?_)
   ·refine rg [6,7] hs ?_
    exact rt h hs k q
   refine rg [3,5,6,8,10,18,19,20,68] hs ?_
   refine AL h hs (fun hs h=>?_) (fun hs h=>?_)
   ·obtain ⟨ak,ap,aj,v,h⟩:=ix Bo h
    have Q:(b.2.2.2.2.map Bo).getD 0 .junk=_:=v
    obtain ⟨G,h⟩:=Aj h
    obtain ⟨ai,C,q,l⟩:=q.append (P:=Tryz.prog) Pl (by rw [Kv];rfl) (by decide) 1 G.1 G.2
    replace l:=fun (ys:List AV) B L o2=>l (a.map B9) ys B L o2 FN
    replace l:=fun (y:AV) B L o2=>l [y] B L o2 FN ev
    try simp only [List.mem_singleton,List.mem_cons,List.not_mem_nil,or_false,forall_eq_or_imp,forall_eq,List.map_append,List.map_cons,List.map_nil,Hn,Hk,Ht,Hq,Hm,GG,Fh,Fj,Hj,DZ,DY,Fe,Fp,Fg] at l
    have hs:=Aa v hs
    have hs:=Aa Q hs
    have hs:=Aa l hs
    refine dl 9 1 1 [3,5,6,8,18,19,20] hs Iw u ?_
    exact ⟨(a++([(b.2.1,ak)])),ai,([.val (.int .i64 b.1)::(.val (.string b.2.1)::(.val (.int .i64 b.2.2.1)::((b.2.2.2.1.cs)++([.list (b.2.2.2.2.map Bo) .none])))),.val (.int .i64 c.1.1)::(.val (.string c.1.2.1)::(.val (.int .i64 c.1.2.2.1)::((c.1.2.2.2.1.cs)++([.list (c.1.2.2.2.2.map Bo) .none])))),w.1.cs]),C,ef hs,ef hs,Owns.of_eq (q) FN,h⟩
   refine sk [3,5,6,8,18,19,20] hs u ?_
   exact ⟨a,i,([.val (.int .i64 b.1)::(.val (.string b.2.1)::(.val (.int .i64 b.2.2.1)::((b.2.2.2.1.cs)++([.list (b.2.2.2.2.map Bo) .none])))),.val (.int .i64 c.1.1)::(.val (.string c.1.2.1)::(.val (.int .i64 c.1.2.2.1)::((c.1.2.2.2.1.cs)++([.list (c.1.2.2.2.2.map Bo) .none])))),w.1.cs]),Rl7,ef hs,ef hs,Owns.of_eq (q) FN,h⟩
  ·clear h;rintro e st ⟨g,j,Xk12,Rk12,rfl,rfl,q,h⟩
   rw [A5] at h
   have hU:=q.unders
   simp only [List.mem_cons,List.not_mem_nil,or_false,forall_eq_or_imp,forall_eq] at hU
   refine td hN O V k q ?_
   obtain ⟨aq,h⟩:=Aj h
   refine rl [3,5,6,8,18,19,20] hs (fun e s=>Vl7 ml7 e s (Nat.lt_succ_self _)) ?_
   exact ⟨g,(d+1),j,([]),Rk12,ef hs,ef hs,Owns.of_eq (q) FN,h⟩
 ·clear h;rintro e st ⟨p,t,Xk4,Rk4,rfl,rfl,q,h⟩
  rw [D7] at h
  have hU:=q.unders
  simp only [List.mem_cons,List.not_mem_nil,or_false,forall_eq_or_imp,forall_eq] at hU
  refine td hN O V k q ?_
  obtain ⟨ar,Z,h⟩:=bind_some h
  refine rc 2 [6,7] hs ?_;intro K43 E
  refine Ai _ (Yy w0 n _ _ _ p _ Z) (hv hs) ?_
  refine ne hs E ?_
  clear E
  exact rt h hs k q
def Gi (rec:Ty→Ty→Vl→Option (Vl × Bool)) (n:Nat) (b:Ty) (g:Vl) (b4_k41_4:List Vl):Option (Vl × Bool) :=
 some ((Vl.mk 8 0 0 ((⟨#[]⟩:ByteArray)) b4_k41_4 ([]),Bh (g.list.length:Int) b))
def GA (rec:Ty→Ty→Vl→Option (Vl × Bool)) (n:Nat) (b:Vl):Option (Vl × Bool) :=
 some ((b,true))
def C4 (rec:Ty→Ty→Vl→Option (Vl × Bool)) (n:Nat) (a0:Ty) (y:Ty) (h:Vl):Nat→Int→(List Vl)→Option (Vl × Bool)
 | 0,_,_=>none
 | m+1,b,b4_l44_4 =>
  if decide (b<(h.list.length:Int)) then
   (Cb h.list b).bind fun s =>
   (Cb a0.elem 0).bind fun x52 =>
   (Cb y.elem 0).bind fun q =>
   (rec x52 q s).bind fun g =>
   if !g.2 then
    some ((Vl.mk 0 0 0 ((⟨#[]⟩:ByteArray)) ([]) ([]),false))
   else
    if (b4_l44_4.length+1)*88≤140737488355328∧b4_l44_4.length+1≤4611686018427387904 then
     if BV (b+1) then
      (C4 rec n a0 y h m) (b+1) (b4_l44_4++([g.1]))
     else none
    else none
  else
   Gi rec n y h b4_l44_4
def BB (rec:Ty→Ty→Vl→Option (Vl × Bool)) (n:Nat) (a0:Ty) (g:Ty) (b:Vl) (h:Bool):Option (Vl × Bool) :=
 if h then
  some ((b,Bh b.int g))
 else
  if decide (g.kind=5) then
   some ((b,Bh (b.text.size:Int) g))
  else
   if decide (g.kind=4) then
    if decide (0<(g.words.length:Int)) then
     (Bz n g.words b.text).bind fun y35 =>
     some ((b,y35))
    else
     some ((b,Bh (b.text.size:Int) g))
   else
    if decide (g.kind=8) then
     C4 rec n a0 g b n 0 ([])
    else
     if decide (g.kind=9) then
      (Ei rec n a0 g b).bind fun y =>
      some ((y.1,y.2))
     else
      if decide (g.kind=10) then
       (IP n a0 b.text).bind fun s =>
       (CV n g.fields s.1.1).bind fun q =>
       if !q.2 then
        some ((Vl.mk 0 0 0 ((⟨#[]⟩:ByteArray)) ([]) ([]),false))
       else
        (Cb b.list 0).bind fun x80 =>
        (rec s.1.2.2.2.1 q.1.2.2.2.1 x80).bind fun y81 =>
        (Jy n q.1.2.1 y81.1).bind fun y83 =>
        some ((y83,y81.2))
      else
       GA rec n b 
def BC (rec:Ty→Ty→Vl→Option (Vl × Bool)) (n:Nat) (s:Ty) (g:Ty) (q:Vl) (b:Bool):Option (Vl × Bool) :=
 if b then
  (Di n q.int s.scale g.scale).bind fun h =>
  some ((Vl.mk g.kind h.1 g.scale ((⟨#[]⟩:ByteArray)) ([]) ([]),h.2&&(Bh h.1 g)))
 else
  if decide (g.kind=6) then
   BB rec n s g q true
  else
   BB rec n s g q (decide (g.kind=7))
def Fq (rec:Ty→Ty→Vl→Option (Vl × Bool)) (n:Nat) (g:Ty) (b:Ty) (h:Vl):Option (Vl × Bool) :=
 if !(Dn g.kind b.kind) then
  some ((Vl.mk 0 0 0 ((⟨#[]⟩:ByteArray)) ([]) ([]),false))
 else
  if decide (b.kind=2) then
   BC rec n g b h true
  else
   BC rec n g b h (decide (b.kind=3))
def AG:Nat→Ty→Ty→Vl→Option (Vl × Bool)
 | 0,_,_,_=>none
 | n+1,g,b,h=>Fq (AG n) n g b h
def IX (w0:World) (F:Ty→Ty→Vl→Option (Vl × Bool)):Prop:=∀ (B:List (List AV)) (Rw:List RowA) (L:List LoopA) (g:Ty) (b:Ty) (h:Vl) (r:Vl × Bool),F g b h=some r→ACalls Tryz.prog w0 79 [.agg (g.cs),.agg (b.cs),.agg (h.cs)] ⟨B,Rw,L⟩ fun x st=>x = .tup [.agg (r.1.cs),.val (.bool r.2)]∧st=⟨B,Rw,L⟩
theorem O3 (w0:World) (rec:Ty→Ty→Vl→Option (Vl × Bool)) (ih:IX w0 rec) (n:Nat):IX w0 (Fq rec n):=by
 intro B Rw L a0 a1 a2 r h
 rw [Fq] at h
 refine hd [.cell 6 46,.tmp 7] Tryz.func79 Tryz.ntmps79 fun M0 W0 hN V Y b hu z hs=>?_
 simp only [Au]
 refine rg [3,4,5,6] hs ?_
 apply Ah;intro K2 be
 refine rc 2 [3,4,5,6,25] hs ?_;intro K3 bc
 refine Ai _ (Jz w0 _ _ _ a0.kind a1.kind) (hv hs) ?_
 refine ne hs bc ?_
 clear bc
 refine AL h hs (fun hs h=>?_) (fun hs h=>?_)
 ·have l:=hs.1
  refine rg [6,7] hs ?_
  exact rt h hs b z
 have l:=hs.1
 refine sk [3,4,5,6] hs be ?_
 clear be
 refine Av (fun e st=>Ck e st B Rw L [(5,true,.box (B.length+2) 0),(6,true,.box (B.length+3) 0)] [a0.cs,a1.cs,a2.cs,[.val (.int .i64 0),.val (.int .i64 0),.val (.int .i64 0),.val (.string ((⟨#[]⟩:ByteArray))),.list ([]) .full,.list ([]) .full]] [] (GA rec n a2  = some r)) ?_ ?_
 ·intro K8 bi
  refine rg [3,4,5,6,28] hs ?_
  apply Ak
  refine Av (fun e st=>∃ (O:Bool),Ck e st B Rw L [(3,true,.box B.length 0),(4,true,.box (B.length+1) 0),(5,true,.box (B.length+2) 0),(6,true,.box (B.length+3) 0),(28,true,.val (.int .i64 a1.kind)),(29,true,.val (.bool O))] [a0.cs,a1.cs,a2.cs,[.val (.int .i64 0),.val (.int .i64 0),.val (.int .i64 0),.val (.string ((⟨#[]⟩:ByteArray))),.list ([]) .full,.list ([]) .full]] [] (BC rec n a0 a1 a2 O=some r)) ?_ ?_
  ·intro K12 ax
   refine rg [3,4,5,6,28,29] hs ?_
   refine AL h hs (fun hs h=>?_) (fun hs h=>?_)
   ·refine sk [3,4,5,6,28,29] hs ax ?_
    exact ⟨true,([]),Rw,ef hs,ef hs,z,h⟩
   refine rl [3,4,5,6,28,29] hs ax ?_
   exact ⟨(decide (a1.kind=3)),([]),Rw,ef hs,ef hs,z,h⟩
  ·clear h;rintro e st ⟨O,Xk11,Rk11,rfl,rfl,z,h⟩
   rw [BC] at h
   refine td hN V Y b z ?_
   refine AL h hs (fun hs h=>?_) (fun hs h=>?_)
   ·have a:=hs.1
    obtain ⟨bv,bd,h⟩:=bind_some h
    refine rc 2 [4,6,8,9] hs ?_;intro K16 ah
    refine Ai _ (Ii w0 n _ _ _ a2.int a0.scale a1.scale _ bd) (hv hs) ?_
    refine ne hs ah ?_
    clear ah
    apply Ah;intro K18 aj
    apply JP Iw [12] [6,7] kr (fun s=>∃ (X:List (List AV)) (rows:List RowA) (c3:List AV),s=⟨B++([a0.cs,a1.cs,a2.cs,c3]++X),rows,L⟩) 2 (B.length+4)
    ·simp +decide only [go_sem,Nat.reduceAdd]
    ·rintro s ⟨X,rows,c3,rfl⟩
     refine ⟨2,?_⟩
     rw [Am];simp +decide only [go_sem,Nat.reduceAdd,EO,and_self,imp_self,l,a]
     (repeat' apply Aa)<;>first | refine HB _ (fun _=>C9 w0 _ _ _ bv.1 a1) (hv hs) ?_ | exact cl
     rw [Am];simp +decide only [go_sem,Nat.reduceAdd,and_self,imp_self,l,a]
     (repeat' apply Aa)<;>first | rfl | exact cl
    ·refine Good.mk [12] kr ⟨[],_,_,by first | rfl | simp only [List.append_nil,List.nil_append]⟩ ?_ ?_
     ·intro h;exact absurd h (by decide)
     ·intro i hi;simp only [List.mem_cons,List.not_mem_nil,or_false] at hi
      subst hi
      ·apply D3 rfl rfl ev
       ·simp +decide only [go_sem,Nat.reduceAdd,Gt,l,a]
        (repeat' apply Aa)<;>first | rfl | exact cl
       ·simp +decide only [go_sem,Nat.reduceAdd,l,a]
        refine Good.mk [] kr ⟨[],_,_,by first | rfl | simp only [List.append_nil,List.nil_append]⟩ ?_ ?_
        ·intro _;apply DJ [6,7];first | (simp +decide only [go_sem,Nat.reduceAdd,and_self,imp_self,l,a];done) | (simp +decide only [go_sem,Nat.reduceAdd,and_self,imp_self,l,a];rfl)
        ·intro i hi;cases hi
    simp +decide only [go_sem,Nat.reduceAdd,and_self,imp_self,l,a]
    (repeat' apply Aa)<;>first | refine aj _ _ ?_ | exact cl
    clear aj
    exact rt h hs b z
   have a:=hs.1
   refine Av (fun e st=>∃ (N:Bool),Ck e st B Rw L [(3,true,.box B.length 0),(4,true,.box (B.length+1) 0),(5,true,.box (B.length+2) 0),(6,true,.box (B.length+3) 0),(28,true,.val (.int .i64 a1.kind)),(54,true,.val (.bool N))] [a0.cs,a1.cs,a2.cs,[.val (.int .i64 0),.val (.int .i64 0),.val (.int .i64 0),.val (.string ((⟨#[]⟩:ByteArray))),.list ([]) .full,.list ([]) .full]] [] (BB rec n a0 a1 a2 N=some r)) ?_ ?_
   ·intro K21 aa
    refine rg [3,4,5,6,28,54] hs ?_
    refine AL h hs (fun hs h=>?_) (fun hs h=>?_)
    ·refine sk [3,4,5,6,28,54] hs aa ?_
     exact ⟨true,([]),Rk11,ef hs,ef hs,z,h⟩
    refine rl [3,4,5,6,28,54] hs aa ?_
    exact ⟨(decide (a1.kind=7)),([]),Rk11,ef hs,ef hs,z,h⟩
   ·clear h;rintro e st ⟨N,Xk20,Rk20,rfl,rfl,z,h⟩
    rw [BB] at h
    refine td hN V Y b z ?_
    refine AL h hs (fun hs h=>?_) (fun hs h=>?_)
    ·have d:=hs.1
     apply Ah;intro K25 az
     refine dk 5 2 1 [6,7] hs Iw ?_
     refine Ai _ (C9 w0 _ _ _ a2.int a1) (hv hs) ?_
     refine dn hs az ?_
     clear az
     exact rt h hs b z
    have d:=hs.1
    refine rg [3,4,5,6,28,62] hs ?_
    refine AL h hs (fun hs h=>?_) (fun hs h=>?_)
    ·have k:=hs.1
     apply Ah;intro K28 ag
     refine dk 6 2 1 [6,7] hs Iw ?_
     refine Ai _ (C9 w0 _ _ _ (a2.text.size:Int) a1) (hv hs) ?_
     refine dn hs ag ?_
     clear ag
     exact rt h hs b z
    have k:=hs.1
    refine rg [3,4,5,6,28,70] hs ?_
    refine AL h hs (fun hs h=>?_) (fun hs h=>?_)
    ·have j:=hs.1
     apply Ah;intro K31 ab
     refine rg [4,5,6,75] hs ?_
     refine AL h hs (fun hs h=>?_) (fun hs h=>?_)
     ·obtain ⟨b0,bb,h⟩:=bind_some h
      apply Ah;intro K34 ar
      refine dk 6 2 1 [6,7] hs Iw ?_
      refine Ai _ (EH w0 n _ _ _ a1.words a2.text _ bb) (hv hs) ?_
      refine dn hs ar ?_
      clear ar
      exact rt h hs b z
     refine sk [4,5,6] hs ab ?_
     clear ab
     apply Ah;intro K36 ak
     refine dk 6 2 1 [6,7] hs Iw ?_
     refine Ai _ (C9 w0 _ _ _ (a2.text.size:Int) a1) (hv hs) ?_
     refine dn hs ak ?_
     clear ak
     exact rt h hs b z
    have j:=hs.1
    refine rg [3,4,5,6,28,88] hs ?_
    refine AL h hs (fun hs h=>?_) (fun hs h=>?_)
    ·have g:=hs.1
     refine rg [3,4,5,6,10] hs ?_
     refine Av (fun e st=>∃ (C:List Vl) (H:Ev.Own),Ck e st B Rw L [(4,true,.box (B.length+1) 0),(5,true,.box (B.length+2) 0),(6,true,.box (B.length+3) 0),(10,true,.box (B.length+4) 0)] [a0.cs,a1.cs,a2.cs,[.val (.int .i64 0),.val (.int .i64 0),.val (.int .i64 0),.val (.string ((⟨#[]⟩:ByteArray))),.list ([]) .full,.list ([]) .full],[.val (.int .i64 8),.val (.int .i64 0),.val (.int .i64 0),.val (.string ((⟨#[]⟩:ByteArray))),.list (C.map Bo) H,.list ([]) .full]] [(6,C.length,H)] (Gi rec n a1 a2 C=some r)) ?_ ?_
     ·intro K42 a6
      refine rg [3,4,5,6,10,92,93,94] hs ?_
      apply Ak
      refine AC (fun m e st=>∃ (J:Int) (c:List Vl) (w:Ev.Own),Ck e st B Rw L [(3,true,.box B.length 0),(4,true,.box (B.length+1) 0),(5,true,.box (B.length+2) 0),(6,true,.box (B.length+3) 0),(10,true,.box (B.length+4) 0),(92,true,.list (a2.list.map Bo) .none),(93,true,.val (.int .i64 (a2.list.length:Int))),(94,true,.val (.int .i64 J))] [a0.cs,a1.cs,a2.cs,[.val (.int .i64 0),.val (.int .i64 0),.val (.int .i64 0),.val (.string ((⟨#[]⟩:ByteArray))),.list ([]) .full,.list ([]) .full],[.val (.int .i64 8),.val (.int .i64 0),.val (.int .i64 0),.val (.string ((⟨#[]⟩:ByteArray))),.list (c.map Bo) w,.list ([]) .full]] [(6,c.length,w)] (C4 rec n a0 a1 a2 m J c=some r)) n ⟨0,([]),.full,([]),Rk20,ef hs,ef hs,Owns.of_eq ((z).full 6 0) FN,h⟩ ?_
      rintro ml44 e st ⟨J,c,w,Xl44,Rl44,rfl,rfl,z,h⟩ Ul44 Vl44
      cases ml44 with
      | zero=>cases h
      | succ ml44 =>
      rw [C4] at h
      have hU:=z.unders
      simp only [List.mem_cons,List.not_mem_nil,or_false,forall_eq_or_imp,forall_eq] at hU
      refine td hN V Y b z ?_
      refine rg [3,4,5,6,10,92,93,94,95] hs ?_
      apply Ah;intro K46 aw
      refine AL h hs (fun hs h=>?_) (fun hs h=>?_)
      rotate_left
      ·have G:=hs.1
       refine sx [4,5,6,10] hs a6 ?_
       exact ⟨c,w,([]),Rl44,ef hs,ef hs,Owns.of_eq (z) FN,h⟩
      have G:=hs.1
      refine sk [3,4,5,6,10,92,93,94] hs aw ?_
      clear aw
      apply Ah;intro K48 ay
      apply Ak
      obtain ⟨a4,bf,h⟩:=bind_some h
      obtain ⟨bj,bn,a3⟩:=AA bf
      have x:=AB (f:=Bo) a3
      have hs:=Aa x hs
      refine rg [3,4,5,6,10,12,92,93,94] hs ?_
      apply Ah;intro K51 am
      obtain ⟨bs,bu,bo,q,h⟩:=ix Ia h
      have v:(a0.elem.map Ia).getD 0 .junk=_:=q
      obtain ⟨bk,bq,bm,p,h⟩:=ix Ia h
      have t:(a1.elem.map Ia).getD 0 .junk=_:=p
      obtain ⟨a5,bh,h⟩:=bind_some h
      apply JP Iw [13,14] [3,4,5,6,10,13,14,92,93,94] kr (fun s=>∃ (X:List (List AV)) (rows:List RowA),s=⟨B++([a0.cs,a1.cs,a2.cs,[.val (.int .i64 0),.val (.int .i64 0),.val (.int .i64 0),.val (.string ((⟨#[]⟩:ByteArray))),.list ([]) .full,.list ([]) .full],[.val (.int .i64 8),.val (.int .i64 0),.val (.int .i64 0),.val (.string ((⟨#[]⟩:ByteArray))),.list (c.map Bo) w,.list ([]) .full],a4.cs]++X),rows,L⟩) 3 (B.length+6)
      ·simp +decide only [go_sem,Nat.reduceAdd]
      ·rintro s ⟨X,rows,rfl⟩
       refine ⟨2,?_⟩
       rw [Am];simp +decide only [go_sem,Nat.reduceAdd,EO,l,a,d,k,j,g,G,x,q,v,p,t]
       have hs:=Aa q hs
       have hs:=Aa v hs
       have hs:=Aa p hs
       have hs:=Aa t hs
       (repeat' apply Aa)<;>first | refine Ai _ (ih _ _ _ bs bk a4 _ bh) (hv hs) ?_ | exact cl
       rw [Am];simp +decide only [go_sem,Nat.reduceAdd,l,a,d,k,j,g,G,x,q,v,p,t]
       (repeat' apply Aa)<;>first | rfl | exact cl
      ·refine Good.mk [13] kr ⟨[],_,by first | rfl | simp only [List.append_nil,List.nil_append]⟩ ?_ ?_
       ·intro h;exact absurd h (by decide)
       ·intro i hi;simp only [List.mem_cons,List.not_mem_nil,or_false] at hi
        subst hi
        ·apply D3 rfl rfl ev
         ·simp +decide only [go_sem,Nat.reduceAdd,Gt,l,a,d,k,j,g,G,x,q,v,p,t]
          (repeat' apply Aa)<;>first | rfl | exact cl
         ·simp +decide only [go_sem,Nat.reduceAdd,l,a,d,k,j,g,G,x,q,v,p,t]
          refine Good.mk [14] kr ⟨_,_,by first | rfl | simp only [List.append_nil,List.nil_append]⟩ ?_ ?_
          ·intro h;exact absurd h (by decide)
          ·intro i hi;simp only [List.mem_cons,List.not_mem_nil,or_false] at hi
           subst hi
           ·apply D3 rfl rfl ev
            ·simp +decide only [go_sem,Nat.reduceAdd,Gt,l,a,d,k,j,g,G,x,q,v,p,t]
             (repeat' apply Aa)<;>first | rfl | exact cl
            ·simp +decide only [go_sem,Nat.reduceAdd,l,a,d,k,j,g,G,x,q,v,p,t]
             refine Good.mk [] kr ⟨_,_,by first | rfl | simp only [List.append_nil,List.nil_append]⟩ ?_ ?_
             ·intro _;apply DJ [3,4,5,6,10,13,14,92,93,94];first | (simp +decide only [go_sem,Nat.reduceAdd,l,a,d,k,j,g,G,x,q,v,p,t];done) | (simp +decide only [go_sem,Nat.reduceAdd,l,a,d,k,j,g,G,x,q,v,p,t];rfl)
             ·intro i hi;cases hi
      simp +decide only [go_sem,Nat.reduceAdd,l,a,d,k,j,g,G,x,q,v,p,t]
      (repeat' apply Aa)<;>first | refine am _ _ ?_ | exact cl
      clear am
      apply Ah;intro K55 av
      have hs:=Aa q hs
      have hs:=Aa v hs
      have hs:=Aa p hs
      have hs:=Aa t hs
      refine rg [3,4,5,6,10,13,92,93,94,112] hs ?_
      refine AL h hs (fun hs h=>?_) (fun hs h=>?_)
      ·refine rg [6,7] hs ?_
       exact rt h hs b z
      refine sk [3,4,5,6,10,13,92,93,94] hs av ?_
      clear av
      obtain ⟨ai,h⟩:=Aj h
      obtain ⟨bl,Z,z,K⟩:=z.append (P:=Tryz.prog) U1 (by rw [Ou];rfl) (by decide) 1 ai.1 ai.2
      replace K:=fun (ys:List AV) B L o2=>K (c.map Bo) ys B L o2 FN
      replace K:=fun (y:AV) B L o2=>K [y] B L o2 FN ev
      try simp only [List.mem_singleton,List.mem_cons,List.not_mem_nil,or_false,forall_eq_or_imp,forall_eq,List.map_append,List.map_cons,List.map_nil,Hn,Hk,Ht,Hq,Hm,GG,Fh,Fj,Hj,DZ,DY,Fe,Fp,Fg] at K
      have hs:=Aa K hs
      refine rl [3,4,5,6,10,92,93,94] hs ay ?_
      clear ay
      obtain ⟨bx,h⟩:=Aj h
      refine rl [3,4,5,6,10,92,93,94] hs (fun e s=>Vl44 ml44 e s (Nat.lt_succ_self _)) ?_
      exact ⟨(J+1),(c++([a5.1])),bl,([a4.cs,a5.1.cs]),Z,ef hs,ef hs,Owns.of_eq (z) FN,h⟩
     ·clear h;rintro e st ⟨C,H,Xk41,Rk41,rfl,rfl,z,h⟩
      rw [Gi] at h
      have hU:=z.unders
      simp only [List.mem_cons,List.not_mem_nil,or_false,forall_eq_or_imp,forall_eq] at hU
      refine td hN V Y b z ?_
      apply Ah;intro K64 ap
      refine dk 6 2 1 [6,7] hs Iw ?_
      refine Ai _ (C9 w0 _ _ _ (a2.list.length:Int) a1) (hv hs) ?_
      refine dn hs ap ?_
      clear ap
      exact rt h hs b z
    have g:=hs.1
    refine rg [3,4,5,6,28,127] hs ?_
    refine AL h hs (fun hs h=>?_) (fun hs h=>?_)
    ·have E:=hs.1
     obtain ⟨bz,a8,h⟩:=bind_some h
     refine rc 2 [6,7] hs ?_;intro K67 ae
     refine Ai _ (LY w0 rec ih n _ _ _ a0 a1 a2 _ a8) (hv hs) ?_
     refine ne hs ae ?_
     clear ae
     exact rt h hs b z
    have E:=hs.1
    refine rg [3,4,5,6,135] hs ?_
    refine AL h hs (fun hs h=>?_) (fun hs h=>?_)
    ·have F:=hs.1
     obtain ⟨U,a7,h⟩:=bind_some h
     refine rc 2 [4,5,6,15] hs ?_;intro K71 ad
     refine Ai _ (PN w0 n _ _ _ a0 a2.text _ a7) (hv hs) ?_
     refine ne hs ad ?_
     clear ad
     obtain ⟨Q,ba,h⟩:=bind_some h
     refine rc 2 [5,6,15,17,18] hs ?_;intro K73 ao
     refine Ai _ (ED w0 n _ _ _ a1.fields U.1.1 _ ba) (hv hs) ?_
     refine ne hs ao ?_
     clear ao
     apply Ah;intro K75 aq
     refine rg [5,6,15,17,153] hs ?_
     refine AL h hs (fun hs h=>?_) (fun hs h=>?_)
     ·have D:=hs.1
      refine rg [6,7] hs ?_
      exact rt h hs b z
     have D:=hs.1
     refine sk [5,6,15,17] hs aq ?_
     clear aq
     apply Ah;intro K79 af
     obtain ⟨br,bp,bt,o,h⟩:=ix Bo h
     have u:(a2.list.map Bo).getD 0 .junk=_:=o
     obtain ⟨bw,a9,h⟩:=bind_some h
     apply JP Iw [12,13] [6,17,18,19] kr (fun s=>∃ (X:List (List AV)) (rows:List RowA),s=⟨B++([a0.cs,a1.cs,a2.cs,[.val (.int .i64 0),.val (.int .i64 0),.val (.int .i64 0),.val (.string ((⟨#[]⟩:ByteArray))),.list ([]) .full,.list ([]) .full],.val (.int .i64 U.1.1)::(.val (.string U.1.2.1)::(.val (.int .i64 U.1.2.2.1)::((U.1.2.2.2.1.cs)++([.list (U.1.2.2.2.2.map Bo) .none])))),.val (.int .i64 Q.1.1)::(.val (.string Q.1.2.1)::(.val (.int .i64 Q.1.2.2.1)::((Q.1.2.2.2.1.cs)++([.list (Q.1.2.2.2.2.map Bo) .none]))))]++X),rows,L⟩) 3 (B.length+6)
     ·simp +decide only [go_sem,Nat.reduceAdd]
     ·rintro s ⟨X,rows,rfl⟩
      refine ⟨2,?_⟩
      rw [Am];simp +decide only [go_sem,Nat.reduceAdd,EO,l,a,d,k,j,g,E,F,D,o,u]
      have hs:=Aa o hs
      have hs:=Aa u hs
      (repeat' apply Aa)<;>first | refine Ai _ (ih _ _ _ U.1.2.2.2.1 Q.1.2.2.2.1 br _ a9) (hv hs) ?_ | exact cl
      rw [Am];simp +decide only [go_sem,Nat.reduceAdd,l,a,d,k,j,g,E,F,D,o,u]
      (repeat' apply Aa)<;>first | rfl | exact cl
     ·refine Good.mk [12] kr ⟨[],_,by first | rfl | simp only [List.append_nil,List.nil_append]⟩ ?_ ?_
      ·intro h;exact absurd h (by decide)
      ·intro i hi;simp only [List.mem_cons,List.not_mem_nil,or_false] at hi
       subst hi
       ·apply D3 rfl rfl ev
        ·simp +decide only [go_sem,Nat.reduceAdd,Gt,l,a,d,k,j,g,E,F,D,o,u]
         (repeat' apply Aa)<;>first | rfl | exact cl
        ·simp +decide only [go_sem,Nat.reduceAdd,l,a,d,k,j,g,E,F,D,o,u]
         refine Good.mk [13] kr ⟨_,_,by first | rfl | simp only [List.append_nil,List.nil_append]⟩ ?_ ?_
         ·intro h;exact absurd h (by decide)
         ·intro i hi;simp only [List.mem_cons,List.not_mem_nil,or_false] at hi
          subst hi
          ·apply D3 rfl rfl ev
           ·simp +decide only [go_sem,Nat.reduceAdd,Gt,l,a,d,k,j,g,E,F,D,o,u]
            (repeat' apply Aa)<;>first | rfl | exact cl
           ·simp +decide only [go_sem,Nat.reduceAdd,l,a,d,k,j,g,E,F,D,o,u]
            refine Good.mk [] kr ⟨_,_,by first | rfl | simp only [List.append_nil,List.nil_append]⟩ ?_ ?_
            ·intro _;apply DJ [6,17,18,19];first | (simp +decide only [go_sem,Nat.reduceAdd,l,a,d,k,j,g,E,F,D,o,u];done) | (simp +decide only [go_sem,Nat.reduceAdd,l,a,d,k,j,g,E,F,D,o,u];rfl)
            ·intro i hi;cases hi
     simp +decide only [go_sem,Nat.reduceAdd,l,a,d,k,j,g,E,F,D,o,u]
     (repeat' apply Aa)<;>first | refine af _ _ ?_ | exact cl
     clear af
     obtain ⟨b1,bg,h⟩:=bind_some h
     have hs:=Aa o hs
     have hs:=Aa u hs
     refine rc 2 [6,7] hs ?_;intro K82 au
     refine Ai _ (Xc w0 n _ _ _ Q.1.2.1 bw.1 _ bg) (hv hs) ?_
     refine ne hs au ?_
     clear au
     exact rt h hs b z
    have F:=hs.1
    refine sk [5,6] hs bi ?_
    exact ⟨([]),Rk20,ef hs,ef hs,z,h⟩
 ·clear h;rintro e st ⟨Xk7,Rk7,rfl,rfl,z,h⟩
  rw [GA] at h
  refine td hN V Y b z ?_
  refine rg [6,7] hs ?_
  exact rt h hs b z
theorem Ie (w0:World):∀ n:Nat,IX w0 (AG n)
 | 0=>fun _ _ _ _ _ _ _ h=>(nomatch h)
 | n+1=>O3 w0 (AG n) (Ie w0 n) n
def JZ (n:Nat) (g:List (ByteArray × Vl)) (h:ByteArray × Vl) (b:Int):Option ((List (ByteArray × Vl))) :=
 if 0≤0∧0≤b∧b≤(g.length:Int) then
  if (0+(g.take b.toNat).length)*104≤140737488355328∧0+(g.take b.toNat).length≤4611686018427387904 then
   if ((g.take b.toNat).length+1)*104≤140737488355328∧(g.take b.toNat).length+1≤4611686018427387904 then
    if 0≤b∧b≤(g.length:Int)∧(g.length:Int)≤(g.length:Int) then
     if ((g.take b.toNat).length+1+(g.drop b.toNat).length)*104≤140737488355328∧(g.take b.toNat).length+1+(g.drop b.toNat).length≤4611686018427387904 then
      some (((g.take b.toNat)++([h]))++(g.drop b.toNat))
     else none
    else none
   else none
  else none
 else none
def JQ (n:Nat) (q:List (ByteArray × Vl)) (g:ByteArray × Vl):Nat→Int→Option ((List (ByteArray × Vl)))
 | 0,_=>none
 | m+1,b =>
  if decide (0<b) then
   if BV (b-1) then
    (Cb q (b-1)).bind fun h =>
    if !(Wq h.1 g.1||DK h.1 g.1) then
     if BV (b-1) then
      (JQ n q g m) (b-1)
     else none
    else
     JZ n q g b
   else none
  else
   JZ n q g b
def Ji (n:Nat) (b:List (ByteArray × Vl)) (g:ByteArray × Vl):Option ((List (ByteArray × Vl))) :=
 JQ n b g n (b.length:Int)
def A1 (b:Ty):Int :=
 if decide (b.kind=2) then
  0
 else
  if decide (b.kind=3) then
   b.scale
  else
   (-1)
def V9 (rec:Ty→Ty→Vl→Option (Vl × Bool)) (n:Nat) (b:Ty) (g:Vl) (b3_k38_4:List Vl):Option (Vl × Bool) :=
 some ((Vl.mk 8 0 0 ((⟨#[]⟩:ByteArray)) b3_k38_4 ([]),Bd (g.list.length:Int) b))
def Zbz (rec:Ty→Ty→Vl→Option (Vl × Bool)) (n:Nat)  : Option (Vl × Bool) :=
 some ((Vl.mk 0 0 0 ((⟨#[]⟩:ByteArray)) ([]) ([]),false))
def II (rec:Ty→Ty→Vl→Option (Vl × Bool)) (n:Nat) (g:Int→(List (ByteArray × Vl))→Option (Vl × Bool)) (b:Int) (b3_k94_5:List (ByteArray × Vl)):Option (Vl × Bool) :=
 if BV (b+1) then
  g (b+1) b3_k94_5
 else none
def Vz (rec:Ty→Ty→Vl→Option (Vl × Bool)) (n:Nat)  (b3_k86_5:List (ByteArray × Vl)):Option (Vl × Bool) :=
 some ((Vl.mk 9 0 0 ((⟨#[]⟩:ByteArray)) ([]) b3_k86_5,true))
def Me (rec:Ty→Ty→Vl→Option (Vl × Bool)) (n:Nat) (a0:Ty) (y:Ty) (h:Vl):Nat→Int→(List Vl)→Option (Vl × Bool)
 | 0,_,_=>none
 | m+1,b,b3_l41_4 =>
  if decide (b<(h.list.length:Int)) then
   (Cb a0.elem 0).bind fun x47 =>
   (Cb y.elem 0).bind fun q =>
   (Cb h.list b).bind fun s =>
   (rec x47 q s).bind fun g =>
   if !g.2 then
    some ((Vl.mk 0 0 0 ((⟨#[]⟩:ByteArray)) ([]) ([]),false))
   else
    if (b3_l41_4.length+1)*88≤140737488355328∧b3_l41_4.length+1≤4611686018427387904 then
     if BV (b+1) then
      (Me rec n a0 y h m) (b+1) (b3_l41_4++([g.1]))
     else none
    else none
  else
   V9 rec n y h b3_l41_4
def L9 (rec:Ty→Ty→Vl→Option (Vl × Bool)) (n:Nat) (a0:Ty) (a1:Ty) (s:Vl):Nat→Int→Option (Vl × Bool)
 | 0,_=>none
 | m+1,b =>
  if decide (b<(a0.fields.length:Int)) then
   (Cb a0.fields b).bind fun h =>
   (Gm n a1 h.1).bind fun g =>
   if (!(DK h.2.1 s.text))||(!g.2) then
    if BV (b+1) then
     (L9 rec n a0 a1 s m) (b+1)
    else none
   else
    (Cb s.list 0).bind fun y =>
    (rec h.2.2.2.1 g.1.2.2.2.1 y).bind fun q =>
    some ((Vl.mk 10 0 0 g.1.2.1 ([q.1]) ([]),q.2))
  else
   Zbz rec n 
def Gs (rec:Ty→Ty→Vl→Option (Vl × Bool)) (n:Nat) (a0:Ty) (a1:Ty) (a2:Vl):Nat→Int→(List (ByteArray × Vl))→Option (Vl × Bool)
 | 0,_,_=>none
 | m+1,b,b3_l89_5 =>
  if decide (b<(a1.fields.length:Int)) then
   (Cb a1.fields b).bind fun g =>
   (Gm n a0 g.1).bind fun s =>
   (UU n a2 s.1.2.1).bind fun h =>
   if s.2&&h.2 then
    (rec s.1.2.2.2.1 g.2.2.2.1 h.1).bind fun q =>
    if !q.2 then
     some ((Vl.mk 0 0 0 ((⟨#[]⟩:ByteArray)) ([]) ([]),false))
    else
     (Ji n b3_l89_5 ((g.2.1,q.1))).bind fun y110 =>
     II rec n (Gs rec n a0 a1 a2 m) b y110
   else
    if decide (g.2.2.1=1) then
     some ((Vl.mk 0 0 0 ((⟨#[]⟩:ByteArray)) ([]) ([]),false))
    else
     if decide (g.2.2.1=3) then
      (Cb g.2.2.2.2 0).bind fun x116 =>
      (Ji n b3_l89_5 ((g.2.1,x116))).bind fun y =>
      II rec n (Gs rec n a0 a1 a2 m) b y
     else
      II rec n (Gs rec n a0 a1 a2 m) b b3_l89_5
  else
   Vz rec n b3_l89_5
def V4 (rec:Ty→Ty→Vl→Option (Vl × Bool)) (n:Nat) (g:Ty) (b:Ty) (h:Vl):Option (Vl × Bool) :=
 Gs rec n g b h n 0 ([])
def Hg (rec:Ty→Ty→Vl→Option (Vl × Bool)) (n:Nat) (q:Ty) (g:Ty) (h:Vl) (b:Bool):Option (Vl × Bool) :=
 if b then
  some ((h,Bd h.int g))
 else
  if decide (g.kind=8) then
   Me rec n q g h n 0 ([])
  else
   if decide (g.kind=10) then
    L9 rec n q g h n 0
   else
    V4 rec n q g h 
def Z9 (rec:Ty→Ty→Vl→Option (Vl × Bool)) (n:Nat) (h:Ty) (b:Ty) (g:Vl):Option (Vl × Bool) :=
 if (decide (0≤(A1 h)))&&(decide (0≤(A1 b))) then
  if BV ((A1 b)-(A1 h)) then
   (GL n g.int ((A1 b)-(A1 h))).bind fun q =>
   some ((Vl.mk b.kind q.1 (A1 b) ((⟨#[]⟩:ByteArray)) ([]) ([]),q.2&&(Bd q.1 b)))
  else none
 else
  if !(decide (h.kind=b.kind)) then
   some ((Vl.mk 0 0 0 ((⟨#[]⟩:ByteArray)) ([]) ([]),false))
  else
   if decide (b.kind=1) then
    some ((g,true))
   else
    if decide (b.kind=4) then
     (OZ n g.text b).bind fun s =>
     some ((g,s))
    else
     if decide (b.kind=5) then
      some ((g,Bd (g.text.size:Int) b))
     else
      if decide (b.kind=6) then
       Hg rec n h b g true
      else
       Hg rec n h b g (decide (b.kind=7))
def I7:Nat→Ty→Ty→Vl→Option (Vl × Bool)
 | 0,_,_,_=>none
 | n+1,g,b,h=>Z9 (I7 n) n g b h
def WC (g:TF):Option (List (ByteArray × Vl)):=if g.2.2.1=1 then none else if g.2.2.1=3 then some (match g.2.2.2.2 with | x::_=>[(g.2.1,x)] | []=>[]) else some []
def LS (f:Ty→Ty→Vl→Option Vl) (a:Ty) (v:Vl) (g:TF):Option (List (ByteArray × Vl)) :=
 match Fv a.fields g.1 with
 | some p=>(match Eb v p.2.1 with
  | some x=>(f p.2.2.2.1 g.2.2.2.1 x).map fun y=>[(g.2.1,y)]
  | none=>WC g)
 | none=>WC g
def NH (f:Ty→Ty→Vl→Option Vl) (a:Ty) (v:Vl):List TF→Option (List (ByteArray × Vl))
 | []=>some []
 | g::gs=>(LS f a v g).bind fun o=>(NH f a v gs).map fun l=>o++l
def Rx (f:Vl→Option Vl):List Vl→Option (List Vl)
 | []=>some []
 | v::r=>(f v).bind fun y=>(Rx f r).map fun l=>y::l
def UA:Nat→Ty→Ty→Vl→Option Vl
 | 0,_,_,_=>none
 | d+1,a,b,v =>
  if (a.kind=2∨a.kind=3)∧(b.kind=2∨b.kind=3) then (MZ v.int a.scale b.scale).bind fun m=>if NM m b=true then some (Vl.mk b.kind m b.scale ⟨#[]⟩ [] []) else none
  else if a.kind≠b.kind then none
  else if b.kind=6∨b.kind=7 then (if NM v.int b=true then some v else none)
  else if b.kind=5 then (if NM v.text.size b=true then some v else none)
  else if b.kind=4 then (if Jl v.text b=true then some v else none)
  else if b.kind=8 then (match a.elem,b.elem with | [x],[y]=>(Rx (UA d x y) v.list).bind fun l=>if NM v.list.length b=true then some (Vl.mk 8 0 0 ⟨#[]⟩ l []) else none | _,_=>none)
  else if b.kind=9 then (NH (UA d) a v b.fields).map fun l=>Vl.mk 9 0 0 ⟨#[]⟩ [] (BZ l)
  else if b.kind=10 then (match B5 a v.text,v.list with | some p,x::_=>(match Fv b.fields p.1 with | some g=>(UA d p.2.2.2.1 g.2.2.2.1 x).map fun y=>Vl.mk 10 0 0 g.2.1 [y] [] | none=>none) | _,_=>none)
  else some v
def Js (D:Nat) (o:Option Vl) (r:Vl × Bool):Prop:=(match o with | some y=>r=(y,true) | none=>r.2=false)∧r.1.Nar∧r.1.depth≤D
theorem NT (k i s:Int) (t:ByteArray) (h:t.size≤1048576):(Vl.mk k i s t [] []).Nar := .mk _ (by simp [Vl.list]) (by simp [Vl.fields]) h (by simp [Vl.list]) (by simp [Vl.fields]) (by simp [Vl.fields])
theorem Zch:nilV.Nar:=NT 0 0 0 _ (by decide)
theorem KB (k i s:Int) (t:ByteArray):(Vl.mk k i s t [] []).depth=1:=by simp [Vl.depth,Hz,He]
theorem Ja {D:Nat} (h:1≤D) {r:Vl × Bool} (e:r=(nilV,false)):Js D none r:=by
 subst e
 exact ⟨rfl,Zch,by rw [KB];exact h⟩
theorem O9 {D:Nat} {v:Vl} {b:Bool} (h1:v.Nar) (h2:v.depth≤D):Js D (if b=true then some v else none) (v,b):=by
 cases b with
 | true=>exact ⟨rfl,h1,h2⟩
 | false=>exact ⟨rfl,h1,h2⟩
theorem Zca (n:Nat) (l:List (ByteArray × Vl)) (x:ByteArray × Vl) (hs:SS l) (hi:Zj l x.1=false) (hl:l.length≤1000000):∀ (k m at_:Nat),at_≤k→at_≤l.length→(∀ i (h:at_≤i) (h2:i<l.length),¬ EM l[i].1 x.1<0)→k<m→JQ n l x m at_=some (SH l x.1 x.2)
 | k,0,at_,_,_,_,h=>absurd h (Nat.not_lt_zero _)
 | k,m+1,at_,hk,ha,hb,hm=>by
  have fin:(∀ i (h:i<at_) (h2:i<l.length),EM l[i].1 x.1<0)→JZ n l x at_=some (SH l x.1 x.2):=fun q=>by
   have e:at_=QT l x.1:=VM ha (fun i h=>q i h (by omega)) (fun h=>hb _ (Nat.le_refl _) h)
   rw [JZ,Ae (by omega),Ae (by rw [List.length_take];omega),Ae (by rw [List.length_take];omega),Ae (by omega),Ae (by rw [List.length_take,List.length_drop];omega),SH,LX,←e,Int.toNat_natCast,List.append_assoc,List.singleton_append]
  rw [JQ]
  by_cases c:0<at_
  ·obtain ⟨j,rfl⟩:∃ j,at_=j+1:=⟨at_-1,by omega⟩
   have b:((j+1:Nat):Int)-1=(j:Int):=by omega
   have a:j<l.length:=by omega
   rw [Ad (show (0:Int)<((j+1:Nat):Int) by omega),Ae rfl,b,Ae (by unfold BV;omega),Ax a,Ab,Z8]
   have ne:DK l[j].1 x.1=false:=by
    cases q:DK l[j].1 x.1 with
    | false=>rfl
    | true=>rw [OD.2 ⟨_,List.getElem_mem a,(E3 _ _).1 q⟩] at hi;cases hi
   rw [ne,Bool.or_false]
   by_cases d:EM l[j].1 x.1<0
   ·rw [Ad d,Af (by decide)]
    refine fin fun i h h2=>?_
    rcases Nat.lt_or_ge i j with z | z
    ·exact QS (List.pairwise_iff_getElem.1 hs i j h2 a z) d
    ·obtain rfl:i=j:=by omega
     exact d
   ·obtain ⟨k,rfl⟩:∃ q,k=q+1:=⟨k-1,by omega⟩
    rw [Ac d,Ae (by rfl),Ae (by unfold BV;omega)]
    refine Zca n l x hs hi hl k m j (by omega) (by omega) (fun i h h2=>?_) (by omega)
    rcases Nat.lt_or_ge j i with z | z
    ·exact hb i (by omega) h2
    ·obtain rfl:i=j:=by omega
     exact d
  ·obtain rfl:at_=0:=by omega
   rw [Ac (by decide),Af (by decide)]
   exact fin fun i h=>absurd h (by omega)
theorem ZaU (n:Nat) (l:List (ByteArray × Vl)) (x:ByteArray × Vl) (hs:SS l) (hi:Zj l x.1=false) (hl:l.length≤1000000) (hn:l.length<n):Ji n l x=some (SH l x.1 x.2) :=
 Zca n l x hs hi hl l.length n l.length (Nat.le_refl _) (Nat.le_refl _) (fun i h a=>by omega) hn
theorem Zdc (rec:Ty→Ty→Vl→Option (Vl × Bool)) (n D:Nat) (a b x y:Ty) (v:Vl) (f:Vl→Option Vl) (ha:a.elem=[x]) (hb:b.elem=[y]) (hD:1≤D) (hl:v.list.length≤100000000)
  (hr:∀ u∈v.list,∃ r,rec x y u=some r∧Js D (f u) r):∀ (k m i:Nat) (acc:List Vl),i+k=v.list.length→k<m→acc.length=i→(∀ u∈acc,u.Nar∧u.depth≤D) →
  ∃ r,C4 rec n a b v m i acc=some r∧Js (D+1) ((Rx f (v.list.drop i)).bind fun l=>if NM v.list.length b=true then some (Vl.mk 8 0 0 ⟨#[]⟩ (acc++l) []) else none) r
 | k,0,i,acc,_,h,_,_=>absurd h (Nat.not_lt_zero _)
 | 0,m+1,i,acc,hi,_,h1,h2=>by
  rw [C4,As,Ac (by omega),Af (by decide),Gi,List.drop_eq_nil_of_le (by omega),Rx,Ab,List.append_nil,Bh]
  exact ⟨_,rfl,O9 (.mk _ (by simp only [Vl.list];omega) (by simp [Vl.fields]) (by show (⟨#[]⟩:ByteArray).size≤1048576;decide) (fun u hu=>(h2 u hu).1) (by simp [Vl.fields]) (by simp [Vl.fields])) (by
   have:=(HQ acc D).2 fun u hu=>(h2 u hu).2
   simp only [Vl.depth,He];omega)⟩
 | k+1,m+1,i,acc,hi,hm,h1,h2=>by
  have c:i<v.list.length:=by omega
  obtain ⟨r,e,⟨u1,u2,u3⟩⟩:=hr _ (List.getElem_mem c)
  rw [C4,As,Ad c,Ae rfl,Ax c,Ab,ha,hb,show Cb [x] 0=some x from rfl,Ab,show Cb [y] 0=some y from rfl,Ab,e,Ab,List.drop_eq_getElem_cons c,Rx]
  cases q:f v.list[i] with
  | none =>
   rw [q] at u1
   simp only at u1
   rw [u1,Ae (by rfl),Option.bind_none,Option.bind_none]
   exact ⟨_,rfl,Ja (by omega) rfl⟩
  | some z =>
   rw [q] at u1
   simp only at u1
   subst u1
   rw [Af (by simp),Ae (by omega),Ae (Aw (by omega))]
   obtain ⟨r,e,u⟩:=Zdc rec n D a b x y v f ha hb hD hl hr k m (i+1) (acc++[z]) (by omega) (by omega) (by simp;omega) (fun u hu=>by
    rcases List.mem_append.1 hu with hu | hu
    ·exact h2 u hu
    ·rw [List.mem_singleton] at hu;subst hu;exact ⟨u2,u3⟩)
   refine ⟨r,e,?_⟩
   rw [Ab]
   simp only [List.append_assoc,List.singleton_append] at u
   cases w:Rx f (v.list.drop (i+1)) with
   | none=>rw [w] at u;exact u
   | some l=>rw [w] at u;exact u
theorem Zaf (rec:Ty→Ty→Vl→Option (Vl × Bool)) (n D:Nat) (a b x y:Ty) (v:Vl) (f:Vl→Option Vl) (ha:a.elem=[x]) (hb:b.elem=[y]) (hD:1≤D) (hl:v.list.length≤100000000)
  (hr:∀ u∈v.list,∃ r,rec x y u=some r∧Js D (f u) r):∀ (k m i:Nat) (acc:List Vl),i+k=v.list.length→k<m→acc.length=i→(∀ u∈acc,u.Nar∧u.depth≤D) →
  ∃ r,Me rec n a b v m i acc=some r∧Js (D+1) ((Rx f (v.list.drop i)).bind fun l=>if NM v.list.length b=true then some (Vl.mk 8 0 0 ⟨#[]⟩ (acc++l) []) else none) r
 | k,0,i,acc,_,h,_,_=>absurd h (Nat.not_lt_zero _)
 | 0,m+1,i,acc,hi,_,h1,h2=>by
  rw [Me,As,Ac (by omega),Af (by decide),V9,List.drop_eq_nil_of_le (by omega),Rx,Ab,List.append_nil,Bd]
  exact ⟨_,rfl,O9 (.mk _ (by simp only [Vl.list];omega) (by simp [Vl.fields]) (by show (⟨#[]⟩:ByteArray).size≤1048576;decide) (fun u hu=>(h2 u hu).1) (by simp [Vl.fields]) (by simp [Vl.fields])) (by
   have:=(HQ acc D).2 fun u hu=>(h2 u hu).2
   simp only [Vl.depth,He];omega)⟩
 | k+1,m+1,i,acc,hi,hm,h1,h2=>by
  have c:i<v.list.length:=by omega
  obtain ⟨r,e,⟨u1,u2,u3⟩⟩:=hr _ (List.getElem_mem c)
  rw [Me,As,Ad c,Ae rfl,ha,hb,show Cb [x] 0=some x from rfl,Ab,show Cb [y] 0=some y from rfl,Ab,Ax c,Ab,e,Ab,List.drop_eq_getElem_cons c,Rx]
  cases q:f v.list[i] with
  | none =>
   rw [q] at u1
   simp only at u1
   rw [u1,Ae (by rfl),Option.bind_none,Option.bind_none]
   exact ⟨_,rfl,Ja (by omega) rfl⟩
  | some z =>
   rw [q] at u1
   simp only at u1
   subst u1
   rw [Af (by simp),Ae (by omega),Ae (Aw (by omega))]
   obtain ⟨r,e,u⟩:=Zaf rec n D a b x y v f ha hb hD hl hr k m (i+1) (acc++[z]) (by omega) (by omega) (by simp;omega) (fun u hu=>by
    rcases List.mem_append.1 hu with hu | hu
    ·exact h2 u hu
    ·rw [List.mem_singleton] at hu;subst hu;exact ⟨u2,u3⟩)
   refine ⟨r,e,?_⟩
   rw [Ab]
   simp only [List.append_assoc,List.singleton_append] at u
   cases w:Rx f (v.list.drop (i+1)) with
   | none=>rw [w] at u;exact u
   | some l=>rw [w] at u;exact u
theorem YY (n D:Nat) (l:List (ByteArray × Vl)) (hl:l.length≤1000000) (hn:D+1000000001<n) (hnul:∀ p∈l,B1 p.2=false) (hd:(l.map Prod.fst).Nodup) (hv:(Vl.mk 9 0 0 ⟨#[]⟩ [] (BZ l)).Nar) (hdp:(Vl.mk 9 0 0 ⟨#[]⟩ [] (BZ l)).depth≤D+1):J8 n l=some (Vl.mk 9 0 0 ⟨#[]⟩ [] (BZ l)):=by
 have e:=ZaC n l hl (by omega) hnul hd l.length n 0 (by omega) (by omega)
 rw [List.take_zero] at e
 have a:Ek n l n 0 []=_:=e
 rw [J8,a,Jo,Ae (by omega),HW n _ hv (by omega)]
 rfl
structure Acc (D:Nat) (b:Ty) (i:Nat) (acc:List (ByteArray × Vl)):Prop where
 len:acc.length≤i
 each:∀ p∈acc,p.1.size≤1048576∧p.2.Nar∧p.2.depth≤D∧p.2.kind≠0
 apart:(acc.map Prod.fst++(b.fields.drop i).map fun p=>p.2.1).Nodup
theorem Acc.skip {D:Nat} {b:Ty} {i:Nat} {acc:List (ByteArray × Vl)} (h:Acc D b i acc) (hi:i<b.fields.length):Acc D b (i+1) acc :=
 ⟨Nat.le_succ_of_le h.len,h.each,by
  have:=h.apart
  rw [List.drop_eq_getElem_cons hi,List.map_cons] at this
  exact this.sublist ((List.sublist_cons_self _ _).append_left _)⟩
theorem Acc.push {D:Nat} {b:Ty} {i:Nat} {acc:List (ByteArray × Vl)} (h:Acc D b i acc) (hi:i<b.fields.length) {y:Vl} (hs:b.fields[i].2.1.size≤1048576) (h1:y.Nar) (h2:y.depth≤D) (h3:y.kind≠0):Acc D b (i+1) (acc++[(b.fields[i].2.1,y)]) :=
 ⟨by rw [List.length_append];have:=h.len;simp;omega,fun p hp=>by
  rcases List.mem_append.1 hp with hp | hp
  ·exact h.each p hp
  ·rw [List.mem_singleton] at hp;subst hp;exact ⟨hs,h1,h2,h3⟩,by
  have:=h.apart
  rw [List.drop_eq_getElem_cons hi,List.map_cons] at this
  rw [List.map_append,List.map_singleton,List.append_assoc,List.singleton_append]
  exact this⟩
theorem Acc.names {D:Nat} {b:Ty} {i:Nat} {acc:List (ByteArray × Vl)} (h:Acc D b i acc):(acc.map Prod.fst).Nodup:=h.apart.sublist (List.sublist_append_left _ _)
theorem Acc.new {D:Nat} {b:Ty} {i:Nat} {acc:List (ByteArray × Vl)} (h:Acc D b i acc) (hi:i<b.fields.length):Zj (BZ acc) b.fields[i].2.1=false:=by
 cases q:Zj (BZ acc) b.fields[i].2.1 with
 | false=>rfl
 | true =>
  obtain ⟨p,a,e⟩:=OD.1 q
  have:=h.apart
  rw [List.drop_eq_getElem_cons hi,List.map_cons] at this
  have:=(List.nodup_append.1 this).2.2 p.1 (List.mem_map.2 ⟨p,(IU acc).mem_iff.1 a,rfl⟩) b.fields[i].2.1 (List.mem_cons_self ..)
  exact absurd e this
theorem Acc.sort {D:Nat} {b:Ty} {i:Nat} {acc:List (ByteArray × Vl)} (h:Acc D b i acc) (hi:i<b.fields.length) (y:Vl):SH (BZ acc) b.fields[i].2.1 y=BZ (acc++[(b.fields[i].2.1,y)]):=by
 refine Q6 _ _ ?_ (Zab (Qm acc h.names) (h.new hi) y) (Qm _ ?_)
 ·refine ((Ru _ _ _).trans ?_).trans (IU _).symm
  refine ((IU acc).cons _).trans ?_
  exact (List.perm_append_singleton _ _).symm
 ·have:=h.apart
  rw [List.drop_eq_getElem_cons hi,List.map_cons] at this
  rw [List.map_append,List.map_singleton]
  exact this.sublist (List.Sublist.append_left (List.singleton_sublist.2 (List.mem_cons_self ..)) _)
theorem Acc.ok {D:Nat} {b:Ty} {i:Nat} {acc:List (ByteArray × Vl)} (h:Acc D b i acc) (hi:i≤100000000):(Vl.mk 9 0 0 ⟨#[]⟩ [] (BZ acc)).Nar∧(Vl.mk 9 0 0 ⟨#[]⟩ [] (BZ acc)).depth≤D+1:=by
 have c:∀ p∈BZ acc,_:=fun p a=>h.each p ((IU acc).mem_iff.1 a)
 refine ⟨.mk _ (by simp [Vl.list]) (by show (BZ acc).length≤_;rw [Gh];have:=h.len;omega) (by show (⟨#[]⟩:ByteArray).size≤1048576;decide) (by simp [Vl.list]) (fun p a=>(c p a).1) (fun p a=>(c p a).2.1),?_⟩
 have:=(IW (BZ acc) D).2 fun p a=>(c p a).2.2.1
 simp only [Vl.depth,Hz];omega
theorem Y1 {v:Vl} (h:v.kind≠0):B1 v=false:=by rw [B1,Ac h];simp
theorem I4 {o:Option (List (ByteArray × Vl))} {acc:List (ByteArray × Vl)} {x:ByteArray × Vl}:(o.map fun l=>Vl.mk 9 0 0 ⟨#[]⟩ [] (BZ ((acc++[x])++l)))=(o.map fun l=>[x]++l).map fun l=>Vl.mk 9 0 0 ⟨#[]⟩ [] (BZ (acc++l)):=by
 cases o with
 | none=>rfl
 | some l=>simp only [Option.map_some,List.append_assoc]
theorem QM {o:Option (List (ByteArray × Vl))}:(o.map fun l=>[]++l)=o:=by cases o<;>rfl
structure RecH (rec:Ty→Ty→Vl→Option (Vl × Bool)) (n D:Nat) (a b:Ty) (v:Vl) (f:Ty→Ty→Vl→Option Vl):Prop where
 vk:v.kind=9
 vl:v.fields.length≤100000000
 al:a.fields.length≤1000000
 bl:b.fields.length≤1000000
 nn:D+2000000000<n
 hD:1≤D
 hc:∀ q∈v.fields,BN n q.2=some q.2
 bn:∀ g∈b.fields,g.2.1.size≤1048576
 hr:∀ g∈b.fields,∀ p,Fv a.fields g.1=some p→∀ x,Eb v p.2.1=some x→∃ r,rec p.2.2.2.1 g.2.2.2.1 x=some r∧Js D (f p.2.2.2.1 g.2.2.2.1 x) r∧∀ y,f p.2.2.2.1 g.2.2.2.1 x=some y→y.kind≠0
 hd:∀ g∈b.fields,g.2.2.1=3→∃ x,g.2.2.2.2=[x]∧x.Nar∧x.depth≤D∧x.kind≠0
theorem Zgz {rec:Ty→Ty→Vl→Option (Vl × Bool)} {n D:Nat} {a b:Ty} {v:Vl} {f:Ty→Ty→Vl→Option Vl} (H:RecH rec n D a b v f):∀ (k m i:Nat) (acc:List (ByteArray × Vl)),i+k=b.fields.length→k<m→Acc D b i acc →
  ∃ r,AE rec n a b v m acc i=some r∧Js (D+1) ((NH f a v (b.fields.drop i)).map fun l=>Vl.mk 9 0 0 ⟨#[]⟩ [] (BZ (acc++l))) r
 | k,0,i,acc,_,h,_=>absurd h (Nat.not_lt_zero _)
 | 0,m+1,i,acc,hi,_,ha=>by
  have V:=H.bl
  have G:=H.nn
  have E:=ha.len
  obtain ⟨z,w⟩:=ha.ok (by omega)
  rw [AE,As,Ac (by omega),Af (by decide),D7,YY n D acc (by omega) (by omega) (fun p hp=>Y1 (ha.each p hp).2.2.2) ha.names z w,List.drop_eq_nil_of_le (by omega),NH,Option.map_some,List.append_nil]
  exact ⟨_,rfl,rfl,z,w⟩
 | k+1,m+1,i,acc,hi,hm,ha=>by
  have d:i<b.fields.length:=by omega
  have g:=List.getElem_mem d
  have V:=H.bl
  have O:=H.al
  have G:=H.nn
  have J:=H.vl
  have E:=ha.len
  have s:∀ c,Acc D b (i+1) c→∃ r,A5 rec n (AE rec n a b v m) i c=some r∧Js (D+1) ((NH f a v (b.fields.drop (i+1))).map fun l=>Vl.mk 9 0 0 ⟨#[]⟩ [] (BZ (c++l))) r:=fun c h=>by
   obtain ⟨r,e,u⟩:=Zgz H k m (i+1) c (by omega) (by omega) h
   rw [A5,Ae (Aw (by omega))]
   exact ⟨r,e,u⟩
  rw [AE,As,Ad d,Ae rfl,Ax d,Ab,M4 n a.fields _ (by omega) (by omega),Ab,YT n v _ H.vk (by omega) (by omega) H.hc,Ab,List.drop_eq_getElem_cons d,NH]
  have j:LS f a v b.fields[i]=WC b.fields[i]→∃ r,(if decide (b.fields[i].2.2.1=1)=true then some (Vl.mk 0 0 0 ⟨#[]⟩ [] [],false) else if decide (b.fields[i].2.2.1=3)=true then (Cb b.fields[i].2.2.2.2 0).bind fun t=>if (acc.length+1)*104≤140737488355328∧acc.length+1≤4611686018427387904 then A5 rec n (AE rec n a b v m) i (acc++[(b.fields[i].2.1,t)]) else none else A5 rec n (AE rec n a b v m) i acc)=some r∧Js (D+1) (((LS f a v b.fields[i]).bind fun o=>(NH f a v (b.fields.drop (i+1))).map fun l=>o++l).map fun l=>Vl.mk 9 0 0 ⟨#[]⟩ [] (BZ (acc++l))) r:=fun q=>by
   rw [q,WC]
   by_cases c1:b.fields[i].2.2.1=1
   ·rw [Ad c1,Ae rfl,Ae c1]
    exact ⟨_,rfl,Ja (by omega) rfl⟩
   rw [Ac c1,Af (by decide),Af c1]
   by_cases c3:b.fields[i].2.2.1=3
   ·obtain ⟨x,hx,C,Q,N⟩:=H.hd _ g c3
    rw [Ad c3,Ae rfl,Ae c3,hx,show Cb [x] 0=some x from rfl,Ab,Ae (by omega)]
    obtain ⟨r,e,u⟩:=s _ (ha.push d (H.bn _ g) C Q N)
    rw [I4] at u
    exact ⟨r,e,u⟩
   ·rw [Ac c3,Af (by decide),Af c3]
    obtain ⟨r,e,u⟩:=s _ (ha.skip d)
    refine ⟨r,e,?_⟩
    rw [Ab,QM]
    exact u
  cases hp:Fv a.fields b.fields[i].1 with
  | none =>
   rw [Af (by simp)]
   exact j (by rw [LS,hp])
  | some p =>
   simp only [Option.getD_some,Option.isSome_some,Bool.true_and]
   cases hx:Eb v p.2.1 with
   | none =>
    rw [Af (by simp)]
    exact j (by rw [LS,hp];simp only [hx])
   | some x =>
    obtain ⟨r,e,⟨u1,F,K⟩,U⟩:=H.hr _ g p hp x hx
    have ef:LS f a v b.fields[i]=(f p.2.2.2.1 b.fields[i].2.2.2.1 x).map fun y=>[(b.fields[i].2.1,y)]:=by rw [LS,hp];simp only [hx]
    rw [Ae Option.isSome_some,Option.getD_some,e,Ab,ef]
    cases q:f p.2.2.2.1 b.fields[i].2.2.2.1 x with
    | none =>
     rw [q] at u1
     simp only at u1
     rw [u1,Ae (by rfl)]
     exact ⟨_,rfl,Ja (by omega) rfl⟩
    | some y =>
     rw [q] at u1
     simp only at u1
     subst u1
     rw [Af (by simp),Ae (by omega)]
     obtain ⟨r,e,u⟩:=s _ (ha.push d (H.bn _ g) F K (U y q))
     rw [I4] at u
     exact ⟨r,e,u⟩
theorem ZaJ {rec:Ty→Ty→Vl→Option (Vl × Bool)} {n D:Nat} {a b:Ty} {v:Vl} {f:Ty→Ty→Vl→Option Vl} (H:RecH rec n D a b v f):∀ (k m i:Nat) (acc:List (ByteArray × Vl)),i+k=b.fields.length→k<m→Acc D b i acc →
  ∃ r,Gs rec n a b v m i (BZ acc)=some r∧Js (D+1) ((NH f a v (b.fields.drop i)).map fun l=>Vl.mk 9 0 0 ⟨#[]⟩ [] (BZ (acc++l))) r
 | k,0,i,acc,_,h,_=>absurd h (Nat.not_lt_zero _)
 | 0,m+1,i,acc,hi,_,ha=>by
  have V:=H.bl
  obtain ⟨G,E⟩:=ha.ok (by omega)
  rw [Gs,As,Ac (by omega),Af (by decide),Vz,List.drop_eq_nil_of_le (by omega),NH,Option.map_some,List.append_nil]
  exact ⟨_,rfl,rfl,G,E⟩
 | k+1,m+1,i,acc,hi,hm,ha=>by
  have c:i<b.fields.length:=by omega
  have g:=List.getElem_mem c
  have V:=H.bl
  have O:=H.al
  have Z:=H.nn
  have J:=H.vl
  have Y:=ha.len
  have t:∀ y,Ji n (BZ acc) (b.fields[i].2.1,y)=some (BZ (acc++[(b.fields[i].2.1,y)])):=fun y=>by
   rw [ZaU n (BZ acc) (b.fields[i].2.1,y) (Qm acc ha.names) (ha.new c) (by rw [Gh];omega) (by rw [Gh];omega),ha.sort c y]
  have w:∀ d,Acc D b (i+1) d→∃ r,II rec n (Gs rec n a b v m) i (BZ d)=some r∧Js (D+1) ((NH f a v (b.fields.drop (i+1))).map fun l=>Vl.mk 9 0 0 ⟨#[]⟩ [] (BZ (d++l))) r:=fun d h=>by
   obtain ⟨r,e,u⟩:=ZaJ H k m (i+1) d (by omega) (by omega) h
   rw [II,Ae (Aw (by omega))]
   exact ⟨r,e,u⟩
  rw [Gs,As,Ad c,Ae rfl,Ax c,Ab,Jb n a _ (by omega) (by omega),Ab,ZaW n v _ (by omega) (by omega),Ab,List.drop_eq_getElem_cons c,NH]
  have j:LS f a v b.fields[i]=WC b.fields[i]→∃ r,(if decide (b.fields[i].2.2.1=1)=true then some (Vl.mk 0 0 0 ⟨#[]⟩ [] [],false) else if decide (b.fields[i].2.2.1=3)=true then (Cb b.fields[i].2.2.2.2 0).bind fun z=>(Ji n (BZ acc) (b.fields[i].2.1,z)).bind fun s=>II rec n (Gs rec n a b v m) i s else II rec n (Gs rec n a b v m) i (BZ acc))=some r∧Js (D+1) (((LS f a v b.fields[i]).bind fun o=>(NH f a v (b.fields.drop (i+1))).map fun l=>o++l).map fun l=>Vl.mk 9 0 0 ⟨#[]⟩ [] (BZ (acc++l))) r:=fun q=>by
   rw [q,WC]
   by_cases c1:b.fields[i].2.2.1=1
   ·rw [Ad c1,Ae rfl,Ae c1]
    exact ⟨_,rfl,Ja (by omega) rfl⟩
   rw [Ac c1,Af (by decide),Af c1]
   by_cases c3:b.fields[i].2.2.1=3
   ·obtain ⟨x,hx,C,Q,N⟩:=H.hd _ g c3
    rw [Ad c3,Ae rfl,Ae c3,hx,show Cb [x] 0=some x from rfl,Ab,t,Ab]
    obtain ⟨r,e,u⟩:=w _ (ha.push c (H.bn _ g) C Q N)
    rw [I4] at u
    exact ⟨r,e,u⟩
   ·rw [Ac c3,Af (by decide),Af c3]
    obtain ⟨r,e,u⟩:=w _ (ha.skip c)
    refine ⟨r,e,?_⟩
    rw [Ab,QM]
    exact u
  cases hp:Fv a.fields b.fields[i].1 with
  | none =>
   rw [Af (by simp)]
   exact j (by rw [LS,hp])
  | some p =>
   simp only [Option.getD_some,Option.isSome_some,Bool.true_and]
   cases hx:Eb v p.2.1 with
   | none =>
    rw [Af (by simp)]
    exact j (by rw [LS,hp];simp only [hx])
   | some x =>
    obtain ⟨r,e,⟨u1,F,K⟩,U⟩:=H.hr _ g p hp x hx
    have ef:LS f a v b.fields[i]=(f p.2.2.2.1 b.fields[i].2.2.2.1 x).map fun y=>[(b.fields[i].2.1,y)]:=by rw [LS,hp];simp only [hx]
    rw [Ae Option.isSome_some,Option.getD_some,e,Ab,ef]
    cases q:f p.2.2.2.1 b.fields[i].2.2.2.1 x with
    | none =>
     rw [q] at u1
     simp only at u1
     rw [u1,Ae (by rfl)]
     exact ⟨_,rfl,Ja (by omega) rfl⟩
    | some y =>
     rw [q] at u1
     simp only at u1
     subst u1
     rw [Af (by simp),t,Ab]
     obtain ⟨r,e,u⟩:=w _ (ha.push c (H.bn _ g) F K (U y q))
     rw [I4] at u
     exact ⟨r,e,u⟩
theorem P5 (n:Nat) (t:Ty) (w:ByteArray) (hn:t.size+1450000≤n) (ht:t.small) (hk:t.kind=9∨t.kind=10):IP n t w=some ((B5 t w).getD MN,(B5 t w).isSome):=by
 have c:IP n t w=(Jp n t (fun x=>some (DK x.2.1 w))).bind fun b=>some (b.1,b.2):=rfl
 have a:B5 t w=Cb t.fields (N5 (fun x:TF=>DK x.2.1 w) t.fields 0):=Ye _ _
 rw [c]
 rcases ZfB n t (fun x=>DK x.2.1 w) hn ht with ⟨k1,k2,_⟩ | ⟨_,⟨q1,q2⟩ | ⟨j,hj,q1,q2⟩⟩
 ·omega
 ·rw [q2,a,q1];rfl
 ·rw [q2,a,q1,Ax hj];rfl
theorem XP (rec:Ty→Vl→Option Bool) (d n:Nat) (t:Ty) (v:Vl) (hn:t.size+1450000≤n) (hn2:v.size<n) (hs:v.size≤1000000000) (ht:t.small) (tk:t.kind=9) (vk:v.kind=9)
  (hr:∀ p∈t.fields,∀ q∈v.fields,rec p.2.2.2.1 q.2=some (MP d p.2.2.2.1 q.2)):∀ (k m i:Nat),i+k=v.fields.length→k<m→H4 rec n t v m i=some ((v.fields.drop i).all (Zje d t) && !(t.fields.any (Zdq v)))
 | k,0,i,_,h=>absurd h (Nat.not_lt_zero _)
 | 0,m+1,i,hi,_=>by
  have b:=t.lens.2
  have j:=ht.1
  have e:=JU n t.fields (fun x=>J2 n x v) (Zdq v) (fun x _=>by
   obtain ⟨u,f⟩:=ZbH n v x.2.1 vk hs hn2
   rw [J2,f];rfl) (by omega) (by omega)
  rw [H4,As,Ac (by omega),Af (by decide),OT,e,List.drop_eq_nil_of_le (by omega),List.all_nil,Bool.true_and];rfl
 | k+1,m+1,i,hi,hm=>by
  have a:i<v.fields.length:=by omega
  have g:=OQ v
  have ih:=XP rec d n t v hn hn2 hs ht tk vk hr k m (i+1) (by omega) (by omega)
  rw [H4,As,Ad a,Ae rfl,Ax a,Ab,P5 n t _ hn ht (.inl tk),Ab,List.drop_eq_getElem_cons a,List.all_cons,Zje]
  cases c:B5 t v.fields[i].1 with
  | none=>rw [Ae (by rfl)];rfl
  | some p =>
   rw [Af (by simp),Option.getD_some,hr _ (EE c).1 _ (List.getElem_mem a),Ab]
   simp only
   cases MP d p.2.2.2.1 v.fields[i].2 with
   | false=>rfl
   | true =>
    rw [Af (by decide),Ae (Aw (by omega)),Bool.true_and]
    exact ih
theorem S3:∀ (n d:Nat) (t:Ty) (v:Vl),t.size+1500000≤n→v.size+1500000≤n→v.size≤1000000000→t.small→t.Good→v.Good→t.depth≤d→I8 n t v=some (MP d t v)
 | 0,d,t,v,h,_,_,_,_,_,_=>by omega
 | n+1,0,t,v,_,_,_,_,_,_,hd=>by have:=t.depth_eq;omega
 | n+1,d+1,t,v,h1,h2,h3,ht,gt,gv,hd=>by
  obtain ⟨E,z,K⟩:=Q3 (Ta gt)
  obtain ⟨_,D⟩:=O0 (L6 gv)
  have J:=t.lens
  have H:=ht.1
  have F:=HZ v
  have C:=(t.ok_eq.1 ht.2.2).1
  rw [I8,SU,MP]
  by_cases hk:v.kind=t.kind
  rotate_left
  ·rw [Ac hk,Ae (fun q=>hk q.symm)];rfl
  rw [Ad hk,Af (show ¬ (t.kind≠v.kind) from fun q=>q hk.symm)]
  simp only [Bool.not_true,Bool.false_eq_true,if_false]
  have i:t.kind≠3→v.scale=t.scale:=fun q=>by rw [Ty.scale0 z q,Vl.scale0 D (by rw [hk];exact q)]
  rcases HC E with tk | tk | tk | tk | tk | tk | tk | tk | tk | tk
  ·simp [tk,Dl,P7]
  ·have q:=i (by omega);simp [tk,Dl,q]
  ·simp [tk,Dl,Bool.and_comm]
  ·have l:=Qd n t.words v.text (by omega) (by omega)
   have s:(t.words.any fun x=>DK v.text x)=t.words.any fun x=>DK x v.text:=by congr 1;funext x;exact Zbo _ _
   rw [Ac (show ¬ t.kind=2 by omega),Ac (show ¬ t.kind=6 by omega),Ac (show ¬ t.kind=7 by omega),Ac (show ¬ t.kind=3 by omega)]
   simp only [Bool.false_eq_true,if_false]
   rw [Dl,Af (by decide),Ad tk,Ae rfl,Af (show ¬ (t.kind=2∨t.kind=6∨t.kind=7) by omega),Af (show ¬ t.kind=3 by omega),Ae tk]
   by_cases C:0<t.words.length
   ·rw [Ae (Ad (by omega)),l,s,Ac (show ¬ (t.words.length:Int)=0 by omega)]
    simp
   ·rw [Af (by rw [decide_eq_true_eq];omega),Ad (show (t.words.length:Int)=0 by omega)]
    have o:t.words=[]:=List.length_eq_zero_iff.1 (by omega)
    rw [o]
    rfl
  ·simp [tk,Dl,XI]
  ·have q:=i (by omega);simp [tk,Dl,q]
  ·have q:=i (by omega);simp [tk,Dl,q]
  ·obtain ⟨e,m⟩:=gt.own.elem tk
   have g:e∈t.elem:=by rw [m];simp
   have k:Cb t.elem 0=some e:=by rw [m];rfl
   have l:=Xd n v.list (fun x=>J7 (I8 n) x t) (fun x => !MP d e x) (fun x j=>by
    have a:=t.elem_size _ g
    have b:=v.list_size x j
    have c:=Ty.depth_elem g
    rw [J7,k,Ab,S3 n d e x (by omega) (by omega) (by omega) (Ty.small_elem ht g) (ET gt g) (M6 gv (by rw [BL,Ae (.inl (by omega))];exact j)) (by omega)];rfl) (by omega) (by omega)
   have s:(v.list.all fun x=>t.elem.all fun e=>MP d e x)=v.list.all fun x=>MP d e x:=by
    congr 1;funext x;rw [m];simp
   rw [s]
   simp only [tk,Dl]
   simp only [show decide ((8:Int)=2)=false from rfl,show decide ((8:Int)=6)=false from rfl,show decide ((8:Int)=7)=false from rfl,show decide ((8:Int)=3)=false from rfl,show decide ((8:Int)=4)=false from rfl,show decide ((8:Int)=5)=false from rfl,decide_true,Bool.false_eq_true,if_false,if_true]
   rw [l]
   unfold XI
   cases hr:decide (t.min≤(v.list.length:Int))&&decide ((v.list.length:Int)≤t.max) with
   | false=>simp
   | true =>
    simp only [if_true,Ab,Bool.and_true]
    rw [List.not_any_eq_all_not]
    simp
  ·have y:=XP (I8 n) d n t v (by omega) (by omega) h3 ht tk (by omega) (fun p f q u=>by
     have a:=t.field_size p f
     have b:=v.field_size q u
     have c:=Ty.depth_field f
     exact S3 n d _ _ (by omega) (by omega) (by omega) (Ty.small_field ht f) (BK gt f) (M6 gv (by rw [BL,Af (by omega),Ae (by omega)];exact List.mem_map_of_mem u)) (by omega)) v.fields.length n 0 (by omega) (by omega)
   rw [List.drop_zero] at y
   have r:H4 (I8 n) n t v n 0=_:=y
   simp only [tk,Dl]
   simp only [show decide ((9:Int)=2)=false from rfl,show decide ((9:Int)=6)=false from rfl,show decide ((9:Int)=7)=false from rfl,show decide ((9:Int)=3)=false from rfl,show decide ((9:Int)=4)=false from rfl,show decide ((9:Int)=5)=false from rfl,show decide ((9:Int)=8)=false from rfl,show decide ((9:Int)=10)=false from rfl,decide_true,Bool.false_eq_true,if_false,if_true]
   exact r
  ·have w:v.kind=10:=by omega
   obtain ⟨x,j⟩:=Za2 gv w
   have e:Dl (I8 n) n t v false=some (match B5 t v.text with
    | some p=>v.list.all fun x=>MP d p.2.2.2.1 x
    | none=>false):=by
    simp only [Dl,tk,P5 n t _ (show t.size+1450000≤n by omega) ht (.inr tk),Ab]
    simp only [show decide ((10:Int)=4)=false from rfl,show decide ((10:Int)=5)=false from rfl,show decide ((10:Int)=8)=false from rfl,decide_true,Bool.false_eq_true,if_false,if_true]
    cases c:B5 t v.text with
    | none=>rfl
    | some p =>
     have f:=(EE c).1
     have a:=t.field_size _ f
     have b:=v.list_size x (by rw [j];simp)
     have c:=Ty.depth_field f
     have G:=S3 n d p.2.2.2.1 x (by omega) (by omega) (by omega) (Ty.small_field ht f) (BK gt f) (M6 gv (by rw [BL,Ae (.inr w),j];simp)) (by omega)
     rw [j,Ae (by rfl),show Cb [x] 0=some x from rfl,Ab]
     simp [G]
   simp only [tk]
   exact e
theorem ZeF (n:Nat) (t:Ty) (v:Vl) (h1:t.size+1500000≤n) (h2:v.size+1500000≤n) (h3:v.size<1048576) (ht:t.small) (hv:v.ok) (gt:t.Good):Jg n t v=some (decide (NZ v=0)&&MP 12 t v):=by
 rw [Jg,VF n v (by omega) h3 hv,Ab]
 by_cases h:NZ v=0
 ·rw [Ad h,Ae rfl,S3 n 12 t v h1 h2 (by omega) ht gt (N8 h) ht.2.1];rfl
 ·rw [Ac h,Af (by decide)];rfl
def Zaw (P:Prop) (left:Int) (o:Option (Int × Int)):Prop:=∃ e l,o=some (e,l)∧(e=0→0≤l∧l≤left∧P)
theorem Zat (r:Ty→Int→Int→Option (Int × Int)) (n D:Nat) (t:Ty) (lv:Int) (hlv:0≤lv∧lv≤9) (hn:t.size+2600000≤n) (ht:t.small) (hk:t.kind=9∨t.kind=10) (hg:∀ x∈t.fields,TX t.kind x)
  (hr:∀ p∈t.fields,∀ left,0≤left→left≤4096→Zaw (p.2.2.2.1.Fine D) left (r p.2.2.2.1 (lv+1) left)):∀ (k m i:Nat) (left:Int),i+k=t.fields.length→k<m→0≤left→left≤4096 →
  Zaw (∀ p∈t.fields.drop i,p.2.2.2.1.Fine D∧∀ v∈p.2.2.2.2,NZ v=0∧MP 12 p.2.2.2.1 v=true) left (Dk r n t lv (t.fields.map fun p=>p.2.2.2.1) m i left)
 | k,0,i,_,_,h,_,_=>absurd h (Nat.not_lt_zero _)
 | 0,m+1,i,left,hi,_,h1,h2=>by
  rw [Dk,As,Ac (show ¬ i<(t.fields.map fun p=>p.2.2.2.1).length by rw [List.length_map];omega)]
  refine ⟨0,left,rfl,fun _=>⟨h1,Int.le_refl _,?_⟩⟩
  rw [List.drop_eq_nil_of_le (by omega)];simp
 | k+1,m+1,i,left,hi,hm,h1,h2=>by
  have d:i<t.fields.length:=by omega
  have c:=List.getElem_mem d
  have K:=ht.1
  have V:=t.lens
  have f:i<(t.fields.map fun p=>p.2.2.2.1).length:=by rw [List.length_map];exact d
  rw [Dk,As,Ad f]
  simp only [if_true,Ax f,Ax d,Ab,List.getElem_map]
  rw [Ae (by unfold BV;omega)]
  obtain ⟨e,l,z,H⟩:=hr _ c left h1 h2
  rw [z,Ab]
  by_cases h0:e=0
  rotate_left
  ·rw [Ac h0]
   exact ⟨e,l,rfl,fun q=>absurd q h0⟩
  obtain ⟨C,Q,o⟩:=H h0
  rw [Ad h0]
  simp only [Bool.not_true,Bool.false_eq_true,if_false]
  rw [Ae (Aw (by omega))]
  obtain ⟨E,F,O,N⟩:=Zat r n D t lv hlv hn ht hk hg hr k m (i+1) l (by omega) (by omega) C (by omega)
  have fin:(∀ v∈t.fields[i].2.2.2.2,NZ v=0∧MP 12 t.fields[i].2.2.2.1 v=true)→Zaw (∀ p∈t.fields.drop i,p.2.2.2.1.Fine D∧∀ v∈p.2.2.2.2,NZ v=0∧MP 12 p.2.2.2.1 v=true) left (Dk r n t lv (t.fields.map fun p=>p.2.2.2.1) m ((i:Int)+1) l):=fun hd=>by
   refine ⟨E,F,O,fun q=>?_⟩
   obtain ⟨s,U,y⟩:=N q
   refine ⟨s,by omega,fun x hx=>?_⟩
   rw [List.drop_eq_getElem_cons d] at hx
   rcases List.mem_cons.1 hx with rfl | hx
   ·exact ⟨o,hd⟩
   ·exact y x hx
  obtain ⟨g1,g2,g3,g4⟩:=hg _ c
  by_cases n3:t.fields[i].2.2.1=3
  ·have G:t.kind=9:=by
    rcases hk with hk | hk
    ·exact hk
    ·have:=g2 hk;omega
   obtain ⟨v,hv⟩:=List.length_eq_one_iff.1 (g3 n3)
   have j:Cb t.fields[i].2.2.2.2 0=some v:=by rw [hv];rfl
   obtain ⟨_,Z,o3,J⟩:=(t.ok_eq.1 ht.2.2).2.2.2 _ c
   obtain ⟨v1,Y,u⟩:=J v (by rw [hv];simp)
   have a:=t.field_size _ c
   have g:=ZeF n t.fields[i].2.2.2.1 v (by omega) (by omega) (by omega) (Ty.small_field ht c) u o.good
   rw [Ad G,Ad n3]
   simp only [if_true,j,Ab,g]
   cases b:decide (NZ v=0)&&MP 12 t.fields[i].2.2.2.1 v with
   | false=>exact ⟨18,l,rfl,fun q=>absurd q (by decide)⟩
   | true =>
    rw [Bool.and_eq_true,decide_eq_true_eq] at b
    exact fin fun w hw=>by rw [hv,List.mem_singleton] at hw;subst hw;exact b
  ·have hd:t.fields[i].2.2.2.2=[]:=List.length_eq_zero_iff.1 (g4 n3)
   rw [Ac n3]
   simp only [Bool.false_eq_true,if_false,ite_self]
   exact fin fun w hw=>by rw [hd] at hw;simp at hw
theorem MW:∀ (n D:Nat) (t:Ty) (lv left:Int),t.size+2600001≤n→t.small→lv=9-(D:Int)→0≤lv→0≤left→left≤4096→Zaw (t.Fine D) left (IE n t lv left)
 | 0,D,t,_,_,h,_,_,_,_,_=>by omega
 | n+1,D,t,lv,left,h,ht,hD,l1,h1,h2=>by
  have H:=t.lens
  have F:=ht.1
  have f:=Ty.fit_of ht (show t.size+2600000≤n by omega)
  rw [IE,OH]
  by_cases c1:left=0
  ·rw [Ad c1]
   exact ⟨9,left,rfl,fun q=>absurd q (by decide)⟩
  rw [Ac c1]
  simp only [Bool.false_eq_true,if_false]
  have v:BV (left-1):=by unfold BV;omega
  by_cases c2:8<lv
  ·rw [Ad c2]
   exact ⟨23,left,rfl,fun q=>absurd q (by decide)⟩
  obtain ⟨d,rfl⟩:∃ d,D=d+1:=⟨D-1,by omega⟩
  rw [Ac c2]
  simp only [Bool.false_eq_true,if_false,Ae v]
  rw [Zfs n t f,Ab]
  by_cases c3:QJ t=0
  rotate_left
  ·rw [Ac c3]
   exact ⟨QJ t,left-1,rfl,fun q=>absurd q c3⟩
  obtain ⟨K,u,z,o,J,G⟩:=Um c3
  rw [Ad c3]
  simp only [Bool.not_true,Bool.false_eq_true,if_false]
  rw [ZbL n t (by omega) (by omega),Ab]
  by_cases k8:t.kind=8
  ·obtain ⟨C,_,_⟩:=z k8
   obtain ⟨e,he⟩:∃ e,t.elem=[e]:=List.length_eq_one_iff.1 C
   have s:e∈t.elem:=by rw [he];simp
   have E:=t.elem_size e s
   obtain ⟨n',rfl⟩:∃ k,n=k+2:=⟨n-2,by omega⟩
   obtain ⟨g,i,m,l⟩:=MW (n'+2) d e (lv+1) (left-1) (by omega) (Ty.small_elem ht s) (by omega) (by omega) (by omega) (by omega)
   have hf0:t.fields=[]:=List.length_eq_zero_iff.1 (o (by omega) (by omega))
   have j:BV (lv+1):=by unfold BV;omega
   rw [W3,Ae k8,he,Dk,Ae (by simp),show Cb [e] 0=some e from rfl,Ab,Ae j,m,Ab]
   by_cases c4:g=0
   ·obtain ⟨b,w,w4⟩:=l c4
    subst c4
    rw [Ac (show ¬ t.kind=9 by omega)]
    simp only [decide_true,Bool.not_true,Bool.false_eq_true,if_false]
    rw [Ae (by decide),Dk,Af (by simp)]
    refine ⟨0,i,rfl,fun _=>⟨b,by omega,?_⟩⟩
    exact .mk d t c3 (fun y hy=>by rw [he,List.mem_singleton] at hy;subst hy;exact w4) (fun y hy=>by rw [hf0] at hy;simp at hy) (fun y hy=>by rw [hf0] at hy;simp at hy)
   ·rw [Ac c4]
    exact ⟨g,i,rfl,fun q=>absurd q c4⟩
  ·rw [W3,Af k8]
   have c:t.elem=[]:=List.length_eq_zero_iff.1 (u k8)
   by_cases k9:t.kind=9∨t.kind=10
   ·rw [Ae k9]
    obtain ⟨g,i,m,l⟩:=Zat (IE n) n d t lv ⟨l1,by omega⟩ (by omega) ht k9 G (fun p r a x b=>by
     have:=t.field_size p r
     exact MW n d p.2.2.2.1 (lv+1) a (by omega) (Ty.small_field ht r) (by omega) (by omega) x b) t.fields.length n 0 (left-1) (by omega) (by omega) (by omega) (by omega)
    refine ⟨g,i,m,fun q=>?_⟩
    obtain ⟨b,w,w4⟩:=l q
    rw [List.drop_zero] at w4
    exact ⟨b,by omega,.mk d t c3 (fun y hy=>by rw [c] at hy;simp at hy) (fun y hy=>(w4 y hy).1) (fun y hy=>(w4 y hy).2)⟩
   ·rw [Af k9]
    have hf0:t.fields=[]:=List.length_eq_zero_iff.1 (o (by omega) (by omega))
    obtain ⟨n',rfl⟩:∃ k,n=k+1:=⟨n-1,by omega⟩
    rw [Dk,Af (by simp)]
    exact ⟨0,left-1,rfl,fun _=>⟨by omega,by omega,.mk d t c3 (fun y hy=>by rw [c] at hy;simp at hy) (fun y hy=>by rw [hf0] at hy;simp at hy) (fun y hy=>by rw [hf0] at hy;simp at hy)⟩⟩
theorem Zc7 {c:Int} (h:1≤c):1≤(if 4097<c then 4097 else c)∧(if 4097<c then 4097 else c)≤4097:=by split<;>omega
theorem SZ:∀ (n:Nat) (t:Ty),t.size+10≤n→t.small→t.Good→∃ a,DV n t=some a∧1≤a∧a≤4097
 | 0,t,h,_,_=>by omega
 | n+1,t,h,ht,gt=>by
  have U:=t.lens
  have F:=ht.1
  obtain ⟨Y,J,D,H,C,G⟩:=Um (Ta gt)
  rw [DV,I9]
  by_cases k8:t.kind=8
  ·obtain ⟨z1,N,Q⟩:=D k8
   have o:Cb t.elem 0=some t.elem[0]:=Ax (k:=0) (by omega)
   rw [Ad k8,Ae rfl]
   by_cases l:0<t.min
   ·have e:=List.getElem_mem (show 0<t.elem.length by omega)
    have:=t.elem_size _ e
    obtain ⟨a,g,x,w⟩:=SZ n t.elem[0] (by omega) (Ty.small_elem ht e) (ET gt e)
    have y:0≤t.min*a:=Int.mul_nonneg (by omega) (by omega)
    have s:0≤(256-t.min)*a:=Int.mul_nonneg (by omega) (by omega)
    rw [Int.sub_mul] at s
    rw [Ad l,Ae rfl,o,Ab,g,Ab,Ae (by unfold BV;omega),Ae (by unfold BV;omega)]
    exact ⟨_,rfl,Zc7 (by omega)⟩
   ·rw [Ac l,Af (by decide)]
    exact ⟨_,rfl,Zc7 (by omega)⟩
  rw [Ac k8,Af (by decide)]
  by_cases k10:t.kind=10
  ·have v:=C k10
   have d:=List.getElem_mem v
   have:=t.field_size _ d
   obtain ⟨a,g,x,w⟩:=SZ n t.fields[0].2.2.2.1 (by omega) (Ty.small_field ht d) (BK gt d)
   rw [Ad k10,Ae rfl,show Cb t.fields 0=some t.fields[0] from Ax (k:=0) v,Ab,g,Ab,Ae (by unfold BV;omega)]
   exact ⟨_,rfl,Zc7 (by omega)⟩
  rw [Ac k10,Af (by decide)]
  by_cases k9:t.kind=9
  ·rw [Ad k9,Ae rfl]
   have j:∀ (k m i:Nat) (a:Int),i+k=t.fields.length→k<m→1≤a→a≤2000000*(i+1)→∃ a',BU (DV n) n t m a i=some a'∧1≤a'∧a'≤4097:=by
    intro k
    induction k with
    | zero =>
     intro m i a z l u _
     obtain ⟨m,rfl⟩:∃ q,m=q+1:=⟨m-1,by omega⟩
     rw [BU,As,Ac (show ¬ i<t.fields.length by omega)]
     exact ⟨_,rfl,Zc7 u⟩
    | succ k ih =>
     intro m i a z l u h3
     obtain ⟨m,rfl⟩:∃ q,m=q+1:=⟨m-1,by omega⟩
     have f:i<t.fields.length:=by omega
     have b:=List.getElem_mem f
     have a1:=t.field_size _ b
     have p:∀ c:Int,1≤c→c≤2000000*((i:Int)+1+1)→∃ a',Ec (DV n) n (BU (DV n) n t m) i c=some a'∧1≤a'∧a'≤4097:=fun c y s=>by
      rw [Ec,Ae (Aw (by omega))]
      exact ih m (i+1) c (by omega) (by omega) y (by push_cast;exact s)
     rw [BU,As,Ad f,Ae rfl,Ax f,Ab]
     by_cases n1:t.fields[i].2.2.1=1
     ·obtain ⟨c,g,x,w⟩:=SZ n t.fields[i].2.2.2.1 (by omega) (Ty.small_field ht b) (BK gt b)
      rw [Ad n1,Ae rfl,g,Ab,Ae (by unfold BV;omega)]
      exact p _ (by omega) (by omega)
     rw [Ac n1,Af (by decide)]
     by_cases n3:t.fields[i].2.2.1=3
     ·have hd:=(G _ b).2.2.1 n3
      have r:Cb t.fields[i].2.2.2.2 0=some t.fields[i].2.2.2.2[0]:=Ax (k:=0) (by omega)
      obtain ⟨_,o2,K,E⟩:=(t.ok_eq.1 ht.2.2).2.2.2 _ b
      obtain ⟨v1,V,O⟩:=E _ (List.getElem_mem (show 0<t.fields[i].2.2.2.2.length by omega))
      have Z:=PO _ t.fields[i].2.2.2.2[0] 1 (Nat.le_refl _)
      rw [Ad n3,Ae rfl,r,Ab,YU _ (by omega),Ab,Ae (by unfold BV;omega)]
      exact p _ (by omega) (by omega)
     ·rw [Ac n3,Af (by decide)]
      exact p a u (by omega)
   exact j t.fields.length n 0 1 (by omega) (by omega) (by decide) (by decide)
  ·rw [Ac k9,Af (by decide)]
   exact ⟨_,rfl,Zc7 (by omega)⟩
theorem WG:∀ (n:Nat) (t:Ty),t.size+11≤n→t.small→t.Good→∃ a,Df n t=some a
 | 0,t,h,_,_=>by omega
 | n+1,t,h,ht,gt=>by
  have r:=t.lens
  have l:=ht.1
  obtain ⟨a,p,_,_⟩:=SZ n t (by omega) ht gt
  have e:∀ (k m i:Nat) (a:Int),i+k=t.fields.length→k<m→∃ a',C7 (Df n) n t m a i=some a':=by
   intro k
   induction k with
   | zero =>
    intro m i a f g
    obtain ⟨m,rfl⟩:∃ q,m=q+1:=⟨m-1,by omega⟩
    rw [C7,As,Ac (show ¬ i<t.fields.length by omega)]
    exact ⟨_,rfl⟩
   | succ k ih =>
    intro m i a f g
    obtain ⟨m,rfl⟩:∃ q,m=q+1:=⟨m-1,by omega⟩
    have d:i<t.fields.length:=by omega
    have b:=List.getElem_mem d
    have a1:=t.field_size _ b
    obtain ⟨c,j⟩:=WG n t.fields[i].2.2.2.1 (by omega) (Ty.small_field ht b) (BK gt b)
    rw [C7,As,Ad d,Ae rfl,Ax d,Ab,j,Ab,Ae (Aw (by omega))]
    exact ih m (i+1) _ (by omega) (by omega)
  have o:∀ (k m i:Nat) (a:Int),i+k=t.elem.length→k<m→∃ a',Du (Df n) n t m a i=some a':=by
   intro k
   induction k with
   | zero =>
    intro m i a f g
    obtain ⟨m,rfl⟩:∃ q,m=q+1:=⟨m-1,by omega⟩
    rw [Du,As,Ac (show ¬ i<t.elem.length by omega)]
    exact e t.fields.length n 0 a (by omega) (by omega)
   | succ k ih =>
    intro m i a f g
    obtain ⟨m,rfl⟩:∃ q,m=q+1:=⟨m-1,by omega⟩
    have d:i<t.elem.length:=by omega
    have b:=List.getElem_mem d
    have a1:=t.elem_size _ b
    obtain ⟨c,j⟩:=WG n t.elem[i] (by omega) (Ty.small_elem ht b) (ET gt b)
    rw [Du,As,Ad d,Ae rfl,Ax d,Ab,j,Ab,Ae (Aw (by omega))]
    exact ih m (i+1) _ (by omega) (by omega)
  rw [Df,G7,p,Ab]
  exact o t.elem.length n 0 a (by omega) (by omega)
theorem RP (n:Nat) (t:Ty) (hn:3000000≤n) (ht:t.small):∃ c,DR n t=some c∧(c=0→t.Fine 8):=by
 have d:=ht.1
 obtain ⟨e,l,f,b⟩:=MW n 8 t 1 4096 (by omega) ht (by decide) (by decide) (by decide) (by decide)
 rw [DR,f,Ab]
 by_cases h:e=0
 ·obtain ⟨_,_,g⟩:=b h
  obtain ⟨a,i⟩:=WG n t (by omega) ht g.good
  rw [Ad h,Af (by decide),i,Ab]
  by_cases c:4096<a
  ·rw [Ad c]
   exact ⟨9,rfl,fun q=>absurd q (by decide)⟩
  ·rw [Ac c]
   exact ⟨0,rfl,fun _=>g⟩
 ·rw [Ac h]
  exact ⟨e,rfl,fun q=>absurd q h⟩
end Go.Proofs.YtgpmlelfkjfbiaaGreatDoor
