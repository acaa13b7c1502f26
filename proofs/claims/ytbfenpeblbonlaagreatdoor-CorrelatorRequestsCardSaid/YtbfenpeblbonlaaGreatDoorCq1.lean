/-
  Part 12 of the proof: rules and walks that the claim's last text uses.
-/
import Derived.Carry
import Derived.ChangeOld
import Derived.ChangeSlices
import Derived.Deep.DeepHandedRow
import Derived.Deep.DeepWitnessRowRef
import Derived.Lib.LaidIn
import Derived.Lib.LaidU8T
import Derived.PinnedBridge
import Derived.ProofKit
import Derived.SevenTiedAt
import Derived.SizedLaws
import Derived.Test.YtbfenpeblbonlaaGreatDoorCards
import Derived.Test.YtbfenpeblbonlaaGreatDoorTie
import Derived.Test.YtbfenpeblbonlaaGreatDoorCb1
import Derived.Test.YtbfenpeblbonlaaGreatDoorCb2
import Derived.Test.YtbfenpeblbonlaaGreatDoorCb3
import Derived.Test.YtbfenpeblbonlaaGreatDoorCb4
import Derived.Test.YtbfenpeblbonlaaGreatDoorCb5
import Derived.Test.YtbfenpeblbonlaaGreatDoorCb6
import Derived.Test.YtbfenpeblbonlaaGreatDoorCb7
import Derived.Test.YtbfenpeblbonlaaGreatDoorCb8
import Derived.Test.YtbfenpeblbonlaaGreatDoorCb9
import Derived.Test.YtbfenpeblbonlaaGreatDoorCb10
import Derived.Test.YtbfenpeblbonlaaGreatDoorCb11
set_option linter.unusedSimpArgs false
set_option linter.unusedVariables false
set_option maxRecDepth 100000
set_option maxHeartbeats 4000000
namespace Go.Ev
open Go Go.RowKit
theorem Zeu {W:World} {v u:Value} {x y:AV} (h:R W Mem.start W v x) (k:R W Mem.start W u y):RowR W Mem.start W #[v,u] [x,y]:=⟨rfl,fun i b a=>by
 have:i=0\/i=1:=by simp at a;omega
 rcases this with rfl | rfl
 ·exact h
 ·exact k⟩
end Go.Ev
namespace Go.Proofs.YtbfenpeblbonlaaGreatDoor
open Go Go.Shelf Go.ChangeShapes Go.WideShapes Go.ChangeAt Go.RowKit Go.Lib Go.Ev
open Go.ChangeMaps (open_string shut_string)
set_option maxRecDepth 100000
end Go.Proofs.YtbfenpeblbonlaaGreatDoor
namespace Go.Proofs.YtbfenpeblbonlaaGreatDoor
open Go Go.RowKit Go.Ev
theorem OX {α:Type} (l m:List α) (i:Nat) (h1:i<l.length) (h2:i<m.length):l.drop i=m.drop i<->l[i]=m[i]/\l.drop (i+1)=m.drop (i+1):=by
 rw [List.drop_eq_getElem_cons h1,List.drop_eq_getElem_cons h2,List.cons.injEq]
theorem ZM {a b:Nat}:decide ((a:Int)<=(b:Int))=decide (a<=b):=decide_eq_decide.2 ⟨fun h=>by omega,fun h=>by omega⟩
theorem ZhL (n:Nat) (l:List Int) (hl:l.length<=1000000000):∀ (k m i:Nat),i+k=l.length->k<m->∃ c,Ec n l m i=some c/\(c=0<->∀ x∈l.drop i,x=0)
 | k,0,i,_,h=>absurd h (Nat.not_lt_zero _)
 | 0,m+1,i,hi,_=>by
  rw [Ec,A4,Ac]
  simp only [Bool.false_eq_true,if_false]
  exact ⟨0,rfl,by rw [List.drop_eq_nil_of_le (by omega)];simp⟩
 | k+1,m+1,i,hi,hm=>by
  have a:i<l.length:=by omega
  rw [Ec,A4,Ag a]
  simp only [if_true,Bj a,Ae]
  rw [List.drop_eq_getElem_cons a]
  by_cases h0:l[i]=0
  ·rw [Ag h0]
   simp only [Bool.not_true,Bool.false_eq_true,if_false]
   rw [Ah (A8 (by omega))]
   obtain ⟨e,d,b⟩:=ZhL n l hl k m (i+1) (by omega) (by omega)
   exact ⟨e,d,b.trans ⟨fun h x hx=>by rcases List.mem_cons.1 hx with rfl | hx;exact h0;exact h x hx,fun h x hx=>h x (List.mem_cons_of_mem _ hx)⟩⟩
  ·rw [Af h0]
   simp only [Bool.not_false,if_true]
   exact ⟨_,rfl,⟨fun h=>absurd h h0,fun h=>absurd (h _ (List.mem_cons_self ..)) h0⟩⟩
theorem ZdQ (n:Nat) (l:List Int) (hl:l.length<n) (h2:l.length<=1000000000):∃ c,EJ n l=some c/\(c=0<->∀ x∈l,x=0):=ZhL n l h2 l.length n 0 (by omega) hl
theorem Sr (a b:Int):(if a<b then (-1:Int) else if a=b then 0 else 1)=0<->a=b:=by
 by_cases h1:a<b
 ·rw [Ah h1];omega
 ·rw [Ai h1]
  by_cases h2:a=b
  ·simp [h2]
  ·simp [h2]
def EY (n:Nat) (b:List Int) (g:List Int):Option Int :=
 if decide ((b.length:Int)<(g.length:Int)) then
  some ((-1))
 else
  some (0)
def BL (n:Nat) (q:List Int) (h:List Int) (a2:Int->Int->Option Int):Nat->Int->Option Int
 | 0,_=>none
 | m+1,b =>
  if decide (b<(q.length:Int)) then
   (Dw q b).bind fun x12 =>
   if decide ((h.length:Int)<=b) then
    some (1)
   else
    (Dw h b).bind fun y =>
    (a2 x12 y).bind fun g =>
    if !(decide (g=0)) then
     some (g)
    else
     if BN (b+1) then
      (BL n q h a2 m) (b+1)
     else none
  else
   EY n q h 
def FC (n:Nat) (b:List Int) (h:List Int) (g:Int->Int->Option Int):Option Int :=
 BL n b h g n 0
theorem Og (w0:World) (n:Nat) (B:Ao) (Rw:Ap) (L:Aq) (a0:List Int) (a1:List Int) (fa2:FuncId) (ca2:List AV) (a2:Int->Int->Option Int) (ha2:∀ (x0:Int) (x1:Int) r,a2 x0 x1=some r->∀ B' rows,B <+: B'->Rw <+: rows->ACalls Tryz.prog w0 fa2 ([Ak x0,Ak x1]++ca2) ⟨B',rows,L⟩ fun v s=>v=Ak r/\s=⟨B',rows,L⟩) (r:Int) (h:FC n a0 a1 a2=some r) :
  ACalls Tryz.prog w0 54 [.list (a0.map Ci) .none,.list (a1.map Ci) .none,.clo fa2 ca2] ⟨B,Rw,L⟩ fun x st=>x=Ak r/\st=⟨B,Rw,L⟩:=by
 rw [FC] at h
 refine hd [.tmp 6] Tryz.func54 Tryz.ntmps54 fun M0 W0 j g i b l f hs=>?_
 simp only [Ax]
 have d:=Cc (l (.clo fa2 ca2) (by simp))
 refine rg [0,1,2] hs ?_
 refine AD (fun e st=>Ck e st B Rw L [(0,true,.list (a0.map Ci) .none),(1,true,.list (a1.map Ci) .none)] [] [] (EY n a0 a1  = some r)) ?_ ?_
 ·intro K4 k
  refine rg [0,1,2,11,12,13] hs ?_
  apply Ar
  refine AA (fun m e st=>∃ (c:Int),Ck e st B Rw L [(0,true,.list (a0.map Ci) .none),(1,true,.list (a1.map Ci) .none),(2,true,.clo fa2 ca2),(11,true,.list (a0.map Ci) .none),(12,true,Ak (a0.length:Int)),(13,true,Ak c)] [] [] (BL n a0 a1 a2 m c=some r)) n ⟨0,([]),Rw,ef hs,ef hs,f,h⟩ ?_
  rintro ml6 e st ⟨c,Xl6,Rl6,rfl,rfl,f,h⟩ Ul6 Vl6
  cases ml6 with
  | zero=>cases h
  | succ ml6 =>
  rw [BL] at h
  refine AO j g i rfl b f (H8 d f) (H8 d f) ?_
  exact go (tg (a:=([0,1,2,11,12,13,14],([0,1,2,11,12,13],[0,1,2,7,8,11,12,13],[0,1,2,7,8,11,12,13,21],([6],()),[0,1,2,7,8,11,12,13],[0,1,2,8,9,11,12,13],[0,1,2,10,11,12,13],[0,1,2,10,11,12,13,31],([6],()),[0,1,2,11,12,13],[0,1,2,11,12,13],()),[0,1],()))) h hs j g i b f (q1 ha2) (q2 k (fun e s=>Vl6 ml6 e s (Nat.lt_succ_self _)))
 ·clear h;rintro e st ⟨Xk3,Rk3,rfl,rfl,f,h⟩
  rw [EY] at h
  refine AO j g i rfl b f (H8 d f) (H8 d f) ?_
  exact go (tg (a:=([38],([6],()),[],[6],()))) h hs j g i b f trivial trivial
def C7 (b:Int) (g:Int):Int :=
 if b<g then -1 else if b=g then 0 else 1
theorem Qb (w0:World) (B:Ao) (Rw:Ap) (L:Aq) (a0:Int) (a1:Int) (r:Int) (h:C7 a0 a1=r) :
  ACalls Tryz.prog w0 55 [Ak a0,Ak a1] ⟨B,Rw,L⟩ fun x st=>x=Ak r/\st=⟨B,Rw,L⟩:=by
 rw [C7] at h
 refine hd [.tmp 4] Tryz.func55 Tryz.ntmps55 fun M0 W0 e c d b g f hs=>?_
 simp only [Ax]
 exact go (tg (a:=([0,1],[4],()))) h hs e c d b f (q1 (I7 w0)) trivial
theorem PC (w0:World) (B:Ao) (Rw:Ap) (L:Aq) (a0:Int) (a1:Int) :
  ACalls Tryz.prog w0 55 [Ak a0,Ak a1] ⟨B,Rw,L⟩ fun x st=>x=Ak (C7 a0 a1)/\st=⟨B,Rw,L⟩:=Qb w0 B Rw L a0 a1 _ rfl
def H6 (n:Nat) (g:Int × List Int) (b:Int × List Int):Option Int :=
 (FC n g.2 b.2 (fun (h:Int) (x1:Int)=>some (C7 h x1))).bind fun q =>
 (EJ n ([if g.1<b.1 then -1 else if g.1=b.1 then 0 else 1,q])).bind fun y =>
 some (y)
theorem Rr (w0:World) (n:Nat) (B:Ao) (Rw:Ap) (L:Aq) (a0:Int × List Int) (a1:Int × List Int) (r:Int) (h:H6 n a0 a1=some r) :
  ACalls Tryz.prog w0 31 [.agg (Ak a0.1::([.list (a0.2.map Ci) .none])),.agg (Ak a1.1::([.list (a1.2.map Ci) .none]))] ⟨B,Rw,L⟩ fun x st=>x=Ak r/\st=⟨B,Rw,L⟩:=by
 rw [H6] at h
 refine hd [.tmp 4] Tryz.func31 Tryz.ntmps31 fun M0 W0 f d e b p i hs=>?_
 simp only [Ax]
 refine rg [2,3] hs ?_
 obtain ⟨l,hy3,h⟩:=bind_some h
 obtain ⟨m,k,h⟩:=bind_some h
 apply Am;intro K2 c
 refine dk 13 4 1 [4] hs G6 ?_
 refine Av _ (I7 w0 _ _ _ a0.1 a1.1) (hv hs) ?_
 refine nc hs ?_
 refine Av _ (Og w0 n _ _ _ a0.2 a1.2 55 [] (fun (x0:Int) (x1:Int)=>some (C7 x0 x1)) (fun x0 x1 r hx o rows' j g=>by cases hx;exact PC w0 _ _ _ x0 x1) _ hy3) (hv hs) ?_
 exact go (tg (a:=((),()))) h hs f d e b i (q1 (Md w0 n)) (q1 c)
def Ed (n:Nat) (b:Int × List Int) (h:Int × List Int):Option Bool :=
 (H6 n b h).bind fun g =>
 some (decide (g=0))
theorem KH (w0:World) (n:Nat) (B:Ao) (Rw:Ap) (L:Aq) (a0:Int × List Int) (a1:Int × List Int) (r:Bool) (h:Ed n a0 a1=some r) :
  ACalls Tryz.prog w0 14 [.agg (Ak a0.1::([.list (a0.2.map Ci) .none])),.agg (Ak a1.1::([.list (a1.2.map Ci) .none]))] ⟨B,Rw,L⟩ fun x st=>x = .val (.bool r)/\st=⟨B,Rw,L⟩:=by
 rw [Ed] at h
 refine hd [.tmp 4] Tryz.func14 Tryz.ntmps14 fun M0 W0 e c d b g f hs=>?_
 simp only [Ax]
 exact go (tg (a:=([2,3],[4],()))) h hs e c d b f (q1 (Rr w0 n)) trivial
theorem Zcy (n:Nat) (a b:List Int) (f:Int->Int->Option Int) (hl:a.length<=1000000000)
  (hr:∀ p q,∃ c,f p q=some c/\(c=0<->p=q)):∀ (k m i:Nat),i+k=a.length->k<m->∃ c,BL n a b f m i=some c/\(c=0<->a.drop i=b.drop i)
 | k,0,i,_,h=>absurd h (Nat.not_lt_zero _)
 | 0,m+1,i,hi,_=>by
  rw [BL,A4,Ac]
  simp only [Bool.false_eq_true,if_false]
  rw [EY,A4,List.drop_eq_nil_of_le (show a.length<=i by omega)]
  by_cases h:a.length<b.length
  ·rw [Ag h]
   simp only [if_true]
   exact ⟨-1,rfl,⟨fun h=>absurd h (by decide),fun e=>by have:=List.drop_eq_nil_iff.1 e.symm;omega⟩⟩
  ·rw [Af h]
   simp only [Bool.false_eq_true,if_false]
   exact ⟨0,rfl,⟨fun _=>(List.drop_eq_nil_of_le (by omega)).symm,fun _=>rfl⟩⟩
 | k+1,m+1,i,hi,hm=>by
  have g:i<a.length:=by omega
  rw [BL,A4,Ag g]
  simp only [if_true,Bj g,Ae,ZM]
  by_cases d:i<b.length
  ·rw [Af (show ¬ b.length<=i by omega)]
   simp only [Bool.false_eq_true,if_false,Bj d,Ae]
   obtain ⟨c,e,j⟩:=hr a[i] b[i]
   rw [e,OX _ _ i g d]
   simp only [Ae]
   by_cases h0:c=0
   ·rw [Ag h0]
    simp only [Bool.not_true,Bool.false_eq_true,if_false]
    rw [Ah (A8 (by omega))]
    obtain ⟨o,l,d⟩:=Zcy n a b f hl hr k m (i+1) (by omega) (by omega)
    exact ⟨o,l,d.trans ⟨fun h=>⟨j.1 h0,h⟩,fun h=>h.2⟩⟩
   ·rw [Af h0]
    simp only [Bool.not_false,if_true]
    exact ⟨c,rfl,⟨fun h=>absurd h h0,fun h=>absurd (j.2 h.1) h0⟩⟩
  ·rw [Ag (show b.length<=i by omega)]
   simp only [if_true]
   refine ⟨1,rfl,⟨fun h=>absurd h (by decide),fun e=>?_⟩⟩
   rw [List.drop_eq_nil_of_le (show b.length<=i by omega)] at e
   have:=List.drop_eq_nil_iff.1 e
   omega
theorem Xg (n:Nat) (hn:10000<=n) (a b:Int × List Int) (ha:a.2.length<=1000):Ed n a b=some (decide (a=b)):=by
 obtain ⟨c,e,h⟩:=Zcy n a.2 b.2 (fun (x0:Int) (x1:Int)=>some (C7 x0 x1)) (by omega) (fun p q=>⟨_,rfl,by rw [C7];exact Sr p q⟩) a.2.length n 0 (by omega) (by omega)
 have e:BL n a.2 b.2 (fun (x0:Int) (x1:Int)=>some (C7 x0 x1)) n 0=some c:=e
 rw [List.drop_zero,List.drop_zero] at h
 obtain ⟨d,f,g⟩:=ZdQ n [if a.1<b.1 then -1 else if a.1=b.1 then 0 else 1,c] (by simp only [List.length_cons,List.length_nil];omega) (by simp only [List.length_cons,List.length_nil];omega)
 rw [Ed,H6,FC,e,Ae,f,Ae,Ae]
 congr 1
 rw [decide_eq_decide,g]
 simp only [List.mem_cons,List.not_mem_nil,or_false,forall_eq_or_imp,forall_eq,Sr,h]
 exact ⟨fun q=>Prod.ext q.1 q.2,fun q=>by rw [q];exact ⟨rfl,rfl⟩⟩
theorem ZnD {α:Type} {l:List α} {i:Nat} {x:α} {r:List α} (h:l.drop i=x::r):∃ hlt:i<l.length,l[i]=x/\l.drop (i+1)=r:=by
 have hlt:i<l.length:=by
  rcases Nat.lt_or_ge i l.length with q | q
  ·exact q
  ·rw [List.drop_eq_nil_of_le q] at h;cases h
 rw [List.drop_eq_getElem_cons hlt] at h
 exact ⟨hlt,(List.cons.inj h).1,(List.cons.inj h).2⟩
theorem ZnP {α:Type} {l:List α} {i:Nat} (h:l.drop i=[]) (hi:i<=l.length):i=l.length:=by
 have:=List.drop_eq_nil_iff.1 h;omega
theorem ZnC:∀ (l:List (Int × Int × Int × Int)) (i:Nat) (now:Int) (q:Nat) (x:CI),(RO i now l)[q]? = some x->∃ y t,l[q]? = some y/\x=UA (i+q) t y
 | [],i,now,q,x,h=>by simp [RO] at h
 | e::l,i,now,q,x,h=>by
  rw [RO] at h
  split at h
  ·cases q with
   | zero=>exact ⟨e,_,rfl,(by simpa using h.symm)⟩
   | succ q =>
    rw [List.getElem?_cons_succ] at h
    obtain ⟨y,t,a,b⟩:=ZnC l (i+1) _ q x h
    exact ⟨y,t,by rw [List.getElem?_cons_succ];exact a,by rw [b,show i+1+q=i+(q+1) by omega]⟩
  ·simp at h
theorem ZnR {i:Nat} {t u:Int} {y:Int × Int × Int × Int} {m:CM} (h:CI.msg m u=UA i t y):m.k=(y.2.1.tmod 6).toNat:=by
 unfold UA at h
 split at h
 ·cases h
 ·split at h
  ·cases h
  ·cases h;rfl
def Zde (n:Nat) (b:Int->Int->Option Bool) (g:Int) (h:Int):Option Bool :=
 if BN (g+1) then
  b h (g+1)
 else none
def ZeX (n:Nat)  : Option Bool :=
 some (true)
def ZdH (n:Nat) (b:Int->Int->Option Bool) (h:Int) (q:Otc) (g:Int):Option Bool :=
 if !(decide (q.state.number=g)) then
  AM
 else
  Zde n b h g
def ZaJ (n:Nat) (a1:List (Int × Int × Int × Int)) (y7:(List Inp)) (y:(List Otc)):Nat->Int->Int->Option Bool
 | 0,_,_=>none
 | m+1,g,b =>
  if decide (b<(y7.length:Int)) then
   (Dw y7 b).bind fun x25 =>
   if !(decide (x25.kind=1)) then
    (Dw y b).bind fun x29 =>
    if decide (0<(x29.requests.length:Int)) then
     AM
    else
     Zde n (ZaJ n a1 y7 y m) b g
   else
    (Dw y b).bind fun h =>
    if BN ((h.requests.length:Int)+(h.letters.length:Int)) then
     if !(decide (((h.requests.length:Int)+(h.letters.length:Int))=1)) then
      AM
     else
      if decide ((h.requests.length:Int)=1) then
       if BN (g+1) then
        (Dw h.requests 0).bind fun q =>
        if ((!(decide (q.call=(g+1))))||q.undo)||(!(MY q.service ((⟨#[115,116,111,99,107]⟩:ByteArray)))) then
         AM
        else
         (BM x25.stamp 0).bind fun y47 =>
         (Ed n q.stamp y47).bind fun y48 =>
         if (!y48)||(!(decide ((q.body.fields.length:Int)=1))) then
          AM
         else
          (Dw q.body.fields 0).bind fun x50 =>
          (Dw a1 b).bind fun x51 =>
          if BN (x51.2.1.tmod 6) then
           if !(decide (x50.2.int=(x51.2.1.tmod 6))) then
            AM
           else
            ZdH n (ZaJ n a1 y7 y m) b h (g+1)
          else none
       else none
      else
       ZdH n (ZaJ n a1 y7 y m) b h g
    else none
  else
   ZeX n 
def ZeU (n:Nat) (q:Int × Int × Int × Int) (h:List (Int × Int × Int × Int)):Option Bool :=
 (Lq n ).bind fun y =>
 if !y then
  AM
 else
  (IP n h).bind fun g =>
  (DK q).bind fun y9 =>
  (MQ n y9 g).bind fun b =>
  ZaJ n h g b n 0 0
theorem Zfi (w0:World) (hE:QU w0) (hM:Qx w0) (hP:Pow10 w0) (hT:Lib.Utf8Tabs 1 2 w0) (n:Nat) (B:Ao) (Rw:Ap) (L:Aq) (a0:Int × Int × Int × Int) (a1:List (Int × Int × Int × Int)) (r:Bool) (h:ZeU n a0 a1=some r) :
  ACalls Tryz.prog w0 3 [.agg (.val (.int .u8 a0.1)::(.val (.int .u8 a0.2.1)::(.val (.int .u8 a0.2.2.1)::([.val (.int .u8 a0.2.2.2)])))),.list (a1.map QH) .none] ⟨B,Rw,L⟩ fun x st=>x = .val (.bool r)/\st=⟨B,Rw,L⟩:=by
 rw [ZeU] at h
 refine hd [.tmp 4] Tryz.func3 Tryz.ntmps3 fun M0 W0 D l j c hu o hs=>?_
 simp only [Ax]
 refine rg [1,2] hs ?_
 apply Am;intro K2 G
 obtain ⟨y4,U,h⟩:=bind_some h
 refine rc 2 [1,2,11] hs ?_;intro K3 O
 refine Av _ (Xt w0 hE hM hP hT n _ _ _  _ U) (hv hs) ?_
 refine ne hs O ?_
 clear O
 refine B6 h hs ?_ ?_<;>intro hs h
 ·exact nS h
 refine sk [1,2] hs G ?_
 clear G
 obtain ⟨z,Z,h⟩:=bind_some h
 refine rc 2 [1,2,5] hs ?_;intro K6 N
 refine Av _ (PO w0 n _ _ _ a1 _ Z) (hv hs) ?_
 refine ne hs N ?_
 clear N
 obtain ⟨y9,ab,h⟩:=bind_some h
 obtain ⟨k,E,h⟩:=bind_some h
 refine rc 3 [1,5,6] hs ?_;intro K8 Q
 refine Av _ (Ie w0 _ _ _ a0 _ ab) (hv hs) ?_
 refine nc hs ?_
 refine Av _ (U9 w0 hE hM hP hT n _ _ _ y9 z _ E) (hv hs) ?_
 refine ne hs Q ?_
 clear Q
 refine rg [1,5,6,7] hs ?_
 refine AD (fun e st=>Ck e st B Rw L [] [.val (.int .u8 a0.1)::(.val (.int .u8 a0.2.1)::(.val (.int .u8 a0.2.2.1)::([.val (.int .u8 a0.2.2.2)])))] [] (ZeX n  = some r)) ?_ ?_
 ·intro K14 K
  refine rg [1,5,6,7,8] hs ?_
  apply Ar
  refine AA (fun m e st=>∃ (g:Int) (b:Int),Ck e st B Rw L [(1,true,.list (a1.map QH) .none),(5,true,.list (z.map NA) .none),(6,true,.list (k.map NJ) .none),(7,true,Ak g),(8,true,Ak b)] [.val (.int .u8 a0.1)::(.val (.int .u8 a0.2.1)::(.val (.int .u8 a0.2.2.1)::([.val (.int .u8 a0.2.2.2)])))] [] (ZaJ n a1 z k m g b=some r)) n ⟨0,0,([]),Rw,ef hs,ef hs,o,h⟩ ?_
  rintro ml16 e st ⟨g,b,Xl16,Rl16,rfl,rfl,o,h⟩ Ul16 Vl16
  cases ml16 with
  | zero=>cases h
  | succ ml16 =>
  rw [ZaJ] at h
  refine Go.Ev.td D l j c o ?_
  apply Am;intro K17 q
  refine rg [1,5,6,7,8,21] hs ?_
  refine B6 h hs ?_ ?_<;>intro hs h
  rotate_left
  ·refine sx [] hs K ?_
   exact ⟨([]),Rl16,ef hs,ef hs,o,h⟩
  refine sk [1,5,6,7,8] hs q ?_
  clear q
  refine AD (fun e st=>∃ (i:Int),Ck e st B Rw L [(1,true,.list (a1.map QH) .none),(5,true,.list (z.map NA) .none),(6,true,.list (k.map NJ) .none),(7,true,Ak i),(8,true,Ak b)] [.val (.int .u8 a0.1)::(.val (.int .u8 a0.2.1)::(.val (.int .u8 a0.2.2.1)::([.val (.int .u8 a0.2.2.2)])))] [] (Zde n (ZaJ n a1 z k ml16) b i=some r)) ?_ ?_
  ·intro K22 u
   apply Ar
   apply Am;intro K23 t
   obtain ⟨ag,H,h⟩:=bind_some h
   obtain ⟨ad,Y,C⟩:=Bo H
   have y:=Bz (f:=NA) C
   have hs:=Ad y hs
   refine rg [1,5,6,7,8,29] hs ?_
   refine B6 h hs ?_ ?_<;>intro hs h
   ·exact go (tg (a:=([1,5,6,7,8,36],((),()),[1,5,6,7,8],[1,5,6,7,8],()))) h hs D l j c o trivial (q1 u)
   refine sk [1,5,6,7,8] hs t ?_
   clear t
   apply Am;intro K31 p
   obtain ⟨ae,J,h⟩:=bind_some h
   obtain ⟨V,aa,w⟩:=Bo J
   have v:=Bz (f:=NJ) w
   obtain ⟨af,h⟩:=Au h
   have hs:=Ad v hs
   refine dg 14 1 1 [1,5,6,7,8,50] hs G6 ?_
   refine B6 h hs ?_ ?_<;>intro hs h
   ·exact nS h
   refine sk [1,5,6,7,8] hs p ?_
   clear p
   refine AD (fun e st=>∃ (d:Int),Ck e st B Rw L [(1,true,.list (a1.map QH) .none),(5,true,.list (z.map NA) .none),(6,true,.list (k.map NJ) .none),(7,true,Ak d),(8,true,Ak b)] [.val (.int .u8 a0.1)::(.val (.int .u8 a0.2.1)::(.val (.int .u8 a0.2.2.1)::([.val (.int .u8 a0.2.2.2)])))] [] (ZdH n (ZaJ n a1 z k ml16) b ae d=some r)) ?_ ?_
   ·intro K38 F
    exact go (tg (a:=([1,5,6,7,8,57],([1,5,6,7,8],[1,5,6,7,8,9],((),()),((),()),[49,1,5,6,7,8,115],((),()),[1,5,6,7,8],()),[1,5,6,7,8],()))) h (al hs) D l j c o (q2 (HL w0) (KH w0 n)) (q1 F)
   ·clear h;rintro e st ⟨d,Xk37,Rk37,rfl,rfl,o,h⟩
    rw [ZdH] at h
    exact go (tg (a:=([1,5,6,7,8,123],((),()),[1,5,6,7,8],()))) h hs D l j c o trivial (q1 u)
  ·clear h;rintro e st ⟨i,Xk21,Rk21,rfl,rfl,o,h⟩
   rw [Zde] at h
   exact go (tg (a:=([1,5,6,7,8],()))) h hs D l j c o trivial (q1 (fun e s=>Vl16 ml16 e s (Nat.lt_succ_self _)))
 ·clear h;rintro e st ⟨Xk13,Rk13,rfl,rfl,o,h⟩
  rw [ZeX] at h
  refine Go.Ev.td D l j c o ?_
  refine rg [4] hs ?_
  exact rt h hs c o
theorem ZnX {p:CP} {s:CS} (i:Nat) (t:Int) (c:Nat) (d u:Bool) (w:Nat):(Du p s (.rep i t c d u w)).req=none/\(Du p s (.rep i t c d u w)).st.num=s.num:=by
 simp only [Du]
 split
 ·exact ⟨rfl,rfl⟩
 ·split
  ·exact ⟨rfl,rfl⟩
  ·split<;>exact ⟨rfl,rfl⟩
theorem ZnF (n:Nat) (hn:100000<=n) (p:CP) (hp:p.ok) (evs:List (Int × Int × Int × Int)) (hev:∀ e∈evs,ev4 e) (js:List CI) (hjs:js.length<=40) (hg:∀ (q:Nat) (x:CI),js[q]? = some x->∃ y t,evs[q]? = some y/\x=UA q t y) (outs:List Otc):∀ (l:List CI) (m i:Nat) (s:CS) (now:Int),js.drop i=l->i<=js.length->outs.drop i=(ZZ p s l).map Hi->s.ok p now i->VW now i l->l.length<m ->
  ZaJ n evs (js.map B9) outs m (s.num:Int) (i:Int)=some true
 | l,0,_,_,_,_,_,_,_,_,h=>absurd h (Nat.not_lt_zero _)
 | [],m+1,i,s,now,hd,hi,ho,hs,hch,hm=>by
  have:=ZnP hd hi
  rw [ZaJ,List.length_map,A4,Ac,Ai (by decide)]
  rfl
 | j::l,m+1,i,s,now,hd,hi,ho,hs,hch,hm=>by
  obtain ⟨g,Q,N⟩:=ZnD hd
  obtain ⟨z,r,F⟩:=ZnD (show outs.drop i=Hi (Du p s j)::(ZZ p (Du p s j).st l).map Hi from ho)
  obtain ⟨E,c2,Z,c4,c5⟩:=hch
  have H:=Yn hp hs E Z
  have ih:=ZnF n hn p hp evs hev js hjs hg outs l m (i+1) (Du p s j).st j.now N g F H c5 (by simpa using hm)
  have U:=hs.num
  rw [ZaJ,List.length_map,A4,Ag g,Ah rfl,Bj (by rw [List.length_map];exact g),Ae,List.getElem_map,Q]
  cases j with
  | msg q t =>
   have f:(!(decide ((B9 (.msg q t)).kind=1)))=false:=rfl
   rw [f,Ai (by decide),Bj z,Ae,r]
   by_cases c:p.lim<=s.es.length\/p.req<q.k
   ·obtain ⟨w,o⟩:∃ w,Du p s (.msg q t)=⟨s,none,none,[(q,w)]⟩:=by
     by_cases E:p.lim<=s.es.length
     ·exact ⟨.full,by simp only [Du,Ah E]⟩
     ·exact ⟨.type,by simp only [Du,Ai E];rw [Ab]⟩
    rw [o] at ih ⊢
    have v:((Hi ⟨s,none,none,[(q,w)]⟩).requests.length:Int)=0:=rfl
    have G:((Hi ⟨s,none,none,[(q,w)]⟩).letters.length:Int)=1:=rfl
    have O:(Hi ⟨s,none,none,[(q,w)]⟩).state.number=(s.num:Int):=rfl
    rw [v,G,Ah (by unfold BN;omega),Ag (show (0:Int)+1=1 from rfl),Ai (by decide),Af (show ¬ (0:Int)=1 by decide),Ai (by decide),ZdH,O,Ag rfl,Ai (by decide),Zde,Ah (A8 (by omega))]
    exact ih
   ·obtain ⟨T,o⟩:∃ T,Du p s (.msg q t)=⟨⟨s.num+1,s.es++[⟨s.num+1,T,q⟩]⟩,none,some (q,s.num+1),[]⟩:=by
     refine ⟨if 0<p.T then t+p.T else 0,?_⟩
     simp only [Du]
     rw [Aa,Aa]
    rw [o] at ih ⊢
    generalize hes:s.es++[⟨s.num+1,T,q⟩]=es at ih ⊢
    obtain ⟨y,ty,hy,K⟩:=hg i _ (Aj.2 ⟨g,Q⟩)
    obtain ⟨C,D⟩:=Aj.1 hy
    have aa:=ZnR K
    have J:=hev y (D▸List.getElem_mem C)
    have b:=XE J.2.1.1 6 (by decide)
    have v:((Hi ⟨⟨s.num+1,es⟩,none,some (q,s.num+1),[]⟩).requests.length:Int)=1:=rfl
    have G:((Hi ⟨⟨s.num+1,es⟩,none,some (q,s.num+1),[]⟩).letters.length:Int)=0:=rfl
    have O:(Hi ⟨⟨s.num+1,es⟩,none,some (q,s.num+1),[]⟩).state.number=(s.num:Int)+1:=rfl
    have r3:Dw (Hi ⟨⟨s.num+1,es⟩,none,some (q,s.num+1),[]⟩).requests 0=some (Rqs.mk ((q.i:Int)+1,[1,0]) MA ((s.num:Int)+1) false (rV [(Yz,iV q.k)])):=rfl
    have r4:(!(MY MA (⟨#[115,116,111,99,107]⟩:ByteArray)))=false:=by decide +kernel
    have r5:BM (B9 (.msg q t)).stamp 0=some ((q.i:Int)+1,[1,0]):=QO q.i
    have Y:Ed n ((q.i:Int)+1,[1,0]) ((q.i:Int)+1,[1,0])=some true:=by rw [Xg n (by omega) _ _ (by simp),Ag rfl]
    have V:((!true)||(!(decide ((((rV [(Yz,iV q.k)]).fields.length:Int))=1))))=false:=rfl
    have r8:Dw (rV [(Yz,iV q.k)]).fields 0=some (Yz,iV q.k):=rfl
    have r9:decide ((iV (q.k:Int)).int=y.2.1.tmod 6)=true:=Ag (show (q.k:Int)=y.2.1.tmod 6 by omega)
    rw [v,G,Ah (by unfold BN;omega),Ag (show (1:Int)+0=1 from rfl),Ai (by decide),Ag (show (1:Int)=1 from rfl),Ah rfl,Ah (A8 (by omega)),r3,Ae]
    simp only [r4,Ag (rfl:(s.num:Int)+1=(s.num:Int)+1),Bool.not_true,Bool.or_false,Bool.false_eq_true,if_false]
    rw [r5,Ae,Y,Ae,V,Ai (by decide),r8,Ae,Bj C,Ae,D,Ai (by decide),Ah (by unfold BN;omega),r9,Ai (by decide),ZdH,O,Ag rfl,Ai (by decide),Zde,Ah (A8 (by omega))]
    exact ih
  | rep a t c d u w =>
   have f:(!(decide ((B9 (.rep a t c d u w)).kind=1)))=true:=rfl
   obtain ⟨h1,h2⟩:=ZnX (p:=p) (s:=s) a t c d u w
   have v:((Hi (Du p s (.rep a t c d u w))).requests.length:Int)=0:=by simp [Hi,h1]
   rw [h2] at ih
   rw [f,Ah rfl,Bj z,Ae,r,v,Ai (by decide),Zde,Ah (A8 (by omega))]
   exact ih
  | clk a t =>
   have f:(!(decide ((B9 (.clk a t)).kind=1)))=true:=rfl
   have v:((Hi (Du p s (.clk a t))).requests.length:Int)=0:=rfl
   rw [f,Ah rfl,Bj z,Ae,r,v,Ai (by decide),Zde,Ah (A8 (by omega))]
   exact ih
theorem Zny (n:Nat) (hn:100000<=n) (sk:Int × Int × Int × Int) (evs:List (Int × Int × Int × Int)) (hsk:ev4 sk) (hev:∀ e∈evs,ev4 e):ZeU n sk evs=some true:=by
 have b:=Ziw hsk
 have a:=Uz evs 0 0 (Int.le_refl _) (by omega) hev
 have f:=RP _ 0 0 a (by omega)
 rw [ZeU,ZV n (by omega),Ae,Bool.not_true,Ai (by decide),ZbM n (by omega) evs hev,Ae,ZaB hsk,Ae,Zjn n hn _ b _ a,Ae]
 exact ZnF n hn _ b evs hev _ (by omega) (fun q x h=>by
  obtain ⟨y,t,d,c⟩:=ZnC evs 0 0 q x h
  exact ⟨y,t,d,by rw [c,Nat.zero_add]⟩) _ (RO 0 0 evs) n 0 ⟨0,[]⟩ 0 rfl (Nat.zero_le _) rfl (CS.ok0 _) a (by omega)
end Go.Proofs.YtbfenpeblbonlaaGreatDoor
