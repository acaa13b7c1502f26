/-
  Part 12 of the proof: rules and walks that the claim's last text uses.
-/
import Derived.Carry
import Derived.ChangeOld
import Derived.ChangeSlices
import Derived.Deep.DeepHandedRow
import Derived.Deep.DeepWitnessRowRef
import Derived.Lib.LaidIn
import Derived.Lib.LaidU8T
import Derived.PinnedBridge
import Derived.ProofKit
import Derived.SevenTiedAt
import Derived.SizedLaws
import Derived.Test.YtbfenpeblbonlaaGreatDoorCards
import Derived.Test.YtbfenpeblbonlaaGreatDoorTie
import Derived.Test.YtbfenpeblbonlaaGreatDoorCb1
import Derived.Test.YtbfenpeblbonlaaGreatDoorCb2
import Derived.Test.YtbfenpeblbonlaaGreatDoorCb3
import Derived.Test.YtbfenpeblbonlaaGreatDoorCb4
import Derived.Test.YtbfenpeblbonlaaGreatDoorCb5
import Derived.Test.YtbfenpeblbonlaaGreatDoorCb6
import Derived.Test.YtbfenpeblbonlaaGreatDoorCb7
import Derived.Test.YtbfenpeblbonlaaGreatDoorCb8
import Derived.Test.YtbfenpeblbonlaaGreatDoorCb9
import Derived.Test.YtbfenpeblbonlaaGreatDoorCb10
import Derived.Test.YtbfenpeblbonlaaGreatDoorCb11
set_option linter.unusedSimpArgs false
set_option linter.unusedVariables false
set_option maxRecDepth 100000
set_option maxHeartbeats 4000000
namespace Go.Proofs.YtbfenpeblbonlaaGreatDoor
open Go Go.RowKit Go.Ev
structure Chk where
 items:List Msg
 values:Int
end Go.Proofs.YtbfenpeblbonlaaGreatDoor
namespace Go.Ev
open Go Go.RowKit
theorem Zeu {W:World} {v u:Value} {x y:AV} (h:R W Mem.start W v x) (k:R W Mem.start W u y):RowR W Mem.start W #[v,u] [x,y]:=⟨rfl,fun i b a=>by
 have:i=0\/i=1:=by simp at a;omega
 rcases this with rfl | rfl
 ·exact h
 ·exact k⟩
end Go.Ev
namespace Go.Proofs.YtbfenpeblbonlaaGreatDoor
open Go Go.Shelf Go.ChangeShapes Go.WideShapes Go.ChangeAt Go.RowKit Go.Lib Go.Ev
open Go.ChangeMaps (open_string shut_string)
set_option maxRecDepth 100000
end Go.Proofs.YtbfenpeblbonlaaGreatDoor
namespace Go.Proofs.YtbfenpeblbonlaaGreatDoor
open Go Go.RowKit Go.Ev
theorem OX {α:Type} (l m:List α) (i:Nat) (h1:i<l.length) (h2:i<m.length):l.drop i=m.drop i<->l[i]=m[i]/\l.drop (i+1)=m.drop (i+1):=by
 rw [List.drop_eq_getElem_cons h1,List.drop_eq_getElem_cons h2,List.cons.injEq]
theorem ZM {a b:Nat}:decide ((a:Int)<=(b:Int))=decide (a<=b):=decide_eq_decide.2 ⟨fun h=>by omega,fun h=>by omega⟩
theorem ZhL (n:Nat) (l:List Int) (hl:l.length<=1000000000):∀ (k m i:Nat),i+k=l.length->k<m->∃ c,Ec n l m i=some c/\(c=0<->∀ x∈l.drop i,x=0)
 | k,0,i,_,h=>absurd h (Nat.not_lt_zero _)
 | 0,m+1,i,hi,_=>by
  rw [Ec,A4,Ac]
  simp only [Bool.false_eq_true,if_false]
  exact ⟨0,rfl,by rw [List.drop_eq_nil_of_le (by omega)];simp⟩
 | k+1,m+1,i,hi,hm=>by
  have a:i<l.length:=by omega
  rw [Ec,A4,Ag a]
  simp only [if_true,Bj a,Ae]
  rw [List.drop_eq_getElem_cons a]
  by_cases h0:l[i]=0
  ·rw [Ag h0]
   simp only [Bool.not_true,Bool.false_eq_true,if_false]
   rw [Ah (A8 (by omega))]
   obtain ⟨e,d,b⟩:=ZhL n l hl k m (i+1) (by omega) (by omega)
   exact ⟨e,d,b.trans ⟨fun h x hx=>by rcases List.mem_cons.1 hx with rfl | hx;exact h0;exact h x hx,fun h x hx=>h x (List.mem_cons_of_mem _ hx)⟩⟩
  ·rw [Af h0]
   simp only [Bool.not_false,if_true]
   exact ⟨_,rfl,⟨fun h=>absurd h h0,fun h=>absurd (h _ (List.mem_cons_self ..)) h0⟩⟩
theorem ZdQ (n:Nat) (l:List Int) (hl:l.length<n) (h2:l.length<=1000000000):∃ c,EJ n l=some c/\(c=0<->∀ x∈l,x=0):=ZhL n l h2 l.length n 0 (by omega) hl
theorem Sr (a b:Int):(if a<b then (-1:Int) else if a=b then 0 else 1)=0<->a=b:=by
 by_cases h1:a<b
 ·rw [Ah h1];omega
 ·rw [Ai h1]
  by_cases h2:a=b
  ·simp [h2]
  ·simp [h2]
def EY (n:Nat) (b:List Int) (g:List Int):Option Int :=
 if decide ((b.length:Int)<(g.length:Int)) then
  some ((-1))
 else
  some (0)
def BL (n:Nat) (q:List Int) (h:List Int) (a2:Int->Int->Option Int):Nat->Int->Option Int
 | 0,_=>none
 | m+1,b =>
  if decide (b<(q.length:Int)) then
   (Dw q b).bind fun x12 =>
   if decide ((h.length:Int)<=b) then
    some (1)
   else
    (Dw h b).bind fun y =>
    (a2 x12 y).bind fun g =>
    if !(decide (g=0)) then
     some (g)
    else
     if BN (b+1) then
      (BL n q h a2 m) (b+1)
     else none
  else
   EY n q h 
def FC (n:Nat) (b:List Int) (h:List Int) (g:Int->Int->Option Int):Option Int :=
 BL n b h g n 0
theorem Og (w0:World) (n:Nat) (B:Ao) (Rw:Ap) (L:Aq) (a0:List Int) (a1:List Int) (fa2:FuncId) (ca2:List AV) (a2:Int->Int->Option Int) (ha2:∀ (x0:Int) (x1:Int) r,a2 x0 x1=some r->∀ B' rows,B <+: B'->Rw <+: rows->ACalls Tryz.prog w0 fa2 ([Ak x0,Ak x1]++ca2) ⟨B',rows,L⟩ fun v s=>v=Ak r/\s=⟨B',rows,L⟩) (r:Int) (h:FC n a0 a1 a2=some r) :
  ACalls Tryz.prog w0 54 [.list (a0.map Ci) .none,.list (a1.map Ci) .none,.clo fa2 ca2] ⟨B,Rw,L⟩ fun x st=>x=Ak r/\st=⟨B,Rw,L⟩:=by
 rw [FC] at h
 refine hd [.tmp 6] Tryz.func54 Tryz.ntmps54 fun M0 W0 j g i d l f hs=>?_
 simp only [Ax]
 have b:=Cc (l (.clo fa2 ca2) (by simp))
 refine rg [0,1,2] hs ?_
 refine AD (fun e st=>Ck e st B Rw L [(0,true,.list (a0.map Ci) .none),(1,true,.list (a1.map Ci) .none)] [] [] (EY n a0 a1  = some r)) ?_ ?_
 ·intro K4 k
  refine rg [0,1,2,11,12,13] hs ?_
  apply Ar
  refine AA (fun m e st=>∃ (c:Int),Ck e st B Rw L [(0,true,.list (a0.map Ci) .none),(1,true,.list (a1.map Ci) .none),(2,true,.clo fa2 ca2),(11,true,.list (a0.map Ci) .none),(12,true,Ak (a0.length:Int)),(13,true,Ak c)] [] [] (BL n a0 a1 a2 m c=some r)) n ⟨0,([]),Rw,ef hs,ef hs,f,h⟩ ?_
  rintro ml6 e st ⟨c,Xl6,Rl6,rfl,rfl,f,h⟩ Ul6 Vl6
  cases ml6 with
  | zero=>cases h
  | succ ml6 =>
  rw [BL] at h
  refine AO j g i rfl d f (H8 b f) (H8 b f) ?_
  exact go (tg (a:=([0,1,2,11,12,13,14],([0,1,2,11,12,13],[0,1,2,7,8,11,12,13],[0,1,2,7,8,11,12,13,21],([6],()),[0,1,2,7,8,11,12,13],[0,1,2,8,9,11,12,13],[0,1,2,10,11,12,13],[0,1,2,10,11,12,13,31],([6],()),[0,1,2,11,12,13],[0,1,2,11,12,13],()),[0,1],()))) h hs j g i d f (q1 ha2) (q2 k (fun e s=>Vl6 ml6 e s (Nat.lt_succ_self _)))
 ·clear h;rintro e st ⟨Xk3,Rk3,rfl,rfl,f,h⟩
  rw [EY] at h
  refine AO j g i rfl d f (H8 b f) (H8 b f) ?_
  exact go (tg (a:=([38],([6],()),[],[6],()))) h hs j g i d f trivial trivial
def C7 (b:Int) (g:Int):Int :=
 if b<g then -1 else if b=g then 0 else 1
theorem Qb (w0:World) (B:Ao) (Rw:Ap) (L:Aq) (a0:Int) (a1:Int) (r:Int) (h:C7 a0 a1=r) :
  ACalls Tryz.prog w0 55 [Ak a0,Ak a1] ⟨B,Rw,L⟩ fun x st=>x=Ak r/\st=⟨B,Rw,L⟩:=by
 rw [C7] at h
 refine hd [.tmp 4] Tryz.func55 Tryz.ntmps55 fun M0 W0 e c d b g f hs=>?_
 simp only [Ax]
 exact go (tg (a:=([0,1],[4],()))) h hs e c d b f (q1 (I7 w0)) trivial
theorem PC (w0:World) (B:Ao) (Rw:Ap) (L:Aq) (a0:Int) (a1:Int) :
  ACalls Tryz.prog w0 55 [Ak a0,Ak a1] ⟨B,Rw,L⟩ fun x st=>x=Ak (C7 a0 a1)/\st=⟨B,Rw,L⟩:=Qb w0 B Rw L a0 a1 _ rfl
def H6 (n:Nat) (g:Int × List Int) (b:Int × List Int):Option Int :=
 (FC n g.2 b.2 (fun (h:Int) (x1:Int)=>some (C7 h x1))).bind fun q =>
 (EJ n ([if g.1<b.1 then -1 else if g.1=b.1 then 0 else 1,q])).bind fun y =>
 some (y)
theorem Rr (w0:World) (n:Nat) (B:Ao) (Rw:Ap) (L:Aq) (a0:Int × List Int) (a1:Int × List Int) (r:Int) (h:H6 n a0 a1=some r) :
  ACalls Tryz.prog w0 31 [.agg (Ak a0.1::([.list (a0.2.map Ci) .none])),.agg (Ak a1.1::([.list (a1.2.map Ci) .none]))] ⟨B,Rw,L⟩ fun x st=>x=Ak r/\st=⟨B,Rw,L⟩:=by
 rw [H6] at h
 refine hd [.tmp 4] Tryz.func31 Tryz.ntmps31 fun M0 W0 f c d b p j hs=>?_
 simp only [Ax]
 refine rg [2,3] hs ?_
 obtain ⟨m,hy3,h⟩:=bind_some h
 obtain ⟨o,g,h⟩:=bind_some h
 apply Am;intro K2 e
 refine dk 13 4 1 [4] hs G6 ?_
 refine Av _ (I7 w0 _ _ _ a0.1 a1.1) (hv hs) ?_
 refine nc hs ?_
 refine Av _ (Og w0 n _ _ _ a0.2 a1.2 55 [] (fun (x0:Int) (x1:Int)=>some (C7 x0 x1)) (fun x0 x1 r hx l rows' i k=>by cases hx;exact PC w0 _ _ _ x0 x1) _ hy3) (hv hs) ?_
 exact go (tg (a:=((),()))) h hs f c d b j (q1 (Md w0 n)) (q1 e)
def Ed (n:Nat) (b:Int × List Int) (h:Int × List Int):Option Bool :=
 (H6 n b h).bind fun g =>
 some (decide (g=0))
theorem KH (w0:World) (n:Nat) (B:Ao) (Rw:Ap) (L:Aq) (a0:Int × List Int) (a1:Int × List Int) (r:Bool) (h:Ed n a0 a1=some r) :
  ACalls Tryz.prog w0 14 [.agg (Ak a0.1::([.list (a0.2.map Ci) .none])),.agg (Ak a1.1::([.list (a1.2.map Ci) .none]))] ⟨B,Rw,L⟩ fun x st=>x = .val (.bool r)/\st=⟨B,Rw,L⟩:=by
 rw [Ed] at h
 refine hd [.tmp 4] Tryz.func14 Tryz.ntmps14 fun M0 W0 e c d b g f hs=>?_
 simp only [Ax]
 exact go (tg (a:=([2,3],[4],()))) h hs e c d b f (q1 (Rr w0 n)) trivial
theorem Zcy (n:Nat) (a b:List Int) (f:Int->Int->Option Int) (hl:a.length<=1000000000)
  (hr:∀ p q,∃ c,f p q=some c/\(c=0<->p=q)):∀ (k m i:Nat),i+k=a.length->k<m->∃ c,BL n a b f m i=some c/\(c=0<->a.drop i=b.drop i)
 | k,0,i,_,h=>absurd h (Nat.not_lt_zero _)
 | 0,m+1,i,hi,_=>by
  rw [BL,A4,Ac]
  simp only [Bool.false_eq_true,if_false]
  rw [EY,A4,List.drop_eq_nil_of_le (show a.length<=i by omega)]
  by_cases h:a.length<b.length
  ·rw [Ag h]
   simp only [if_true]
   exact ⟨-1,rfl,⟨fun h=>absurd h (by decide),fun e=>by have:=List.drop_eq_nil_iff.1 e.symm;omega⟩⟩
  ·rw [Af h]
   simp only [Bool.false_eq_true,if_false]
   exact ⟨0,rfl,⟨fun _=>(List.drop_eq_nil_of_le (by omega)).symm,fun _=>rfl⟩⟩
 | k+1,m+1,i,hi,hm=>by
  have g:i<a.length:=by omega
  rw [BL,A4,Ag g]
  simp only [if_true,Bj g,Ae,ZM]
  by_cases d:i<b.length
  ·rw [Af (show ¬ b.length<=i by omega)]
   simp only [Bool.false_eq_true,if_false,Bj d,Ae]
   obtain ⟨c,e,j⟩:=hr a[i] b[i]
   rw [e,OX _ _ i g d]
   simp only [Ae]
   by_cases h0:c=0
   ·rw [Ag h0]
    simp only [Bool.not_true,Bool.false_eq_true,if_false]
    rw [Ah (A8 (by omega))]
    obtain ⟨o,l,d⟩:=Zcy n a b f hl hr k m (i+1) (by omega) (by omega)
    exact ⟨o,l,d.trans ⟨fun h=>⟨j.1 h0,h⟩,fun h=>h.2⟩⟩
   ·rw [Af h0]
    simp only [Bool.not_false,if_true]
    exact ⟨c,rfl,⟨fun h=>absurd h h0,fun h=>absurd (j.2 h.1) h0⟩⟩
  ·rw [Ag (show b.length<=i by omega)]
   simp only [if_true]
   refine ⟨1,rfl,⟨fun h=>absurd h (by decide),fun e=>?_⟩⟩
   rw [List.drop_eq_nil_of_le (show b.length<=i by omega)] at e
   have:=List.drop_eq_nil_iff.1 e
   omega
theorem Xg (n:Nat) (hn:10000<=n) (a b:Int × List Int) (ha:a.2.length<=1000):Ed n a b=some (decide (a=b)):=by
 obtain ⟨c,e,h⟩:=Zcy n a.2 b.2 (fun (x0:Int) (x1:Int)=>some (C7 x0 x1)) (by omega) (fun p q=>⟨_,rfl,by rw [C7];exact Sr p q⟩) a.2.length n 0 (by omega) (by omega)
 have e:BL n a.2 b.2 (fun (x0:Int) (x1:Int)=>some (C7 x0 x1)) n 0=some c:=e
 rw [List.drop_zero,List.drop_zero] at h
 obtain ⟨d,f,g⟩:=ZdQ n [if a.1<b.1 then -1 else if a.1=b.1 then 0 else 1,c] (by simp only [List.length_cons,List.length_nil];omega) (by simp only [List.length_cons,List.length_nil];omega)
 rw [Ed,H6,FC,e,Ae,f,Ae,Ae]
 congr 1
 rw [decide_eq_decide,g]
 simp only [List.mem_cons,List.not_mem_nil,or_false,forall_eq_or_imp,forall_eq,Sr,h]
 exact ⟨fun q=>Prod.ext q.1 q.2,fun q=>by rw [q];exact ⟨rfl,rfl⟩⟩
def ZnW (n:Nat)  (b:List Int):Option ((List Int)) :=
 some (b)
def Zl0 (n:Nat) (q:Stt):Nat->(List Int)->Int->Option ((List Int))
 | 0,_,_=>none
 | m+1,b,g =>
  if decide (g<(q.slots.length:Int)) then
   (Dw q.slots g).bind fun h =>
   if decide (h.key.kind=2) then
    if (b.length+1)*8<=140737488355328/\b.length+1<=4611686018427387904 then
     if BN (g+1) then
      (Zl0 n q m) (b++([h.key.int])) (g+1)
     else none
    else none
   else
    AM
  else
   ZnW n b
def Zm2 (n:Nat) (b:Stt):Option ((List Int)) :=
 Zl0 n b n ([]) 0
theorem Zoc (w0:World) (n:Nat) (B:Ao) (Rw:Ap) (L:Aq) (a0:Stt) (r:(List Int)) (h:Zm2 n a0=some r) :
  ACalls Tryz.prog w0 24 [.agg (Dx a0)] ⟨B,Rw,L⟩ fun x st=>x = .list (r.map Ci) .none/\st=⟨B,Rw,L⟩:=by
 rw [Zm2] at h
 refine hd [.tmp 2] Tryz.func24 Tryz.ntmps24 fun M0 W0 p j l i q k hs=>?_
 simp only [Ax]
 refine rg [1] hs ?_
 refine rg [1,3] hs ?_
 refine AD (fun e st=>∃ (b:List Int) (d:Ev.Own),Ck e st B Rw L [(3,true,.list (b.map Ci) d)] [Dx a0] [(1,b.length,d)] (ZnW n b=some r)) ?_ ?_
 ·intro K5 o
  refine rg [3,7,8,9] hs ?_
  apply Ar
  refine AA (fun m e st=>∃ (f:List Int) (g:Int) (c:Ev.Own),Ck e st B Rw L [(3,true,.list (f.map Ci) c),(7,true,.list (a0.slots.map AZ) .none),(8,true,Ak (a0.slots.length:Int)),(9,true,Ak g)] [Dx a0] [(1,f.length,c)] (Zl0 n a0 m f g=some r)) n ⟨([]),0,.full,([]),Rw,ef hs,ef hs,Owns.of_eq ((k).full 1 0) Fh,h⟩ ?_
  rintro ml7 e st ⟨f,g,c,Xl7,Rl7,rfl,rfl,k,h⟩ Ul7 Vl7
  cases ml7 with
  | zero=>cases h
  | succ ml7 =>
  rw [Zl0] at h
  exact go (tg (a:=([3,7,8,9,10],([3,7,8,9],[3,5,7,8,9],[3,5,7,8,9,16],([3,7,8,9],[3,7,8,9],()),((),())),[3],()))) h hs p j l i k (q1 (ae Zjb Zf3)) (q2 o (fun e s=>Vl7 ml7 e s (Nat.lt_succ_self _)))
 ·clear h;rintro e st ⟨b,d,Xk4,Rk4,rfl,rfl,k,h⟩
  rw [ZnW] at h
  exact go (tg (a:=([2],()))) h hs p j l i k trivial trivial
theorem ZoK {α:Type} {l:List α} {i:Nat} {x:α} {r:List α} (h:l.drop i=x::r):∃ hlt:i<l.length,l[i]=x/\l.drop (i+1)=r:=by
 have hlt:i<l.length:=by
  rcases Nat.lt_or_ge i l.length with q | q
  ·exact q
  ·rw [List.drop_eq_nil_of_le q] at h;cases h
 rw [List.drop_eq_getElem_cons hlt] at h
 exact ⟨hlt,(List.cons.inj h).1,(List.cons.inj h).2⟩
theorem ZoQ {α:Type} {l:List α} {i:Nat} (h:l.drop i=[]) (hi:i<=l.length):i=l.length:=by
 have:=List.drop_eq_nil_iff.1 h;omega
theorem ZoR (p:CP) (s:CS) (i:Nat) (t:Int) (c:Nat) (d u:Bool) (w:Nat):Du p s (.rep i t c d u w)=⟨s,none,none,[]⟩\/∃ e,LC c s.es=some e/\((∃ y,Du p s (.rep i t c d u w)=⟨⟨s.num,s.es.filter fun x=>x.num != c⟩,none,none,[(e.m,y)]⟩)\/Du p s (.rep i t c d u w)=⟨⟨s.num,s.es.filter fun x=>x.num != c⟩,some (i,e.m,w),none,[]⟩):=by
 cases u with
 | true=>left;simp only [Du,if_true]
 | false =>
  cases hf:LC c s.es with
  | none=>left;simp only [Du,Bool.false_eq_true,if_false,hf]
  | some e =>
   right
   refine ⟨e,rfl,?_⟩
   simp only [Du,Bool.false_eq_true,if_false,hf]
   split
   ·exact .inl ⟨.refused,rfl⟩
   ·split
    ·exact .inl ⟨.type,rfl⟩
    ·exact .inr rfl
theorem ZoS (p:CP) (s:CS) (q:CM) (t:Int):(∃ w,Du p s (.msg q t)=⟨s,none,none,[(q,w)]⟩)\/∃ T,Du p s (.msg q t)=⟨⟨s.num+1,s.es++[⟨s.num+1,T,q⟩]⟩,none,some (q,s.num+1),[]⟩:=by
 simp only [Du]
 split
 ·exact .inl ⟨.full,rfl⟩
 ·split
  ·exact .inl ⟨.type,rfl⟩
  ·exact .inr ⟨_,rfl⟩
theorem ZoP (n:Nat) (s:CS) (hl:s.es.length<=900):∀ (k m i:Nat),i+k=s.es.length->k<m->Zl0 n (Aw s) m ((s.es.take i).map fun e=>(e.num:Int)) (i:Int)=some (s.es.map fun e=>(e.num:Int))
 | k,0,i,_,h=>absurd h (Nat.not_lt_zero _)
 | 0,m+1,i,hi,_=>by
  have a:(Aw s).slots.length=s.es.length:=by simp [Aw]
  rw [Zl0,a,A4,Ac,Ai (by decide),ZnW,List.take_of_length_le (by omega)]
 | k+1,m+1,i,hi,hm=>by
  have b:i<s.es.length:=by omega
  have a:(Aw s).slots.length=s.es.length:=by simp [Aw]
  have c:i<(Aw s).slots.length:=by omega
  have f:(Aw s).slots[i]=BS s.es[i]:=by simp [Aw]
  have ih:=ZoP n s hl k m (i+1) (by omega) (by omega)
  rw [<-List.take_append_getElem b,List.map_append] at ih
  have d:decide ((BS s.es[i]).key.kind=2)=true:=rfl
  rw [Zl0,a,A4,Ag b,Ah rfl,Bj c,Ae,f,d,Ah rfl,Ah (by rw [List.length_map,List.length_take];omega),Ah (A8 (by omega))]
  exact ih
theorem Zpc (n:Nat) (hn:1000<=n) (s:CS) (hl:s.es.length<=900):Zm2 n (Aw s)=some (s.es.map fun e=>(e.num:Int)) :=
 ZoP n s hl s.es.length n 0 (by omega) (by omega)
def ZnZ (b:Int):Bool :=
 (decide (b<0))||(decide (1099511627776<b))
theorem Zot (w0:World) (B:Ao) (Rw:Ap) (L:Aq) (a0:Int) (r:Bool) (h:ZnZ a0=r) :
  ACalls Tryz.prog w0 36 [Ak a0] ⟨B,Rw,L⟩ fun x st=>x = .val (.bool r)/\st=⟨B,Rw,L⟩:=by
 rw [ZnZ] at h
 refine hd [.tmp 2] Tryz.func36 Tryz.ntmps36 fun M0 W0 e b c a f d hs=>?_
 simp only [Ax]
 refine rg [0] hs ?_
 refine rg [2] hs ?_
 exact rT h hs a d
theorem Zop (w0:World) (B:Ao) (Rw:Ap) (L:Aq) (a0:Int) :
  ACalls Tryz.prog w0 36 [Ak a0] ⟨B,Rw,L⟩ fun x st=>x = .val (.bool (ZnZ a0))/\st=⟨B,Rw,L⟩:=Zot w0 B Rw L a0 _ rfl
def ZnU (n:Nat)  : Option Int :=
 some ((-1))
def ZeX (n:Nat) (q:List Msg) (y:Msg->Option Bool):Nat->Int->Option Int
 | 0,_=>none
 | m+1,b =>
  if decide (b<(q.length:Int)) then
   (Dw q b).bind fun g =>
   (y g).bind fun h =>
   if h then
    AM
   else
    if BN (b+1) then
     (ZeX n q y m) (b+1)
    else none
  else
   ZnU n 
def ZnF (n:Nat) (b:List Msg) (g:Msg->Option Bool):Option Int :=
 ZeX n b g n 0
theorem Zog (w0:World) (n:Nat) (B:Ao) (Rw:Ap) (L:Aq) (a0:List Msg) (fa1:FuncId) (ca1:List AV) (a1:Msg->Option Bool) (ha1:∀ (x0:Msg) r,a1 x0=some r->∀ B' rows,B <+: B'->Rw <+: rows->ACalls Tryz.prog w0 fa1 ([.agg (Qu x0)]++ca1) ⟨B',rows,L⟩ fun v s=>v = .val (.bool r)/\s=⟨B',rows,L⟩) (r:Int) (h:ZnF n a0 a1=some r) :
  ACalls Tryz.prog w0 58 [.list (a0.map Dn) .none,.clo fa1 ca1] ⟨B,Rw,L⟩ fun x st=>x=Ak r/\st=⟨B,Rw,L⟩:=by
 rw [ZnF] at h
 refine hd [.tmp 4] Tryz.func58 Tryz.ntmps58 fun M0 W0 j g i c l f hs=>?_
 simp only [Ax]
 have b:=Cc (l (.clo fa1 ca1) (by simp))
 refine rg [0,1] hs ?_
 refine AD (fun e st=>Ck e st B Rw L [] [] [] (ZnU n  = some r)) ?_ ?_
 ·intro K4 k
  refine rg [0,1,7,8] hs ?_
  apply Ar
  refine AA (fun m e st=>∃ (d:Int),Ck e st B Rw L [(0,true,.list (a0.map Dn) .none),(1,true,.clo fa1 ca1),(7,true,Ak (a0.length:Int)),(8,true,Ak d)] [] [] (ZeX n a0 a1 m d=some r)) n ⟨0,([]),Rw,ef hs,ef hs,f,h⟩ ?_
  rintro ml6 e st ⟨d,Xl6,Rl6,rfl,rfl,f,h⟩ Ul6 Vl6
  cases ml6 with
  | zero=>cases h
  | succ ml6 =>
  rw [ZeX] at h
  refine AO j g i rfl c f (H8 b f) (H8 b f) ?_
  exact go (tg (a:=([0,1,7,8,9],([0,1,7,8],[0,1,5,7,8],[0,1,5,7,8,16],((),()),[0,1,7,8],[0,1,7,8],()),[],()))) h hs j g i c f (q1 ha1) (q2 k (fun e s=>Vl6 ml6 e s (Nat.lt_succ_self _)))
 ·clear h;rintro e st ⟨Xk3,Rk3,rfl,rfl,f,h⟩
  rw [ZnU] at h
  refine AO j g i rfl c f (H8 b f) (H8 b f) ?_
  refine rg [4] hs ?_
  exact rt h hs c f
def ZkM (n:Nat) (b:List Msg) (h:Msg->Option Bool):Option Bool :=
 (ZnF n b h).bind fun g =>
 some (decide (0<=g))
theorem Zod (w0:World) (n:Nat) (B:Ao) (Rw:Ap) (L:Aq) (a0:List Msg) (fa1:FuncId) (ca1:List AV) (a1:Msg->Option Bool) (ha1:∀ (x0:Msg) r,a1 x0=some r->∀ B' rows,B <+: B'->Rw <+: rows->ACalls Tryz.prog w0 fa1 ([.agg (Qu x0)]++ca1) ⟨B',rows,L⟩ fun v s=>v = .val (.bool r)/\s=⟨B',rows,L⟩) (r:Bool) (h:ZkM n a0 a1=some r) :
  ACalls Tryz.prog w0 34 [.list (a0.map Dn) .none,.clo fa1 ca1] ⟨B,Rw,L⟩ fun x st=>x = .val (.bool r)/\st=⟨B,Rw,L⟩:=by
 rw [ZkM] at h
 refine hd [.tmp 4] Tryz.func34 Tryz.ntmps34 fun M0 W0 m i j b l g hs=>?_
 simp only [Ax]
 have e:=Cc (l (.clo fa1 ca1) (by simp))
 refine rg [0,1] hs ?_
 obtain ⟨o,d,h⟩:=bind_some h
 refine rc 2 [4] hs ?_;intro K2 c
 refine Av _ (Zog w0 n _ _ _ a0 fa1 ca1 a1 (fun x0 r k f a q1 q2=>ha1 x0 r k f a (List.IsPrefix.trans px q1) (g.pre.trans q2)) _ d) (hv hs) ?_
 refine ne hs c ?_
 clear c
 exact rt h hs b g
theorem ZoJ (n:Nat) (l:List Msg) (f:Msg->Option Bool) (hf:∀ x∈l,f x=some false) (hl:l.length<=1000000000):∀ (k m i:Nat),i+k=l.length->k<m->ZeX n l f m i=some (-1)
 | k,0,i,_,h=>absurd h (Nat.not_lt_zero _)
 | 0,m+1,i,hi,_=>by
  rw [ZeX,A4,Ac,Ai (by decide)]
  rfl
 | k+1,m+1,i,hi,hm=>by
  have a:i<l.length:=by omega
  rw [ZeX,A4,Ag a,Ah rfl,Bj a,Ae,hf _ (List.getElem_mem a),Ae,Ai (by decide),Ah (A8 (by omega))]
  exact ZoJ n l f hf hl k m (i+1) (by omega) (by omega)
theorem ZoV (n:Nat) (hn:10000<=n) (l:List Msg) (f:Msg->Option Bool) (hf:∀ x∈l,f x=some false) (hl:l.length<=1000):ZkM n l f=some false:=by
 have e:ZeX n l f n 0=some (-1):=ZoJ n l f hf (by omega) l.length n 0 (by omega) (by omega)
 rw [ZkM,ZnF,e]
 rfl
def Zn4 (n:Nat) (b:Vl):Option Int :=
 if ES b then
  AM
 else
  if !(decide (b.kind=9)) then
   AM
  else
   (RL n b).bind fun g =>
   some (g)
theorem Zox (w0:World) (hT:Lib.Utf8Tabs 1 2 w0) (n:Nat) (B:Ao) (Rw:Ap) (L:Aq) (a0:Vl) (r:Int) (h:Zn4 n a0=some r) :
  ACalls Tryz.prog w0 169 [.agg (a0.cs)] ⟨B,Rw,L⟩ fun x st=>x=Ak r/\st=⟨B,Rw,L⟩:=by
 rw [Zn4] at h
 refine hd [.tmp 2] Tryz.func169 Tryz.ntmps169 fun M0 W0 e c d b g f hs=>?_
 simp only [Ax]
 exact go (tg (a:=([1],[1,3],((),()),[1,6],((),()),[1],[2],()))) h hs e c d b f (q2 (Gw w0) (ZF w0 hT n)) trivial
def ZnQ (b:Int):Bool :=
 (decide (1<=b))&&(decide (b<=1048576))
theorem Zou (w0:World) (B:Ao) (Rw:Ap) (L:Aq) (a0:Int) (r:Bool) (h:ZnQ a0=r) :
  ACalls Tryz.prog w0 168 [Ak a0] ⟨B,Rw,L⟩ fun x st=>x = .val (.bool r)/\st=⟨B,Rw,L⟩:=by
 rw [ZnQ] at h
 refine hd [.tmp 2] Tryz.func168 Tryz.ntmps168 fun M0 W0 e b c a f d hs=>?_
 simp only [Ax]
 refine rg [0] hs ?_
 refine rg [2] hs ?_
 exact rT h hs a d
theorem Zoo (w0:World) (B:Ao) (Rw:Ap) (L:Aq) (a0:Int) :
  ACalls Tryz.prog w0 168 [Ak a0] ⟨B,Rw,L⟩ fun x st=>x = .val (.bool (ZnQ a0))/\st=⟨B,Rw,L⟩:=Zou w0 B Rw L a0 _ rfl
def Zn6 (n:Nat)  : Option Int :=
 some ((-1))
def ZnS (n:Nat) (q:List Int) (y:Int->Option Bool):Nat->Int->Option Int
 | 0,_=>none
 | m+1,b =>
  if decide (b<(q.length:Int)) then
   (Dw q b).bind fun g =>
   (y g).bind fun h =>
   if h then
    AM
   else
    if BN (b+1) then
     (ZnS n q y m) (b+1)
    else none
  else
   Zn6 n 
def Zn8 (n:Nat) (b:List Int) (g:Int->Option Bool):Option Int :=
 ZnS n b g n 0
theorem Zol (w0:World) (n:Nat) (B:Ao) (Rw:Ap) (L:Aq) (a0:List Int) (fa1:FuncId) (ca1:List AV) (a1:Int->Option Bool) (ha1:∀ (x0:Int) r,a1 x0=some r->∀ B' rows,B <+: B'->Rw <+: rows->ACalls Tryz.prog w0 fa1 ([Ak x0]++ca1) ⟨B',rows,L⟩ fun v s=>v = .val (.bool r)/\s=⟨B',rows,L⟩) (r:Int) (h:Zn8 n a0 a1=some r) :
  ACalls Tryz.prog w0 244 [.list (a0.map Ci) .none,.clo fa1 ca1] ⟨B,Rw,L⟩ fun x st=>x=Ak r/\st=⟨B,Rw,L⟩:=by
 rw [Zn8] at h
 refine hd [.tmp 4] Tryz.func244 Tryz.ntmps244 fun M0 W0 j g i c l f hs=>?_
 simp only [Ax]
 have b:=Cc (l (.clo fa1 ca1) (by simp))
 refine rg [0,1] hs ?_
 refine AD (fun e st=>Ck e st B Rw L [] [] [] (Zn6 n  = some r)) ?_ ?_
 ·intro K4 k
  refine rg [0,1,7,8] hs ?_
  apply Ar
  refine AA (fun m e st=>∃ (d:Int),Ck e st B Rw L [(0,true,.list (a0.map Ci) .none),(1,true,.clo fa1 ca1),(7,true,Ak (a0.length:Int)),(8,true,Ak d)] [] [] (ZnS n a0 a1 m d=some r)) n ⟨0,([]),Rw,ef hs,ef hs,f,h⟩ ?_
  rintro ml6 e st ⟨d,Xl6,Rl6,rfl,rfl,f,h⟩ Ul6 Vl6
  cases ml6 with
  | zero=>cases h
  | succ ml6 =>
  rw [ZnS] at h
  refine AO j g i rfl c f (H8 b f) (H8 b f) ?_
  exact go (tg (a:=([0,1,7,8,9],([0,1,7,8],[0,1,5,7,8],[0,1,5,7,8,16],((),()),[0,1,7,8],[0,1,7,8],()),[],()))) h hs j g i c f (q1 ha1) (q2 k (fun e s=>Vl6 ml6 e s (Nat.lt_succ_self _)))
 ·clear h;rintro e st ⟨Xk3,Rk3,rfl,rfl,f,h⟩
  rw [Zn6] at h
  refine AO j g i rfl c f (H8 b f) (H8 b f) ?_
  refine rg [4] hs ?_
  exact rt h hs c f
def Zn2 (n:Nat) (b:List Int) (h:Int->Option Bool):Option Bool :=
 (Zn8 n b h).bind fun g =>
 some (decide (0<=g))
theorem Zoj (w0:World) (n:Nat) (B:Ao) (Rw:Ap) (L:Aq) (a0:List Int) (fa1:FuncId) (ca1:List AV) (a1:Int->Option Bool) (ha1:∀ (x0:Int) r,a1 x0=some r->∀ B' rows,B <+: B'->Rw <+: rows->ACalls Tryz.prog w0 fa1 ([Ak x0]++ca1) ⟨B',rows,L⟩ fun v s=>v = .val (.bool r)/\s=⟨B',rows,L⟩) (r:Bool) (h:Zn2 n a0 a1=some r) :
  ACalls Tryz.prog w0 207 [.list (a0.map Ci) .none,.clo fa1 ca1] ⟨B,Rw,L⟩ fun x st=>x = .val (.bool r)/\st=⟨B,Rw,L⟩:=by
 rw [Zn2] at h
 refine hd [.tmp 4] Tryz.func207 Tryz.ntmps207 fun M0 W0 m i j b l g hs=>?_
 simp only [Ax]
 have e:=Cc (l (.clo fa1 ca1) (by simp))
 refine rg [0,1] hs ?_
 obtain ⟨o,d,h⟩:=bind_some h
 refine rc 2 [4] hs ?_;intro K2 c
 refine Av _ (Zol w0 n _ _ _ a0 fa1 ca1 a1 (fun x0 r k f a q1 q2=>ha1 x0 r k f a (List.IsPrefix.trans px q1) (g.pre.trans q2)) _ d) (hv hs) ?_
 refine ne hs c ?_
 clear c
 exact rt h hs b g
def ZnY (b:Int):Bool :=
 (decide (b<0))||(decide (65535<b))
theorem Zov (w0:World) (B:Ao) (Rw:Ap) (L:Aq) (a0:Int) (r:Bool) (h:ZnY a0=r) :
  ACalls Tryz.prog w0 208 [Ak a0] ⟨B,Rw,L⟩ fun x st=>x = .val (.bool r)/\st=⟨B,Rw,L⟩:=by
 rw [ZnY] at h
 refine hd [.tmp 2] Tryz.func208 Tryz.ntmps208 fun M0 W0 e b c a f d hs=>?_
 simp only [Ax]
 refine rg [0] hs ?_
 refine rg [2] hs ?_
 exact rT h hs a d
theorem Zor (w0:World) (B:Ao) (Rw:Ap) (L:Aq) (a0:Int) :
  ACalls Tryz.prog w0 208 [Ak a0] ⟨B,Rw,L⟩ fun x st=>x = .val (.bool (ZnY a0))/\st=⟨B,Rw,L⟩:=Zov w0 B Rw L a0 _ rfl
def Zn0 (n:Nat) (b:Int × List Int):Option Int :=
 if (decide (b.1<1))||(decide (1048576<b.1)) then
  AM
 else
  if decide ((b.2.length:Int)=0) then
   AM
  else
   if decide (512<(b.2.length:Int)) then
    AM
   else
    (Zn2 n b.2 (fun (q:Int)=>some (ZnY q))).bind fun h =>
    if h then
     AM
    else
     (Dw b.2 0).bind fun g =>
     if decide (1<g) then
      AM
     else
      if decide (g=1) then
       some (0)
      else
       AM
theorem ZoA (w0:World) (n:Nat) (B:Ao) (Rw:Ap) (L:Aq) (a0:Int × List Int) (r:Int) (h:Zn0 n a0=some r) :
  ACalls Tryz.prog w0 167 [.agg (Ak a0.1::([.list (a0.2.map Ci) .none]))] ⟨B,Rw,L⟩ fun x st=>x=Ak r/\st=⟨B,Rw,L⟩:=by
 rw [Zn0] at h
 refine hd [.tmp 2] Tryz.func167 Tryz.ntmps167 fun M0 W0 g c d b o k hs=>?_
 simp only [Ax]
 refine rg [1] hs ?_
 apply Am;intro K2 i
 apply Ar
 refine rg [1,3] hs ?_
 refine B6 h hs ?_ ?_<;>intro hs h
 ·exact nS h
 refine rg [1,12] hs ?_
 refine B6 h hs ?_ ?_<;>intro hs h
 ·exact nS h
 refine rg [1,17] hs ?_
 refine B6 h hs ?_ ?_<;>intro hs h
 ·exact nS h
 obtain ⟨f,hy10,h⟩:=bind_some h
 refine rc 2 [1,22] hs ?_;intro K9 e
 refine Av _ (Zoj w0 n _ _ _ a0.2 208 [] (fun (x0:Int)=>some (ZnY x0)) (fun x0 r hx m rows' j l=>by cases hx;exact Zor w0 _ _ _ x0) _ hy10) (hv hs) ?_
 exact go (tg (a:=(((),()),[1,26],((),()),[1,32],([2],()),((),())))) h hs g c d b k trivial (q1 e)
def Zn3 (n:Nat) (g:Msg):Option Int :=
 (Zn4 n g.body).bind fun b =>
 some (b)
def Zmr (n:Nat) (g:Msg):Nat->Int->Option Int
 | 0,_=>none
 | m+1,b =>
  if decide (b<(g.origins.length:Int)) then
   (Dw g.origins b).bind fun h =>
   if !(ZnQ h) then
    AM
   else
    if decide (0<b) then
     AM
    else
     if BN (b+1) then
      (Zmr n g m) (b+1)
     else none
  else
   Zn3 n g 
def ZnX (n:Nat) (b:Msg):Option Int :=
 (Zn0 n b.stamp).bind fun g =>
 if !(decide (g=0)) then
  AM
 else
  if ZnZ b.mass then
   AM
  else
   if decide ((b.origins.length:Int)=0) then
    AM
   else
    if decide (4096<(b.origins.length:Int)) then
     AM
    else
     Zmr n b n 0
theorem Zos (w0:World) (hT:Lib.Utf8Tabs 1 2 w0) (n:Nat) (B:Ao) (Rw:Ap) (L:Aq) (a0:Msg) (r:Int) (h:ZnX n a0=some r) :
  ACalls Tryz.prog w0 118 [.agg (Qu a0)] ⟨B,Rw,L⟩ fun x st=>x=Ak r/\st=⟨B,Rw,L⟩:=by
 rw [ZnX] at h
 refine hd [.tmp 2] Tryz.func118 Tryz.ntmps118 fun M0 W0 q d i c u o hs=>?_
 simp only [Ax]
 refine rg [1] hs ?_
 apply Am;intro K2 k
 obtain ⟨t,p,h⟩:=bind_some h
 refine rc 2 [1,3] hs ?_;intro K3 j
 refine Av _ (ZoA w0 n _ _ _ a0.stamp _ p) (hv hs) ?_
 refine ne hs j ?_
 clear j
 refine rg [1,3,10] hs ?_
 refine B6 h hs ?_ ?_<;>intro hs h
 ·exact nS h
 refine sk [1] hs k ?_
 clear k
 apply Am;intro K7 l
 apply Ar
 refine rc 2 [1,12] hs ?_;intro K8 g
 refine Av _ (Zop w0 _ _ _ a0.mass) (hv hs) ?_
 refine ne hs g ?_
 clear g
 refine B6 h hs ?_ ?_<;>intro hs h
 ·exact nS h
 refine rg [1,16] hs ?_
 refine B6 h hs ?_ ?_<;>intro hs h
 ·exact nS h
 refine rg [1,21] hs ?_
 refine B6 h hs ?_ ?_<;>intro hs h
 ·exact nS h
 refine sk [1] hs l ?_
 clear l
 refine AD (fun e st=>Ck e st B Rw L [(1,true,.box B.length 0)] [Qu a0] [] (Zn3 n a0  = some r)) ?_ ?_
 ·intro K16 f
  refine rg [1,27,28,29] hs ?_
  apply Ar
  refine AA (fun m e st=>∃ (b:Int),Ck e st B Rw L [(1,true,.box B.length 0),(27,true,.list (a0.origins.map Ci) .none),(28,true,Ak (a0.origins.length:Int)),(29,true,Ak b)] [Qu a0] [] (Zmr n a0 m b=some r)) n ⟨0,([]),Rw,ef hs,ef hs,o,h⟩ ?_
  rintro ml18 e st ⟨b,Xl18,Rl18,rfl,rfl,o,h⟩ Ul18 Vl18
  cases ml18 with
  | zero=>cases h
  | succ ml18 =>
  rw [Zmr] at h
  exact go (tg (a:=([1,27,28,29,30],([1,27,28,29],[1,4,5,27,28,29],[1,4,5,27,28,29,34],((),()),((),()),[1,27,28,29,38],[1,27,28,29],[1,27,28,29],()),[1],()))) h hs q d i c o (q1 (Zoo w0)) (q2 f (fun e s=>Vl18 ml18 e s (Nat.lt_succ_self _)))
 ·clear h;rintro e st ⟨Xk15,Rk15,rfl,rfl,o,h⟩
  rw [Zn3] at h
  exact go (tg (a:=([2],()))) h hs q d i c o (q1 (Zox w0 hT n)) trivial
def Zkn (n:Nat) (b:Msg) (h:Msg):Option Bool :=
 (Ed n b.stamp h.stamp).bind fun g =>
 some (g)
theorem Zoe (w0:World) (n:Nat) (B:Ao) (Rw:Ap) (L:Aq) (a0:Msg) (la1:Nat) (a1:Msg) (hla1:B[la1]? = some (Qu a1)) (r:Bool) (h:Zkn n a0 a1=some r) :
  ACalls Tryz.prog w0 119 [.agg (Qu a0),.box la1 0] ⟨B,Rw,L⟩ fun x st=>x = .val (.bool r)/\st=⟨B,Rw,L⟩:=by
 rw [Zkn] at h
 refine hd [.tmp 3] Tryz.func119 Tryz.ntmps119 fun M0 W0 f d e b i g hs=>?_
 simp only [Ax]
 have c:=(Aj.1 hla1).1
 have hs:=Ad (AH hla1) hs
 exact go (tg (a:=([1,2],[3],()))) h hs f d e b g (q1 (KH w0 n)) trivial
def Zgj (b:Int) (g:Int):Option Int :=
 if (((decide (b<((-999999999999999))))||(decide (999999999999999<b)))||(decide (g<0)))||(decide (17592186044416<g)) then
  AM
 else
  some (0)
theorem Zof (w0:World) (B:Ao) (Rw:Ap) (L:Aq) (a0:Int) (a1:Int) (r:Int) (h:Zgj a0 a1=some r) :
  ACalls Tryz.prog w0 83 [Ak a0,Ak a1] ⟨B,Rw,L⟩ fun x st=>x=Ak r/\st=⟨B,Rw,L⟩:=by
 rw [Zgj] at h
 refine hd [.tmp 4] Tryz.func83 Tryz.ntmps83 fun M0 W0 e c d b g f hs=>?_
 simp only [Ax]
 exact go (tg (a:=([0,1],[18],((),()),[],[4],()))) h hs e c d b f trivial trivial
def ZnV (n:Nat) (b:Chk) (pla0_k36_0:List Msg):Option (Int × Chk) :=
 some ((0,Chk.mk pla0_k36_0 b.values))
def ZnC (n:Nat) (b:Chk) (g:Slt):Nat->(List Msg)->Option (Int × Chk)
 | 0,_=>none
 | m+1,pla0_l39_0 =>
  if decide (0<(g.values.length:Int)) then
   AM
  else
   ZnV n b pla0_l39_0
def ZnO (n:Nat) (b:Chk) (g:Slt) (pla0_k8_0:List Msg):Option (Int × Chk) :=
 ZnC n b g n pla0_k8_0
def Zfi (n:Nat) (a0:Chk) (h:Slt):Nat->Int->(List Msg)->Option (Int × Chk)
 | 0,_,_=>none
 | m+1,b,pla0_l11_0 =>
  if decide (b<(h.items.length:Int)) then
   (Dw h.items b).bind fun g =>
   if decide ((pla0_l11_0.length:Int)=256) then
    AM
   else
    (ZnX n g).bind fun q =>
    if !(decide (q=0)) then
     AM
    else
     (ZkM n pla0_l11_0 (fun (x0:Msg)=>Zkn n x0 g)).bind fun y =>
     if y then
      AM
     else
      if (pla0_l11_0.length+1)*152<=140737488355328/\pla0_l11_0.length+1<=4611686018427387904 then
       if BN (b+1) then
        (Zfi n a0 h m) (b+1) (pla0_l11_0++([g]))
       else none
      else none
  else
   ZnO n a0 h pla0_l11_0
def ZmX (n:Nat) (g:Chk) (b:Slt):Option (Int × Chk) :=
 (Zgj b.number b.time).bind fun h =>
 if !(decide (h=0)) then
  AM
 else
  Zfi n g b n 0 g.items
theorem Zok (w0:World) (hT:Lib.Utf8Tabs 1 2 w0) (n:Nat) (B:Ao) (Rw:Ap) (L:Aq) (la0:Nat) (a0:Chk) (oa0:Ev.Own) (hla0:B[la0]? = some ([.list (a0.items.map Dn) oa0,Ak a0.values])) (hGa0:Owns Rw Rw [(10,a0.items.length,oa0)] oa0) (a1:Slt) (r:Int × Chk) (h:ZmX n a0 a1=some r) :
  ACalls Tryz.prog w0 86 [.box la0 0,.agg (O4 a1)] ⟨B,Rw,L⟩ fun x st=>x=Ak r.1/\∃ (R1:Ap) (o1:Ev.Own),st=⟨(B.set la0 ([.list (r.2.items.map Dn) o1,Ak r.2.values])),R1,L⟩/\Owns Rw R1 [(10,r.2.items.length,o1)] oa0:=by
 rw [ZmX] at h
 refine ACalls.finG (B7 (rs:=[.tmp 4]) Tryz.func86 rfl rfl Tryz.ntmps86 (AL Tryz.func86 rfl (by decide)) (Nat.le_of_ble_eq_true rfl) ?_)
 intro M0 W0 hN F G q hu
 dsimp only at hN F G q hu
 simp only [Ax]
 have t:=hGa0
 have hs:=Uu
 have aj:=(Aj.1 hla0).1
 have hs:=Ad (AH hla0) hs
 refine rg [0,3] hs ?_
 apply Am;intro K2 ag
 obtain ⟨y4,ao,h⟩:=bind_some h
 refine rc 2 [0,3,5] hs ?_;intro K3 ah
 refine Av _ (Zof w0 _ _ _ a1.number a1.time _ ao) (hv hs) ?_
 refine ne hs ah ?_
 clear ah
 refine rg [0,3,5,18] hs ?_
 refine B6 h hs ?_ ?_<;>intro hs h
 ·have v:=hs.1
  exact nS h
 have v:=hs.1
 refine sk [0,3] hs ag ?_
 clear ag
 refine AD (fun e st=>∃ (i:List Msg) (k:Ev.Own) (Xk8:Ao) (Rk8:Ap),e=[(0,true,.box la0 0),(3,true,.box B.length 0)]/\st=⟨(B.set la0 ([.list (i.map Dn) k,Ak a0.values]))++([O4 a1]++Xk8),Rk8,L⟩/\Owns Rw Rk8 [(10,i.length,k)] oa0/\ZnO n a0 a1 i=some r) ?_ ?_
 ·intro K9 ar
  refine rg [0,3,21,22,23] hs ?_
  apply Ar
  refine AA (fun m e st=>∃ (p:Int) (b:List Msg) (d:Ev.Own) (Xl11:Ao) (Rl11:Ap),e=[(0,true,.box la0 0),(3,true,.box B.length 0),(21,true,.list (a1.items.map Dn) .none),(22,true,Ak (a1.items.length:Int)),(23,true,Ak p)]/\st=⟨(B.set la0 ([.list (b.map Dn) d,Ak a0.values]))++([O4 a1]++Xl11),Rl11,L⟩/\Owns Rw Rl11 [(10,b.length,d)] oa0/\Zfi n a0 a1 m p b=some r) n ⟨0,a0.items,oa0,([]),Rw,ef hs,ef hs,Owns.of_eq (t) Fh,h⟩ ?_
  rintro ml11 e st ⟨p,b,d,Xl11,Rl11,rfl,rfl,t,h⟩ Ul11 Vl11
  cases ml11 with
  | zero=>cases h
  | succ ml11 =>
  rw [Zfi] at h
  have J:=t.unders
  simp only [List.mem_cons,List.not_mem_nil,or_false,forall_eq_or_imp,forall_eq] at J
  refine EA hN F G MZ (AK (DY q t.len) ow) t ow ow ?_
  refine rg [0,3,21,22,23,24] hs ?_
  apply Am;intro K13 Z
  refine B6 h hs ?_ ?_<;>intro hs h
  rotate_left
  ·have w:=hs.1
   refine sx [0,3] hs ar ?_
   exact ⟨b,d,([]),Rl11,ef hs,ef hs,Owns.of_eq (t) Fh,h⟩
  have w:=hs.1
  refine sk [0,3,21,22,23] hs Z ?_
  clear Z
  apply Am;intro K15 V
  apply Ar
  obtain ⟨E,ai,h⟩:=bind_some h
  obtain ⟨aq,ap,ab⟩:=Bo ai
  have u:=Bz (f:=Dn) ab
  have hs:=Ad u hs
  refine rg [0,3,7,21,22,23] hs ?_
  apply Am;intro K18 aa
  refine rg [0,3,7,21,22,23,32] hs ?_
  refine B6 h hs ?_ ?_<;>intro hs h
  ·have z:=hs.1
   exact nS h
  have z:=hs.1
  refine sk [0,3,7,21,22,23] hs aa ?_
  clear aa
  apply Am;intro K21 Y
  obtain ⟨aw,ad,h⟩:=bind_some h
  refine rc 2 [0,3,7,8,21,22,23] hs ?_;intro K22 Q
  refine Av _ (Zos w0 hT n _ _ _ E _ ad) (hv hs) ?_
  refine ne hs Q ?_
  clear Q
  refine rg [0,3,7,8,21,22,23,36] hs ?_
  refine B6 h hs ?_ ?_<;>intro hs h
  ·have D:=hs.1
   exact nS h
  have D:=hs.1
  refine sk [0,3,7,21,22,23] hs Y ?_
  clear Y
  apply Am;intro K26 U
  obtain ⟨ay,af,h⟩:=bind_some h
  refine rc 2 [0,3,7,21,22,23,43] hs ?_;intro K27 O
  refine Av _ (Zod w0 n _ _ _ b 119 [.box (B.length+1) 0] (fun (x0:Msg)=>Zkn n x0 E) (fun x0 r hx B' rows' ak ax=>by exact Zoe w0 n _ _ _ x0 _ E (I6 ak (ef hs)) _ hx) _ af) (hv hs) ?_
  refine ne hs O ?_
  clear O
  refine B6 h hs ?_ ?_<;>intro hs h
  ·have C:=hs.1
   exact nS h
  have C:=hs.1
  refine sk [0,3,7,21,22,23] hs U ?_
  clear U
  obtain ⟨N,h⟩:=Au h
  obtain ⟨am,H,t,j⟩:=t.append (P:=Tryz.prog) Z8 (by rw [U4];rfl) (by decide) 1 N.1 N.2
  replace j:=fun (ys:List AV) B L o2=>j (b.map Dn) ys B L o2 Fh
  replace j:=fun (y:AV) B L o2=>j [y] B L o2 Fh ev
  try simp only [List.mem_singleton,List.mem_cons,List.not_mem_nil,or_false,forall_eq_or_imp,forall_eq,List.map_append,List.map_cons,List.map_nil,Fe,E6,E9,E8,Fb,EP,D2,D4,E3,CJ,CL,D1,DX,DZ,Fa,DW,E5] at j
  apply JG G6 [7,10] [4] [0,3,21,22,23] kr (fun s=>∃ (X:Ao) (rows:Ap) (K:List AV),s=⟨(B.set la0 K)++([O4 a1,Qu E]++X),rows,L⟩) 3 (B.length+2)
  ·simp +decide only [go_sem,Nat.reduceAdd]
  ·refine ⟨1,?_⟩
   rw [An];simp +decide only [go_sem,Nat.reduceAdd,Bh,AH hla0,v,w,u,z,D,C,j]
   (repeat' apply Ad)<;>first | rfl | exact cl
  ·rintro s ⟨X,rows,K,rfl⟩
   refine ⟨1,?_⟩
   rw [An];simp +decide only [go_sem,Nat.reduceAdd,Bh,List.append_eq,List.cons_append,List.nil_append,AH hla0,v,w,u,z,D,C,j]
   have hs:=Ad j hs
   (repeat' apply Ad)<;>first | rfl | ((repeat (first | exact .nil | refine .cons (ef hs) ?_));done) | exact cl
  ·exact gd (tg (a:=(7,10,[0,3,21,22,23]))) (Ad j (Ad u (Ad (AH hla0) hs)))
  simp +decide only [go_sem,Nat.reduceAdd,AH hla0,v,w,u,z,D,C,j]
  (repeat' apply Ad)<;>first | refine V _ _ ?_ | exact cl
  clear V
  obtain ⟨au,h⟩:=Au h
  have hs:=Ad j hs
  refine rl [0,3,21,22,23] hs (fun e s=>Vl11 ml11 e s (Nat.lt_succ_self _)) ?_
  exact ⟨(p+1),(b++([E])),am,([Qu E]),H,ef hs,ef hs,Owns.of_eq (t) Fh,h⟩
 ·clear h;rintro e st ⟨i,k,Xk8,Rk8,rfl,rfl,t,h⟩
  rw [ZnO] at h
  have J:=t.unders
  simp only [List.mem_cons,List.not_mem_nil,or_false,forall_eq_or_imp,forall_eq] at J
  refine EA hN F G MZ (AK (DY q t.len) ow) t ow ow ?_
  refine AD (fun e st=>∃ (l:List Msg) (o:Ev.Own) (Xk36:Ao) (Rk36:Ap),e=[]/\st=⟨(B.set la0 ([.list (l.map Dn) o,Ak a0.values]))++([O4 a1]++Xk36),Rk36,L⟩/\Owns Rw Rk36 [(10,l.length,o)] oa0/\ZnV n a0 l=some r) ?_ ?_
  ·intro K37 ae
   refine rg [0,56,57,58] hs ?_
   apply Ar
   refine AA (fun m e st=>∃ (c:List Msg) (g:Ev.Own) (Xl39:Ao) (Rl39:Ap),e=[(0,true,.box la0 0),(56,true,.list (a1.values.map En) .none),(57,true,Ak (a1.values.length:Int)),(58,true,Ak 0)]/\st=⟨(B.set la0 ([.list (c.map Dn) g,Ak a0.values]))++([O4 a1]++Xl39),Rl39,L⟩/\Owns Rw Rl39 [(10,c.length,g)] oa0/\ZnC n a0 a1 m c=some r) n ⟨i,k,([]),Rk8,ef hs,ef hs,Owns.of_eq (t) Fh,h⟩ ?_
   rintro ml39 e st ⟨c,g,Xl39,Rl39,rfl,rfl,t,h⟩ Ul39 Vl39
   cases ml39 with
   | zero=>cases h
   | succ ml39 =>
   rw [ZnC] at h
   have J:=t.unders
   simp only [List.mem_cons,List.not_mem_nil,or_false,forall_eq_or_imp,forall_eq] at J
   refine EA hN F G MZ (AK (DY q t.len) ow) t ow ow ?_
   refine rg [0,56,57,58,59] hs ?_
   apply Am;intro K41 av
   refine B6 h hs ?_ ?_<;>intro hs h
   rotate_left
   ·refine sx [] hs ae ?_
    exact ⟨c,g,([]),Rl39,ef hs,ef hs,Owns.of_eq (t) Fh,h⟩
   exact nS h
  ·clear h;rintro e st ⟨l,o,Xk36,Rk36,rfl,rfl,t,h⟩
   rw [ZnV] at h
   have J:=t.unders
   simp only [List.mem_cons,List.not_mem_nil,or_false,forall_eq_or_imp,forall_eq] at J
   refine EA hN F G MZ (AK (DY q t.len) ow) t ow ow ?_
   refine rg [4] hs ?_
   apply BB;simp +decide only [go_sem,Nat.reduceAdd,AH hla0,v]
   have hgt:=Option.some.inj h;subst hgt
   have J:=t.unders
   simp only [List.mem_cons,List.not_mem_nil,or_false,forall_eq_or_imp,forall_eq] at J
   refine ZjM t (AK (DY q t.len) ow) MZ ev ⟨?_,_,_,?_,(t.sub (List.sublist_append_left [_] _)).len1 Fh⟩
   all_goals first | rfl | (simp +decide only [go_sem,Nat.reduceAdd,AH hla0,v];done) | (simp +decide only [go_sem,Nat.reduceAdd,Vl.cs,Ty.cs,AH hla0,v];done)
def ZnP (n:Nat) (g:Int->(List Msg)->Int->Option Int) (b:Int) (b1_l15_1:Int) (q:Slt) (b1_k28_0:List Msg):Option Int :=
 (ZmX n (Chk.mk b1_k28_0 b1_l15_1) q).bind fun h =>
 if !(decide (h.1=0)) then
  AM
 else
  if BN (b+1) then
   g (b+1) h.2.items h.2.values
  else none
def Zoa (n:Nat)  (b1_k12_0:List Msg) (b1_k12_1:Int):Option Int :=
 some (0)
def ZiK (n:Nat) (q:Stt):Nat->Int->(List Msg)->Int->Option Int
 | 0,_,_,_=>none
 | m+1,b,b1_l15_0,b1_l15_1 =>
  if decide (b<(q.slots.length:Int)) then
   (Dw q.slots b).bind fun g =>
   (RL n g.key).bind fun y24 =>
   if (!(decide (y24=0)))&&(!(ES g.key)) then
    AM
   else
    if decide (0<b) then
     if BN (b-1) then
      (Dw q.slots (b-1)).bind fun y =>
      (CB n g.key y.key).bind fun h =>
      if decide (h=0) then
       AM
      else
       if decide (h=((-1))) then
        AM
       else
        ZnP n (ZiK n q m) b b1_l15_1 g b1_l15_0
     else none
    else
     ZnP n (ZiK n q m) b b1_l15_1 g b1_l15_0
  else
   Zoa n b1_l15_0 b1_l15_1
def Zn7 (n:Nat) (b:Stt):Option Int :=
 (Zgj b.number b.time).bind fun g =>
 if !(decide (g=0)) then
  AM
 else
  if decide (1024<(b.slots.length:Int)) then
   AM
  else
   ZiK n b n 0 ([]) 0
theorem Zoz (w0:World) (hT:Lib.Utf8Tabs 1 2 w0) (n:Nat) (B:Ao) (Rw:Ap) (L:Aq) (a0:Stt) (r:Int) (h:Zn7 n a0=some r) :
  ACalls Tryz.prog w0 51 [.agg (Dx a0)] ⟨B,Rw,L⟩ fun x st=>x=Ak r/\st=⟨B,Rw,L⟩:=by
 rw [Zn7] at h
 refine hd [.tmp 2] Tryz.func51 Tryz.ntmps51 fun M0 W0 Z u v p hu q hs=>?_
 simp only [Ax]
 refine rg [1] hs ?_
 apply Am;intro K2 K
 obtain ⟨y4,ab,h⟩:=bind_some h
 refine rc 2 [1,3] hs ?_;intro K3 Y
 refine Av _ (Zof w0 _ _ _ a0.number a0.time _ ab) (hv hs) ?_
 refine ne hs Y ?_
 clear Y
 refine rg [1,3,15] hs ?_
 refine B6 h hs ?_ ?_<;>intro hs h
 ·exact nS h
 refine sk [1] hs K ?_
 clear K
 apply Am;intro K7 H
 refine rg [1,20] hs ?_
 refine B6 h hs ?_ ?_<;>intro hs h
 ·exact nS h
 refine sk [1] hs H ?_
 clear H
 refine rg [1,4] hs ?_
 refine AD (fun e st=>∃ (k:List Msg) (o:Int) (l:Ev.Own),Ck e st B Rw L [] [Dx a0,[.list (k.map Dn) l,Ak o]] [(10,k.length,l)] (Zoa n k o=some r)) ?_ ?_
 ·intro K13 V
  refine rg [1,4,22,23,24] hs ?_
  apply Ar
  refine AA (fun m e st=>∃ (j:Int) (c:List Msg) (b:Int) (g:Ev.Own),Ck e st B Rw L [(1,true,.box B.length 0),(4,true,.box (B.length+1) 0),(22,true,.list (a0.slots.map AZ) .none),(23,true,Ak (a0.slots.length:Int)),(24,true,Ak j)] [Dx a0,[.list (c.map Dn) g,Ak b]] [(10,c.length,g)] (ZiK n a0 m j c b=some r)) n ⟨0,([]),0,.full,([]),Rw,ef hs,ef hs,Owns.of_eq ((q).full 10 0) Fh,h⟩ ?_
  rintro ml15 e st ⟨j,c,b,g,Xl15,Rl15,rfl,rfl,q,h⟩ Ul15 Vl15
  cases ml15 with
  | zero=>cases h
  | succ ml15 =>
  rw [ZiK] at h
  have hU:=q.unders
  simp only [List.mem_cons,List.not_mem_nil,or_false,forall_eq_or_imp,forall_eq] at hU
  refine Go.Ev.td Z u v p q ?_
  refine rg [1,4,22,23,24,25] hs ?_
  apply Am;intro K17 y
  refine B6 h hs ?_ ?_<;>intro hs h
  rotate_left
  ·refine sx [] hs V ?_
   exact ⟨c,b,g,([]),Rl15,ef hs,ef hs,Owns.of_eq (q) Fh,h⟩
  refine sk [1,4,22,23,24] hs y ?_
  clear y
  apply Am;intro K19 O
  apply Ar
  obtain ⟨t,J,h⟩:=bind_some h
  obtain ⟨aa,ad,F⟩:=Bo J
  have E:=Bz (f:=AZ) F
  have hs:=Ad E hs
  refine rg [1,4,5,6,22,23,24] hs ?_
  apply Am;intro K22 C
  obtain ⟨ag,N,h⟩:=bind_some h
  refine rc 2 [1,4,5,6,7,22,23,24] hs ?_;intro K23 z
  refine Av _ (ZF w0 hT n _ _ _ t.key _ N) (hv hs) ?_
  refine ne hs z ?_
  clear z
  refine rc 2 [1,4,5,6,7,22,23,24,39] hs ?_;intro K25 D
  refine Jl _ (fun _=>Gw w0 _ _ _ t.key) (hv hs) ?_
  refine ne hs D ?_
  clear D
  refine B6 h hs ?_ ?_<;>intro hs h
  ·exact nS h
  refine sk [1,4,5,6,22,23,24] hs C ?_
  clear C
  refine AD (fun e st=>∃ (d:List Msg) (i:Ev.Own),Ck e st B Rw L [(1,true,.box B.length 0),(4,true,.box (B.length+1) 0),(6,true,.box (B.length+2) 0),(22,true,.list (a0.slots.map AZ) .none),(23,true,Ak (a0.slots.length:Int)),(24,true,Ak j)] [Dx a0,[.list (d.map Dn) i,Ak b],O4 t] [(10,d.length,i)] (ZnP n (ZiK n a0 ml15) j b t d=some r)) ?_ ?_
  ·intro K29 U
   exact go (tg (a:=([1,4,5,6,22,23,24,42],([10,1,4,6,22,23,24,52],[1,4,6,22,23,24,52,53],((),()),[1,4,6,22,23,24,55],((),()),[1,4,6,22,23,24],()),[1,4,6,22,23,24],()))) h hs Z u v p q (q1 (Nr w0 n)) (q1 U)
  ·clear h;rintro e st ⟨d,i,Xk28,Rk28,rfl,rfl,q,h⟩
   rw [ZnP] at h
   have hU:=q.unders
   simp only [List.mem_cons,List.not_mem_nil,or_false,forall_eq_or_imp,forall_eq] at hU
   refine Go.Ev.td Z u v p q ?_
   obtain ⟨af,Q,h⟩:=bind_some h
   refine rc 2 [1,4,8,22,23,24] hs ?_;intro K40 G
   refine BE _ (Zok w0 hT n _ _ _ (B.length+1) (Chk.mk d b) i (ef hs) q.enter t _ Q) (hv hs) ?_;rintro _ _ ⟨rfl,Rg42,ae,rfl,w⟩
   have q:=q.call w
   exact go (tg (a:=([1,4,8,22,23,24,60],((),()),[1,4,22,23,24],[1,4,22,23,24],()))) h hs Z u v p q trivial (q3 G O (fun e s=>Vl15 ml15 e s (Nat.lt_succ_self _)))
 ·clear h;rintro e st ⟨k,o,l,Xk12,Rk12,rfl,rfl,q,h⟩
  rw [Zoa] at h
  exact go (tg (a:=([2],()))) h hs Z u v p q trivial trivial
def Zn5 (n:Nat)  : Option Int :=
 some (0)
def Zgb (n:Nat) (h:Stt):Nat->Int->Option Int
 | 0,_=>none
 | m+1,b =>
  if decide (b<(h.slots.length:Int)) then
   (Dw h.slots b).bind fun g =>
   if !(decide (g.key.kind=2)) then
    AM
   else
    if (decide (g.key.int<1))||(decide (h.number<g.key.int)) then
     AM
    else
     if (!(decide (g.number=0)))||(decide (0<(g.values.length:Int))) then
      AM
     else
      if decide ((g.items.length:Int)=0) then
       AM
      else
       if decide (1<(g.items.length:Int)) then
        AM
       else
        if BN (b+1) then
         (Zgb n h m) (b+1)
        else none
  else
   Zn5 n 
def ZmW (n:Nat) (h:Nod) (b:Stt):Option Int :=
 if !(decide (h.kind=9)) then
  AM
 else
  (Zn7 n b).bind fun g =>
  if !(decide (g=0)) then
   AM
  else
   if (decide (b.number<0))||(decide (1099511627776<b.number)) then
    AM
   else
    if !(decide (b.time=0)) then
     AM
    else
     Zgb n b n 0
theorem Zob (w0:World) (hT:Lib.Utf8Tabs 1 2 w0) (n:Nat) (B:Ao) (Rw:Ap) (L:Aq) (a0:Nod) (a1:Stt) (r:Int) (h:ZmW n a0 a1=some r) :
  ACalls Tryz.prog w0 27 [.agg (PD a0),.agg (Dx a1)] ⟨B,Rw,L⟩ fun x st=>x=Ak r/\st=⟨B,Rw,L⟩:=by
 rw [ZmW] at h
 refine hd [.tmp 4] Tryz.func27 Tryz.ntmps27 fun M0 W0 q g i c u f hs=>?_
 simp only [Ax]
 refine rg [2,3] hs ?_
 apply Am;intro K2 k
 refine rg [3,10] hs ?_
 refine B6 h hs ?_ ?_<;>intro hs h
 ·exact nS h
 refine sk [3] hs k ?_
 clear k
 apply Am;intro K5 j
 obtain ⟨t,p,h⟩:=bind_some h
 refine rc 2 [3,5] hs ?_;intro K6 l
 refine Av _ (Zoz w0 hT n _ _ _ a1 _ p) (hv hs) ?_
 refine ne hs l ?_
 clear l
 refine rg [3,5,14] hs ?_
 refine B6 h hs ?_ ?_<;>intro hs h
 ·exact nS h
 refine sk [3] hs j ?_
 clear j
 apply Am;intro K10 d
 apply Ar
 refine rg [3,16] hs ?_
 refine B6 h hs ?_ ?_<;>intro hs h
 ·exact nS h
 refine rg [3,25] hs ?_
 refine B6 h hs ?_ ?_<;>intro hs h
 ·exact nS h
 refine sk [3] hs d ?_
 clear d
 refine AD (fun e st=>Ck e st B Rw L [] [PD a0,Dx a1] [] (Zn5 n  = some r)) ?_ ?_
 ·intro K17 o
  refine rg [3,30,31,32] hs ?_
  apply Ar
  refine AA (fun m e st=>∃ (b:Int),Ck e st B Rw L [(3,true,.box (B.length+1) 0),(30,true,.list (a1.slots.map AZ) .none),(31,true,Ak (a1.slots.length:Int)),(32,true,Ak b)] [PD a0,Dx a1] [] (Zgb n a1 m b=some r)) n ⟨0,([]),Rw,ef hs,ef hs,f,h⟩ ?_
  rintro ml19 e st ⟨b,Xl19,Rl19,rfl,rfl,f,h⟩ Ul19 Vl19
  cases ml19 with
  | zero=>cases h
  | succ ml19 =>
  rw [Zgb] at h
  exact go (tg (a:=([3,30,31,32,33],([3,30,31,32],[3,7,30,31,32],[3,7,30,31,32,36],((),()),[3,7,30,31,32,41],((),()),[3,7,30,31,32,54],((),()),[3,7,30,31,32,64],((),()),[3,30,31,32,69],((),()),[3,30,31,32],[3,30,31,32],()),[],()))) h hs q g i c f trivial (q2 o (fun e s=>Vl19 ml19 e s (Nat.lt_succ_self _)))
 ·clear h;rintro e st ⟨Xk16,Rk16,rfl,rfl,f,h⟩
  rw [Zn5] at h
  refine Go.Ev.td q g i c f ?_
  refine rg [4] hs ?_
  exact rt h hs c f
def Zn1 (n:Nat) (b:Int->Bool->Int->Option (Int × Bool)) (g:Int) (q:Int) (h:Bool):Option (Int × Bool) :=
 if BN (g+1) then
  b q h (g+1)
 else none
def Zoi (n:Nat)  (g:Int) (b:Bool):Option (Int × Bool) :=
 some ((g,b))
def ZnD (n:Nat) (y:Stt):Nat->Int->Bool->Int->Option (Int × Bool)
 | 0,_,_,_=>none
 | m+1,g,h,b =>
  if decide (b<(y.slots.length:Int)) then
   (Dw y.slots b).bind fun q =>
   if (decide (0<q.time))&&((!h)||(decide (q.time<g))) then
    Zn1 n (ZnD n y m) b q.time true
   else
    Zn1 n (ZnD n y m) b g h
  else
   Zoi n g h
def Zn9 (n:Nat) (b:Stt):Option (Int × Bool) :=
 ZnD n b n 0 false 0
theorem Zon (w0:World) (n:Nat) (B:Ao) (Rw:Ap) (L:Aq) (a0:Stt) (r:Int × Bool) (h:Zn9 n a0=some r) :
  ACalls Tryz.prog w0 26 [.agg (Dx a0)] ⟨B,Rw,L⟩ fun x st=>x = .tup [Ak r.1,.val (.bool r.2)]/\st=⟨B,Rw,L⟩:=by
 rw [Zn9] at h
 refine hd [.tmp 2,.tmp 3] Tryz.func26 Tryz.ntmps26 fun M0 W0 u o p b w l hs=>?_
 simp only [Ax]
 refine rg [1,2,3] hs ?_
 refine AD (fun e st=>∃ (j:Int) (k:Bool),Ck e st B Rw L [(2,true,Ak j),(3,true,.val (.bool k))] [Dx a0] [] (Zoi n j k=some r)) ?_ ?_
 ·intro K4 v
  refine rg [2,3,7,8,9] hs ?_
  apply Ar
  refine AA (fun m e st=>∃ (g:Int) (i:Bool) (c:Int),Ck e st B Rw L [(2,true,Ak g),(3,true,.val (.bool i)),(7,true,.list (a0.slots.map AZ) .none),(8,true,Ak (a0.slots.length:Int)),(9,true,Ak c)] [Dx a0] [] (ZnD n a0 m g i c=some r)) n ⟨0,false,0,([]),Rw,ef hs,ef hs,l,h⟩ ?_
  rintro ml6 e st ⟨g,i,c,Xl6,Rl6,rfl,rfl,l,h⟩ Ul6 Vl6
  cases ml6 with
  | zero=>cases h
  | succ ml6 =>
  rw [ZnD] at h
  refine Go.Ev.td u o p b l ?_
  refine rg [2,3,7,8,9,10] hs ?_
  apply Am;intro K8 q
  refine B6 h hs ?_ ?_<;>intro hs h
  rotate_left
  ·refine sx [2,3] hs v ?_
   exact ⟨g,i,([]),Rl6,ef hs,ef hs,l,h⟩
  refine sk [2,3,7,8,9] hs q ?_
  clear q
  refine AD (fun e st=>∃ (d:Int) (f:Bool),Ck e st B Rw L [(2,true,Ak d),(3,true,.val (.bool f)),(7,true,.list (a0.slots.map AZ) .none),(8,true,Ak (a0.slots.length:Int)),(9,true,Ak c)] [Dx a0] [] (Zn1 n (ZnD n a0 ml6) c d f=some r)) ?_ ?_
  ·intro K12 t
   exact go (tg (a:=([2,3,5,7,8,9],[2,3,5,7,8,9,25],([2,3,7,8,9],()),[2,3,7,8,9],()))) h hs u o p b l trivial (q1 t)
  ·clear h;rintro e st ⟨d,f,Xk11,Rk11,rfl,rfl,l,h⟩
   rw [Zn1] at h
   exact go (tg (a:=([2,3,7,8,9],()))) h hs u o p b l trivial (q1 (fun e s=>Vl6 ml6 e s (Nat.lt_succ_self _)))
 ·clear h;rintro e st ⟨j,k,Xk3,Rk3,rfl,rfl,l,h⟩
  rw [Zoi] at h
  refine Go.Ev.td u o p b l ?_
  refine rg [2,3] hs ?_
  exact rt h hs b l
def ZnT (n:Nat) (h:Nod) (g:Stt):Option (Int × Bool) :=
 (Zn9 n g).bind fun b =>
 some ((b.1,b.2))
theorem Zom (w0:World) (n:Nat) (B:Ao) (Rw:Ap) (L:Aq) (a0:Nod) (a1:Stt) (r:Int × Bool) (h:ZnT n a0 a1=some r) :
  ACalls Tryz.prog w0 25 [.agg (PD a0),.agg (Dx a1)] ⟨B,Rw,L⟩ fun x st=>x = .tup [Ak r.1,.val (.bool r.2)]/\st=⟨B,Rw,L⟩:=by
 rw [ZnT] at h
 refine hd [.tmp 4,.tmp 5] Tryz.func25 Tryz.ntmps25 fun M0 W0 e c d b g f hs=>?_
 simp only [Ax]
 exact go (tg (a:=([3],[4,5],()))) h hs e c d b f (q1 (Zon w0 n)) trivial
def ZeU (n:Nat) (b:Int->Option Bool) (g:Int):Option Bool :=
 if BN (g+1) then
  b (g+1)
 else none
def ZnR (n:Nat)  : Option Bool :=
 some (true)
def ZdH (n:Nat) (g:Int->Option Bool) (h:Int) (y:Otc) (q:(List Int)):Nat->Int->Option Bool
 | 0,_=>none
 | m+1,b =>
  if decide (b<(q.length:Int)) then
   (Dw q b).bind fun x47 =>
   (Dw y.state.slots b).bind fun x48 =>
   if !(decide (x47=x48.key.int)) then
    AM
   else
    if decide (0<b) then
     if BN (b-1) then
      (Dw q (b-1)).bind fun x52 =>
      if decide (x47<=x52) then
       AM
      else
       if BN (b+1) then
        (ZdH n g h y q m) (b+1)
       else none
     else none
    else
     if BN (b+1) then
      (ZdH n g h y q m) (b+1)
     else none
  else
   ZeU n g h 
def Zde (n:Nat) (g:Int->Option Bool) (h:Int) (y:Otc) (q:(List Int)):Nat->Int->Option Bool
 | 0,_=>none
 | m+1,b =>
  if decide (b<(q.length:Int)) then
   (Dw q b).bind fun x70 =>
   (Dw y.state.slots b).bind fun x71 =>
   if !(decide (x70=x71.key.int)) then
    AM
   else
    if decide (0<b) then
     if BN (b-1) then
      (Dw q (b-1)).bind fun x75 =>
      if decide (x70<=x75) then
       AM
      else
       if BN (b+1) then
        (Zde n g h y q m) (b+1)
       else none
     else none
    else
     if BN (b+1) then
      (Zde n g h y q m) (b+1)
     else none
  else
   ZeU n g h 
def ZaJ (n:Nat) (y7:Nod) (y8:(List Inp)) (q:(List Otc)):Nat->Int->Option Bool
 | 0,_=>none
 | m+1,b =>
  if decide (b<(y8.length:Int)) then
   (Dw q b).bind fun g =>
   (ZnT n y7 g.state).bind fun h =>
   (Zn9 n g.state).bind fun y =>
   (ZmW n y7 g.state).bind fun y30 =>
   if ((!(decide (y30=0)))||(!(decide (h.1=y.1))))||(h.2 != y.2) then
    AM
   else
    (Dw y8 b).bind fun x32 =>
    if (decide (x32.kind=2))&&h.2 then
     if decide (h.1<=x32.time) then
      AM
     else
      (Zm2 n g.state).bind fun y36 =>
      if !(decide ((y36.length:Int)=(g.state.slots.length:Int))) then
       AM
      else
       ZdH n (ZaJ n y7 y8 q m) b g y36 n 0
    else
     (Zm2 n g.state).bind fun y59 =>
     if !(decide ((y59.length:Int)=(g.state.slots.length:Int))) then
      AM
     else
      Zde n (ZaJ n y7 y8 q m) b g y59 n 0
  else
   ZnR n 
def Zny (n:Nat) (y:Int × Int × Int × Int) (q:List (Int × Int × Int × Int)):Option Bool :=
 (Lq n ).bind fun y4 =>
 if !y4 then
  AM
 else
  (DK y).bind fun g =>
  (IP n q).bind fun h =>
  (MQ n g h).bind fun b =>
  ZaJ n g h b n 0
theorem Zoh (w0:World) (hE:QU w0) (hM:Qx w0) (hP:Pow10 w0) (hT:Lib.Utf8Tabs 1 2 w0) (n:Nat) (B:Ao) (Rw:Ap) (L:Aq) (a0:Int × Int × Int × Int) (a1:List (Int × Int × Int × Int)) (r:Bool) (h:Zny n a0 a1=some r) :
  ACalls Tryz.prog w0 9 [.agg (.val (.int .u8 a0.1)::(.val (.int .u8 a0.2.1)::(.val (.int .u8 a0.2.2.1)::([.val (.int .u8 a0.2.2.2)])))),.list (a1.map QH) .none] ⟨B,Rw,L⟩ fun x st=>x = .val (.bool r)/\st=⟨B,Rw,L⟩:=by
 rw [Zny] at h
 refine hd [.tmp 4] Tryz.func9 Tryz.ntmps9 fun M0 W0 hN q t c hu k hs=>?_
 simp only [Ax]
 refine rg [1,2] hs ?_
 apply Am;intro K2 Y
 obtain ⟨y4,ar,h⟩:=bind_some h
 refine rc 2 [1,2,17] hs ?_;intro K3 af
 refine Av _ (Xt w0 hE hM hP hT n _ _ _  _ ar) (hv hs) ?_
 refine ne hs af ?_
 clear af
 refine B6 h hs ?_ ?_<;>intro hs h
 ·exact nS h
 refine sk [1,2] hs Y ?_
 clear Y
 obtain ⟨p,ak,h⟩:=bind_some h
 obtain ⟨v,aq,h⟩:=bind_some h
 refine rc 3 [5,6] hs ?_;intro K6 Q
 refine Av _ (Ie w0 _ _ _ a0 _ ak) (hv hs) ?_
 refine nc hs ?_
 refine Av _ (PO w0 n _ _ _ a1 _ aq) (hv hs) ?_
 refine ne hs Q ?_
 clear Q
 obtain ⟨j,ah,h⟩:=bind_some h
 refine rc 2 [5,6,7] hs ?_;intro K9 ai
 refine Av _ (U9 w0 hE hM hP hT n _ _ _ p v _ ah) (hv hs) ?_
 refine ne hs ai ?_
 clear ai
 refine AD (fun e st=>Ck e st B Rw L [] [.val (.int .u8 a0.1)::(.val (.int .u8 a0.2.1)::(.val (.int .u8 a0.2.2.1)::([.val (.int .u8 a0.2.2.2)]))),PD p] [] (ZnR n  = some r)) ?_ ?_
 ·intro K13 ae
  refine rg [5,6,7,8] hs ?_
  apply Ar
  refine AA (fun m e st=>∃ (b:Int),Ck e st B Rw L [(5,true,.box (B.length+1) 0),(6,true,.list (v.map NA) .none),(7,true,.list (j.map NJ) .none),(8,true,Ak b)] [.val (.int .u8 a0.1)::(.val (.int .u8 a0.2.1)::(.val (.int .u8 a0.2.2.1)::([.val (.int .u8 a0.2.2.2)]))),PD p] [] (ZaJ n p v j m b=some r)) n ⟨0,([]),Rw,ef hs,ef hs,k,h⟩ ?_
  rintro ml15 e st ⟨b,Xl15,Rl15,rfl,rfl,k,h⟩ Ul15 Vl15
  cases ml15 with
  | zero=>cases h
  | succ ml15 =>
  rw [ZaJ] at h
  refine Go.Ev.td hN q t c k ?_
  apply Am;intro K16 D
  refine rg [5,6,7,8,28] hs ?_
  refine B6 h hs ?_ ?_<;>intro hs h
  rotate_left
  ·refine sx [] hs ae ?_
   exact ⟨([]),Rl15,ef hs,ef hs,k,h⟩
  refine sk [5,6,7,8] hs D ?_
  clear D
  refine AD (fun e st=>Ck e st B Rw L [(5,true,.box (B.length+1) 0),(6,true,.list (v.map NA) .none),(7,true,.list (j.map NJ) .none),(8,true,Ak b)] [.val (.int .u8 a0.1)::(.val (.int .u8 a0.2.1)::(.val (.int .u8 a0.2.2.1)::([.val (.int .u8 a0.2.2.2)]))),PD p] [] (ZeU n (ZaJ n p v j ml15) b  = some r)) ?_ ?_
  ·intro K21 F
   apply Ar
   obtain ⟨i,ab,h⟩:=bind_some h
   obtain ⟨au,ap,K⟩:=Bo ab
   have J:=Bz (f:=NJ) K
   have hs:=Ad J hs
   refine rg [5,6,7,8,9] hs ?_
   obtain ⟨N,V,h⟩:=bind_some h
   refine rc 2 [5,6,7,8,9,10,11] hs ?_;intro K24 C
   refine Av _ (Zom w0 n _ _ _ p i.state _ V) (hv hs) ?_
   refine ne hs C ?_
   clear C
   obtain ⟨Z,aa,h⟩:=bind_some h
   refine rc 2 [5,6,7,8,9,10,11,12,13] hs ?_;intro K26 E
   refine Av _ (Zon w0 n _ _ _ i.state _ aa) (hv hs) ?_
   refine ne hs E ?_
   clear E
   apply Am;intro K28 l
   apply Am;intro K29 o
   obtain ⟨av,w,h⟩:=bind_some h
   rcases Bool.eq_false_or_eq_true (((!(decide (av=0)))||(!(decide (N.1=Z.1))))||(N.2 != Z.2)) with hf31 | hf31
   ·replace h:=Cj h hf31
    exact nS h
   ·replace h:=Cm h hf31
    obtain ⟨ao,aj,am,u,h⟩:=ix NA h
    rcases Bool.eq_false_or_eq_true ((decide (ao.kind=2))&&N.2) with hf33 | hf33
    ·replace h:=Cj h hf33
     have hs:=Ad hf31 hs
     have hs:=Ad u hs
     have hs:=Ad hf33 hs
     refine rk 2 [5,6,7,8,9,80] (al hs) ?_
     refine Av _ (Zob w0 hT n _ _ _ p i.state _ w) (hv (al hs)) ?_
     refine ne (al hs) o ?_
     clear o
     refine B6 h hs ?_ ?_<;>intro hs h
     ·exact nS h
     refine sk [5,6,7,8,9] hs l ?_
     clear l
     obtain ⟨ad,ag,h⟩:=bind_some h
     refine rc 2 [5,6,7,8,9,14] hs ?_;intro K35 H
     refine Av _ (Zoc w0 n _ _ _ i.state _ ag) (hv hs) ?_
     refine ne hs H ?_
     clear H
     apply Am;intro K37 y
     refine rg [5,6,7,8,9,14,88] hs ?_
     refine B6 h hs ?_ ?_<;>intro hs h
     ·exact nS h
     refine sk [5,6,7,8,9,14] hs y ?_
     clear y
     refine rg [5,6,7,8,9,14,15] hs ?_
     apply Ar
     refine AA (fun m e st=>∃ (d:Int),Ck e st B Rw L [(5,true,.box (B.length+1) 0),(6,true,.list (v.map NA) .none),(7,true,.list (j.map NJ) .none),(8,true,Ak b),(9,true,.box (B.length+2) 0),(14,true,.list (ad.map Ci) .none),(15,true,Ak d)] [.val (.int .u8 a0.1)::(.val (.int .u8 a0.2.1)::(.val (.int .u8 a0.2.2.1)::([.val (.int .u8 a0.2.2.2)]))),PD p,Dx i.state] [] (ZdH n (ZaJ n p v j ml15) b i ad m d=some r)) n ⟨0,([]),Rl15,ef hs,ef hs,k,h⟩ ?_
     rintro ml41 e st ⟨d,Xl41,Rl41,rfl,rfl,k,h⟩ Ul41 Vl41
     cases ml41 with
     | zero=>cases h
     | succ ml41 =>
     rw [ZdH] at h
     exact go (tg (a:=([5,6,7,8,9,14,15,92],([5,6,7,8,9,14,15],((),()),([28,5,6,7,8,9,14,15,122],((),()),[5,6,7,8,9,14,15],[5,6,7,8,9,14,15],()),[28,5,6,7,8,9,14,15,122],[5,6,7,8,9,14,15],[5,6,7,8,9,14,15],()),[5,6,7,8],()))) h hs hN q t c k trivial (q2 F (fun e s=>Vl41 ml41 e s (Nat.lt_succ_self _)))
    ·replace h:=Cm h hf33
     have hs:=Ad hf31 hs
     have hs:=Ad u hs
     have hs:=Ad hf33 hs
     refine rk 2 [5,6,7,8,9,80] (al hs) ?_
     refine Av _ (Zob w0 hT n _ _ _ p i.state _ w) (hv (al hs)) ?_
     refine ne (al hs) o ?_
     clear o
     refine A7 false ev (ef hs) (fun hb57=>by cases hb57) (fun hb57=>?_)
     refine sk [5,6,7,8,9] hs l ?_
     clear l
     obtain ⟨U,O,h⟩:=bind_some h
     refine rc 2 [5,6,7,8,9,14] hs ?_;intro K58 z
     refine Av _ (Zoc w0 n _ _ _ i.state _ O) (hv hs) ?_
     refine ne hs z ?_
     clear z
     apply Am;intro K60 G
     refine rg [5,6,7,8,9,14,88] hs ?_
     refine B6 h hs ?_ ?_<;>intro hs h
     ·exact nS h
     refine sk [5,6,7,8,9,14] hs G ?_
     clear G
     refine rg [5,6,7,8,9,14,15] hs ?_
     apply Ar
     refine AA (fun m e st=>∃ (g:Int),Ck e st B Rw L [(5,true,.box (B.length+1) 0),(6,true,.list (v.map NA) .none),(7,true,.list (j.map NJ) .none),(8,true,Ak b),(9,true,.box (B.length+2) 0),(14,true,.list (U.map Ci) .none),(15,true,Ak g)] [.val (.int .u8 a0.1)::(.val (.int .u8 a0.2.1)::(.val (.int .u8 a0.2.2.1)::([.val (.int .u8 a0.2.2.2)]))),PD p,Dx i.state] [] (Zde n (ZaJ n p v j ml15) b i U m g=some r)) n ⟨0,([]),Rl15,ef hs,ef hs,k,h⟩ ?_
     rintro ml64 e st ⟨g,Xl64,Rl64,rfl,rfl,k,h⟩ Ul64 Vl64
     cases ml64 with
     | zero=>cases h
     | succ ml64 =>
     rw [Zde] at h
     exact go (tg (a:=([5,6,7,8,9,14,15,92],([5,6,7,8,9,14,15],((),()),([28,5,6,7,8,9,14,15,122],((),()),[5,6,7,8,9,14,15],[5,6,7,8,9,14,15],()),[28,5,6,7,8,9,14,15,122],[5,6,7,8,9,14,15],[5,6,7,8,9,14,15],()),[5,6,7,8],()))) h hs hN q t c k trivial (q2 F (fun e s=>Vl64 ml64 e s (Nat.lt_succ_self _)))
  ·clear h;rintro e st ⟨Xk20,Rk20,rfl,rfl,k,h⟩
   rw [ZeU] at h
   exact go (tg (a:=([5,6,7,8],()))) h hs hN q t c k trivial (q1 (fun e s=>Vl15 ml15 e s (Nat.lt_succ_self _)))
 ·clear h;rintro e st ⟨Xk12,Rk12,rfl,rfl,k,h⟩
  rw [ZnR] at h
  refine Go.Ev.td hN q t c k ?_
  refine rg [4] hs ?_
  exact rt h hs c k
theorem Zo5 {p:CP} {s:CS} {now:Int} {k:Nat} (h:s.ok p now k) (hm:s.es.Pairwise fun a b=>a.m.i<b.m.i) {j:CI} (hj:j.ok k):(Du p s j).st.es.Pairwise fun a b=>a.m.i<b.m.i:=by
 cases j with
 | msg m t =>
  have l:m.i=k:=hj.1
  rcases ZoS p s m t with ⟨w,e⟩ | ⟨T,e⟩
  ·rw [e];exact hm
  ·rw [e]
   refine List.pairwise_append.2 ⟨hm,List.pairwise_singleton .., fun a g b f=>?_⟩
   rw [List.mem_singleton.1 f]
   have:=(h.msg a g).1
   show a.m.i<m.i
   omega
 | rep a t c d u w =>
  rcases ZoR p s a t c d u w with e | ⟨q,hf,⟨y,e⟩ | e⟩
  ·rw [e];exact hm
  ·rw [e];exact hm.sublist List.filter_sublist
  ·rw [e];exact hm.sublist List.filter_sublist
 | clk a t=>exact hm.sublist List.filter_sublist
def okC (r:Option Int):Bool:=match r with
 | some c=>decide (c=0)
 | none=>false
theorem Zo0 {r:Option Int} (h:okC r=true):r=some 0:=by
 cases r with
 | none=>cases h
 | some c=>rw [of_decide_eq_true (show decide (c=0)=true from h)]
theorem Zpw (m:Nat):((List.range 64).all fun k=>okC (RL (m+60) (iV (k:Nat))))=true:=by kernel_rfl
theorem Zpp (m:Nat):((List.range 6).all fun k=>(List.range 4).all fun v=>okC (RL (m+60) (ZaI (k:Nat) (v:Nat))))=true:=by kernel_rfl
theorem Zpu (n:Nat) (hn:100<=n) (k:Nat) (hk:k<64):RL n (iV k)=some 0:=by
 obtain ⟨m,rfl⟩:∃ m,n=m+60:=⟨n-60,by omega⟩
 exact Zo0 (List.all_eq_true.1 (Zpw m) k (List.mem_range.2 hk))
theorem Zpt (n:Nat) (hn:100<=n) (k v:Nat) (hk:k<6) (hv:v<4):RL n (ZaI k v)=some 0:=by
 obtain ⟨m,rfl⟩:∃ m,n=m+60:=⟨n-60,by omega⟩
 exact Zo0 (List.all_eq_true.1 (List.all_eq_true.1 (Zpp m) k (List.mem_range.2 hk)) v (List.mem_range.2 hv))
theorem ZoX (n:Nat) (hn:100<=n) (i:Nat) (hi:i<=900):Zn0 n ((i:Int)+1,[1])=some 0:=by
 obtain ⟨q,rfl⟩:∃ q,n=q+2:=⟨n-2,by omega⟩
 have e:∀ x:Int,Zn0 (q+2) (x,[1])=if (decide (x<1))||(decide (1048576<x)) then AM else some 0:=fun _=>rfl
 rw [e,Ac,Ac]
 rfl
theorem Zpf (n:Nat) (hn:100<=n) (m:CM) (hi:m.i<=900) (hk:m.k<6) (hv:m.v<4):ZnX n (B5 m)=some 0:=by
 have b:Zn0 n (B5 m).stamp=some 0:=ZoX n hn m.i hi
 have d:ZnZ (B5 m).mass=false:=by
  show (decide (100+(m.i:Int)<0)||decide (1099511627776<100+(m.i:Int)))=false
  rw [Ac,Ac];rfl
 have f:decide ((((B5 m).origins.length:Nat):Int)=0)=false:=rfl
 have j:decide ((4096:Int)<(((B5 m).origins.length:Nat):Int))=false:=rfl
 have o:Zn4 n (B5 m).body=some 0:=by
  have e:Zn4 n (B5 m).body=(RL n (ZaI m.k m.v)).bind fun h=>some h:=rfl
  rw [e,Zpt n hn m.k m.v hk hv];rfl
 have l:decide ((0:Int)<(((B5 m).origins.length:Nat):Int))=true:=rfl
 have r:decide ((0:Int)+1<(((B5 m).origins.length:Nat):Int))=false:=rfl
 have c:Dw (B5 m).origins 0=some ((m.i:Int)+1):=rfl
 have g:ZnQ ((m.i:Int)+1)=true:=by
  rw [ZnQ,Ag (by omega),Ag (by omega)];rfl
 have p:∀ q,Zmr n (B5 m) (q+2) 0=some 0:=fun q=>by
  rw [Zmr,l,Ah rfl,c,Ae,g,Ai (by decide),Ai (by decide),Ah (by decide),Zmr,r,Ai (by decide),Zn3,o]
  rfl
 obtain ⟨q,hq⟩:∃ q,n=q+2:=⟨n-2,by omega⟩
 have a:=p q
 rw [<-hq] at a
 rw [ZnX,b,Ae,Ai (by decide),d,Ai (by decide),f,Ai (by decide),j,Ai (by decide),a]
theorem Zo4 (n:Nat) (hn:100000<=n) (W:List CM) (hW:W.length<=200) (e:CE) (hne:∀ m∈W,m.i≠e.m.i) (ht:0<=e.t/\e.t<=1000000) (hi:e.m.i<=900) (hk:e.m.k<6) (hv:e.m.v<4) :
  ZmX n (Chk.mk (W.map B5) 0) (BS e)=some (0,Chk.mk ((W++[e.m]).map B5) 0):=by
 have c:Zgj (BS e).number (BS e).time=some 0:=by
  show Zgj 0 e.t=some 0
  rw [Zgj,Af (show ¬ (0:Int) < -999999999999999 by decide),Af (show ¬ (999999999999999:Int)<0 by decide),Ac,Ac]
  rfl
 have r:decide ((0:Int)<(((BS e).items.length:Nat):Int))=true:=rfl
 have u:decide ((0:Int)+1<(((BS e).items.length:Nat):Int))=false:=rfl
 have d:Dw (BS e).items 0=some (B5 e.m):=rfl
 have g:decide ((((W.map B5).length:Nat):Int)=256)=false:=Af (by rw [List.length_map];omega)
 have f:=Zpf n (by omega) e.m hi hk hv
 have o:=ZoV n (by omega) (W.map B5) (fun (x0:Msg)=>Zkn n x0 (B5 e.m)) (fun x w=>by
  obtain ⟨m,l,rfl⟩:=List.mem_map.1 w
  have hs:Ed n (B5 m).stamp (B5 e.m).stamp=some false:=by
   rw [Xg n (by omega) _ _ (by simp [B5])]
   refine congrArg some (Af fun q=>hne m l ?_)
   have:=congrArg Prod.fst q
   have this:(m.i:Int)+1=(e.m.i:Int)+1:=this
   omega
  rw [Zkn,hs];rfl) (by rw [List.length_map];omega)
 have j:∀ q p,ZnC n (Chk.mk (W.map B5) 0) (BS e) (q+1) p=some (0,Chk.mk p 0):=fun q p=>rfl
 have h:∀ q,Zfi n (Chk.mk (W.map B5) 0) (BS e) (q+2) 0 (W.map B5)=some (0,Chk.mk (W.map B5++[B5 e.m]) 0):=fun q=>by
  obtain ⟨q2,hq2⟩:∃ q,n=q+1:=⟨n-1,by omega⟩
  have a:=j q2 (W.map B5++[B5 e.m])
  rw [<-hq2] at a
  rw [Zfi,r,Ah rfl,d,Ae,g,Ai (by decide),f,Ae,Ai (by decide),o,Ae,Ai (by decide),Ah (by rw [List.length_map];omega),Ah (by decide),Zfi,u,Ai (by decide),ZnO,a]
 obtain ⟨q,hq⟩:∃ q,n=q+2:=⟨n-2,by omega⟩
 have b:=h q
 rw [<-hq] at b
 have s:Zfi n (Chk.mk (W.map B5) 0) (BS e) n 0 (Chk.mk (W.map B5) 0).items=some (0,Chk.mk (W.map B5++[B5 e.m]) 0):=b
 rw [ZmX,c,Ae,Ai (by decide),s,List.map_append]
 rfl
structure StChk (s:CS):Prop where
 len:s.es.length<=6
 num:s.num<=40
 inc:s.es.Pairwise fun a b=>a.num<b.num
 mi:s.es.Pairwise fun a b=>a.m.i<b.m.i
 rng:∀ e∈s.es,1<=e.num/\e.num<=s.num
 tim:∀ e∈s.es,0<=e.t/\e.t<=1000000
 msg:∀ e∈s.es,e.m.i<=900/\e.m.k<6/\e.m.v<4
theorem Zo6 (n:Nat) (hn:100000<=n) (s:CS) (h:StChk s) (again:Int->List Msg->Int->Option Int) (i:Nat) (hlt:i<s.es.length) :
  ZnP n again (i:Int) 0 (BS s.es[i]) (((s.es.take i).map (·.m)).map B5)=again ((i:Int)+1) (((s.es.take (i+1)).map (·.m)).map B5) 0:=by
 have a:=List.getElem_mem hlt
 have f:=h.len
 have hs:=Zo4 n hn ((s.es.take i).map (·.m)) (by rw [List.length_map,List.length_take];omega) s.es[i] (fun m c=>by
  obtain ⟨e,d,rfl⟩:=List.mem_map.1 c
  obtain ⟨q,b,rfl⟩:=List.mem_iff_getElem.1 d
  rw [List.length_take] at b
  rw [List.getElem_take]
  have:=(List.pairwise_iff_getElem.1 h.mi) q i (by omega) hlt (by omega)
  omega) (h.tim _ a) (h.msg _ a).1 (h.msg _ a).2.1 (h.msg _ a).2.2
 rw [ZnP,hs,Ae]
 show (if (!(decide ((0:Int)=0)))=true then _ else _)=_
 rw [Ai (by decide),Ah (A8 (by omega)),<-List.take_append_getElem hlt]
 simp only [List.map_append,List.map_cons,List.map_nil]
theorem ZoN (n:Nat) (hn:100000<=n) (s:CS) (h:StChk s):∀ (k m i:Nat),i+k=s.es.length->k<m->ZiK n (Aw s) m (i:Int) (((s.es.take i).map (·.m)).map B5) 0=some 0
 | k,0,i,_,h=>absurd h (Nat.not_lt_zero _)
 | 0,m+1,i,hi,_=>by
  have b:(Aw s).slots.length=s.es.length:=by simp [Aw]
  rw [ZiK,b,A4,Ac,Ai (by decide)]
  rfl
 | k+1,m+1,i,hi,hm=>by
  have a:i<s.es.length:=by omega
  have b:(Aw s).slots.length=s.es.length:=by simp [Aw]
  have j:i<(Aw s).slots.length:=by omega
  have u:(Aw s).slots[i]=BS s.es[i]:=by simp [Aw]
  have v:=h.rng _ (List.getElem_mem a)
  have q:=h.num
  have p:=h.len
  have r:RL n (BS s.es[i]).key=some 0:=Zpu n (by omega) s.es[i].num (by omega)
  have g:=Zo6 n hn s h (ZiK n (Aw s) m) i a
  have ih:=ZoN n hn s h k m (i+1) (by omega) (by omega)
  have t:((!(decide ((0:Int)=0)))&&(!(ES (BS s.es[i]).key)))=false:=rfl
  rw [ZiK,b,A4,Ag a,Ah rfl,Bj j,Ae,u,r,Ae,t,Ai (by decide)]
  by_cases c:0<i
  ·have f:i-1<(Aw s).slots.length:=by omega
   have l:i-1<s.es.length:=by omega
   have o:(Aw s).slots[i-1]=BS s.es[i-1]:=by simp [Aw]
   have w:=(List.pairwise_iff_getElem.1 h.inc) (i-1) i l a (by omega)
   have d:CB n (BS s.es[i]).key (BS s.es[i-1]).key=some 1:=by
    have e:CB n (BS s.es[i]).key (BS s.es[i-1]).key=some (if (s.es[i].num:Int)<(s.es[i-1].num:Int) then -1 else if (s.es[i].num:Int)=(s.es[i-1].num:Int) then 0 else 1):=Zc n (by omega) _ _
    rw [e,Aa,Aa]
   rw [Ag (by omega),Ah rfl,Ah (by unfold BN;omega),show (i:Int)-1=((i-1:Nat):Int) by omega,Bj f,Ae,o,d,Ae,Ai (by decide),Ai (by decide)]
   exact g.trans ih
  ·rw [Ac,Ai (by decide)]
   exact g.trans ih
theorem Zpb (n:Nat) (hn:100000<=n) (s:CS) (h:StChk s):Zn7 n (Aw s)=some 0:=by
 have d:=h.len
 have a:=h.num
 have b:Zgj (Aw s).number (Aw s).time=some 0:=by
  show Zgj (s.num:Int) 0=some 0
  rw [Zgj,Ac,Ac,Ac,Ac]
  rfl
 have c:decide ((1024:Int)<(((Aw s).slots.length:Nat):Int))=false:=Af (by simp only [Aw,List.length_map];omega)
 rw [Zn7,b,Ae,Ai (by decide),c,Ai (by decide)]
 exact ZoN n hn s h s.es.length n 0 (by omega) (by omega)
theorem ZoI (n:Nat) (s:CS) (h:StChk s):∀ (k m i:Nat),i+k=s.es.length->k<m->Zgb n (Aw s) m (i:Int)=some 0
 | k,0,i,_,h=>absurd h (Nat.not_lt_zero _)
 | 0,m+1,i,hi,_=>by
  have a:(Aw s).slots.length=s.es.length:=by simp [Aw]
  rw [Zgb,a,A4,Ac,Ai (by decide)]
  rfl
 | k+1,m+1,i,hi,hm=>by
  have b:i<s.es.length:=by omega
  have a:(Aw s).slots.length=s.es.length:=by simp [Aw]
  have c:i<(Aw s).slots.length:=by omega
  have j:(Aw s).slots[i]=BS s.es[i]:=by simp [Aw]
  have o:=h.rng _ (List.getElem_mem b)
  have p:=h.len
  have e:(!(decide ((BS s.es[i]).key.kind=2)))=false:=rfl
  have l:((decide ((BS s.es[i]).key.int<1))||(decide ((Aw s).number<(BS s.es[i]).key.int)))=false:=by
   show (decide ((s.es[i].num:Int)<1)||decide ((s.num:Int)<(s.es[i].num:Int)))=false
   rw [Ac,Ac];rfl
  have f:((!(decide ((BS s.es[i]).number=0)))||(decide (0<(((BS s.es[i]).values.length:Int)))))=false:=rfl
  have g:decide ((((BS s.es[i]).items.length:Int))=0)=false:=rfl
  have d:decide (1<(((BS s.es[i]).items.length:Int)))=false:=rfl
  rw [Zgb,a,A4,Ag b,Ah rfl,Bj c,Ae,j,e,Ai (by decide),l,Ai (by decide),f,Ai (by decide),g,Ai (by decide),d,Ai (by decide),Ah (A8 (by omega))]
  exact ZoI n s h k m (i+1) (by omega) (by omega)
theorem Zo8 (n:Nat) (hn:100000<=n) (p:CP) (s:CS) (h:StChk s):ZmW n (Be p) (Aw s)=some 0:=by
 have e:=h.len
 have a:=h.num
 have b:(!(decide ((Be p).kind=9)))=false:=rfl
 have d:((decide ((Aw s).number<0))||(decide (1099511627776<(Aw s).number)))=false:=by
  show (decide ((s.num:Int)<0)||decide (1099511627776<(s.num:Int)))=false
  rw [Ac,Ac];rfl
 have c:(!(decide ((Aw s).time=0)))=false:=rfl
 rw [ZmW,b,Ai (by decide),Zpb n hn s h,Ae,Ai (by decide),d,Ai (by decide),c,Ai (by decide)]
 exact ZoI n s h s.es.length n 0 (by omega) (by omega)
theorem ZoM (n:Nat) (s:CS) (hl:s.es.length<=900):∀ (k m i:Nat) (x:Int) (y:Bool),i+k=s.es.length->k<m->(y=true->∃ e∈s.es,x=e.t/\0<e.t)->∃ t b,ZnD n (Aw s) m x y (i:Int)=some (t,b)/\(b=true->∃ e∈s.es,t=e.t/\0<e.t)
 | k,0,i,_,_,_,h,_=>absurd h (Nat.not_lt_zero _)
 | 0,m+1,i,x,y,hi,_,h=>by
  have a:(Aw s).slots.length=s.es.length:=by simp [Aw]
  rw [ZnD,a,A4,Ac,Ai (by decide)]
  exact ⟨x,y,rfl,h⟩
 | k+1,m+1,i,x,y,hi,hm,h=>by
  have c:i<s.es.length:=by omega
  have a:(Aw s).slots.length=s.es.length:=by simp [Aw]
  have d:i<(Aw s).slots.length:=by omega
  have g:(Aw s).slots[i]=BS s.es[i]:=by simp [Aw]
  have f:(BS s.es[i]).time=s.es[i].t:=rfl
  rw [ZnD,a,A4,Ag c,Ah rfl,Bj d,Ae,g,f,Zn1,Zn1,Ah (A8 (by omega)),Ah (A8 (by omega))]
  split
  ·rename_i hc
   rw [Bool.and_eq_true] at hc
   exact ZoM n s hl k m (i+1) _ _ (by omega) (by omega) fun _=>⟨s.es[i],List.getElem_mem c,rfl,of_decide_eq_true hc.1⟩
  ·exact ZoM n s hl k m (i+1) _ _ (by omega) (by omega) h
theorem Zpd (n:Nat) (hn:1000<=n) (s:CS) (hl:s.es.length<=900):∃ t b,Zn9 n (Aw s)=some (t,b)/\(b=true->∃ e∈s.es,t=e.t/\0<e.t) :=
 ZoM n s hl s.es.length n 0 0 false (by omega) (by omega) fun h=>by cases h
theorem ZoZ (n:Nat) (again:Int->Option Bool) (x8:Int) (o:CO) (hl:o.st.es.length<=900) (hi:o.st.es.Pairwise fun a b=>a.num<b.num):∀ (k m i:Nat),i+k=o.st.es.length->k<m ->
  ZdH n again x8 (Hi o) (o.st.es.map fun e=>(e.num:Int)) m (i:Int)=ZeU n again x8
 | k,0,i,_,h=>absurd h (Nat.not_lt_zero _)
 | 0,m+1,i,hik,_=>by
  rw [ZdH,List.length_map,A4,Ac,Ai (by decide)]
 | k+1,m+1,i,hik,hm=>by
  have f:i<o.st.es.length:=by omega
  have j:(Hi o).state.slots.length=o.st.es.length:=by show (o.st.es.map BS).length=_;rw [List.length_map]
  have g:i<(Hi o).state.slots.length:=by omega
  have l:(Hi o).state.slots[i]=BS o.st.es[i]:=by simp [Hi,Aw]
  have hd:decide ((o.st.es[i].num:Int)=(BS o.st.es[i]).key.int)=true:=Ag rfl
  have ih:=ZoZ n again x8 o hl hi k m (i+1) (by omega) (by omega)
  rw [ZdH,List.length_map,A4,Ag f,Ah rfl,Bj (by rw [List.length_map];exact f),Ae,List.getElem_map,Bj g,Ae,l,hd,Ai (by decide)]
  by_cases c:0<i
  ·have d:i-1<o.st.es.length:=by omega
   have p:=(List.pairwise_iff_getElem.1 hi) (i-1) i d f (by omega)
   rw [Ag (by omega),Ah rfl,Ah (by unfold BN;omega),show (i:Int)-1=((i-1:Nat):Int) by omega,Bj (by rw [List.length_map];exact d),Ae,List.getElem_map,Ac,Ai (by decide),Ah (A8 (by omega))]
   exact ih
  ·rw [Ac,Ai (by decide),Ah (A8 (by omega))]
   exact ih
theorem ZoW (n:Nat) (again:Int->Option Bool) (x8:Int) (o:CO) (hl:o.st.es.length<=900) (hi:o.st.es.Pairwise fun a b=>a.num<b.num):∀ (k m i:Nat),i+k=o.st.es.length->k<m ->
  Zde n again x8 (Hi o) (o.st.es.map fun e=>(e.num:Int)) m (i:Int)=ZeU n again x8
 | k,0,i,_,h=>absurd h (Nat.not_lt_zero _)
 | 0,m+1,i,hik,_=>by
  rw [Zde,List.length_map,A4,Ac,Ai (by decide)]
 | k+1,m+1,i,hik,hm=>by
  have f:i<o.st.es.length:=by omega
  have j:(Hi o).state.slots.length=o.st.es.length:=by show (o.st.es.map BS).length=_;rw [List.length_map]
  have g:i<(Hi o).state.slots.length:=by omega
  have l:(Hi o).state.slots[i]=BS o.st.es[i]:=by simp [Hi,Aw]
  have hd:decide ((o.st.es[i].num:Int)=(BS o.st.es[i]).key.int)=true:=Ag rfl
  have ih:=ZoW n again x8 o hl hi k m (i+1) (by omega) (by omega)
  rw [Zde,List.length_map,A4,Ag f,Ah rfl,Bj (by rw [List.length_map];exact f),Ae,List.getElem_map,Bj g,Ae,l,hd,Ai (by decide)]
  by_cases c:0<i
  ·have d:i-1<o.st.es.length:=by omega
   have p:=(List.pairwise_iff_getElem.1 hi) (i-1) i d f (by omega)
   rw [Ag (by omega),Ah rfl,Ah (by unfold BN;omega),show (i:Int)-1=((i-1:Nat):Int) by omega,Bj (by rw [List.length_map];exact d),Ae,List.getElem_map,Ac,Ai (by decide),Ah (A8 (by omega))]
   exact ih
  ·rw [Ac,Ai (by decide),Ah (A8 (by omega))]
   exact ih
theorem Zpk {p:CP} (hp:p.ok) {s:CS} {now:Int} {k:Nat} (h:s.ok p now k) (hk:k<=40) (hnow:now<=100000) (hm:s.es.Pairwise fun a b=>a.m.i<b.m.i):StChk s:=by
 have d:=h.len
 have f:=h.num
 have g:=hp.lim
 have j:=hp.T1
 refine ⟨by omega,by omega,h.inc,hm,h.rng,fun e c=>?_,fun e c=>⟨by have:=(h.msg e c).1;omega,(h.msg e c).2⟩⟩
 rcases h.tim e c with q | q
 ·omega
 ·omega
theorem Zo3 {j:CI} (h:j.fit):j.now<=100000:=by
 cases j with
 | msg m t=>exact h.2.2
 | rep i t c d u w=>exact h.2.2
 | clk i t=>exact h.2
theorem ZoY (n:Nat) (hn:100000<=n) (p:CP) (hp:p.ok) (js:List CI) (hjs:js.length<=40) (outs:List Otc):∀ (l:List CI) (m i:Nat) (s:CS) (now:Int),js.drop i=l->i<=js.length->outs.drop i=(ZZ p s l).map Hi->s.ok p now i->(s.es.Pairwise fun a b=>a.m.i<b.m.i)->VW now i l->l.length<m ->
  ZaJ n (Be p) (js.map B9) outs m (i:Int)=some true
 | l,0,_,_,_,_,_,_,_,_,_,h=>absurd h (Nat.not_lt_zero _)
 | [],m+1,i,s,now,hd,hi,ho,hs,hmi,hch,hm=>by
  have:=ZoQ hd hi
  rw [ZaJ,List.length_map,A4,Ac,Ai (by decide)]
  rfl
 | j::l,m+1,i,s,now,hd,hi,ho,hs,hmi,hch,hm=>by
  obtain ⟨v,hj,G⟩:=ZoK hd
  obtain ⟨U,Q,N⟩:=ZoK (show outs.drop i=Hi (Du p s j)::(ZZ p (Du p s j).st l).map Hi from ho)
  obtain ⟨V,c2,c3,c4,Z⟩:=hch
  have C:=Yn hp hs V c3
  have q:=Zo5 (p:=p) hs hmi V
  have ih:=ZoY n hn p hp js hjs outs l m (i+1) (Du p s j).st j.now G v N C q Z (by simpa using hm)
  have k:=Zpk hp C (by omega) (Zo3 c2) q
  have aa:=k.len
  obtain ⟨t,b,y,H⟩:=Zpd n (by omega) (Du p s j).st (by omega)
  have g:Zn9 n (Hi (Du p s j)).state=some (t,b):=y
  have r:ZnT n (Be p) (Hi (Du p s j)).state=some (t,b):=by rw [ZnT,g];rfl
  have z:ZmW n (Be p) (Hi (Du p s j)).state=some 0:=Zo8 n hn p _ k
  have f:Zm2 n (Hi (Du p s j)).state=some ((Du p s j).st.es.map fun e=>(e.num:Int)):=Zpc n (by omega) _ (by omega)
  have o:(!(decide (((((Du p s j).st.es.map fun e=>(e.num:Int)).length:Nat):Int)=(((Hi (Du p s j)).state.slots.length:Nat):Int))))=false:=by
   have:(Hi (Du p s j)).state.slots.length=(Du p s j).st.es.length:=by show ((Du p s j).st.es.map BS).length=_;rw [List.length_map]
   rw [this,List.length_map,Ag rfl];rfl
  have hz:(((!(decide ((0:Int)=0)))||(!(decide (t=t))))||(b != b))=false:=by simp
  have E:ZeU n (ZaJ n (Be p) (js.map B9) outs m) (i:Int)=some true:=by
   rw [ZeU,Ah (A8 (by omega))]
   exact ih
  have O:=ZoZ n (ZaJ n (Be p) (js.map B9) outs m) (i:Int) (Du p s j) (by omega) k.inc (Du p s j).st.es.length n 0 (by omega) (by omega)
  have K:=ZoW n (ZaJ n (Be p) (js.map B9) outs m) (i:Int) (Du p s j) (by omega) k.inc (Du p s j).st.es.length n 0 (by omega) (by omega)
  rw [ZaJ,List.length_map,A4,Ag v,Ah rfl,Bj U,Ae,Q,r,Ae,g,Ae,z,Ae]
  show (if (((!(decide ((0:Int)=0)))||(!(decide (t=t))))||(b != b))=true then _ else _)=_
  rw [hz,Ai (by decide),Bj (by rw [List.length_map];exact v),Ae,List.getElem_map,hj]
  by_cases c:((decide ((B9 j).kind=2))&&b)=true
  ·rw [Ah (show ((decide ((B9 j).kind=2))&&(t,b).2)=true from c)]
   rw [Bool.and_eq_true] at c
   obtain ⟨e,J,rfl,D⟩:=H c.2
   have x:¬ e.t<=(B9 j).time:=by
    cases j with
    | msg m t=>exact absurd (of_decide_eq_true c.1) (by simp [B9])
    | rep a t c' d u w=>exact absurd (of_decide_eq_true c.1) (by simp [B9])
    | clk a t =>
     have J:e∈s.es.filter fun e => !Hn t e:=J
     have Y:=(List.mem_filter.1 J).2
     intro F
     have:Hn t e=true:=by
      unfold Hn
      rw [Ag D,Ag (show e.t<=t from F)];rfl
     rw [this] at Y
     exact absurd Y (by decide)
   show (if decide (e.t<=(B9 j).time)=true then _ else _)=_
   rw [Af x,Ai (by decide),f,Ae,o,Ai (by decide)]
   exact O.trans E
  ·rw [Ai (show ¬ ((decide ((B9 j).kind=2))&&(t,b).2)=true from c),f,Ae,o,Ai (by decide)]
   exact K.trans E
theorem ZoL (n:Nat) (hn:100000<=n) (sk:Int × Int × Int × Int) (evs:List (Int × Int × Int × Int)) (hsk:ev4 sk) (hev:∀ e∈evs,ev4 e):Zny n sk evs=some true:=by
 have b:=Ziw hsk
 have a:=Uz evs 0 0 (Int.le_refl _) (by omega) hev
 have c:=RP _ 0 0 a (by omega)
 rw [Zny,ZV n (by omega),Ae,Bool.not_true,Ai (by decide),ZaB hsk,Ae,ZbM n (by omega) evs hev,Ae,Zjn n hn _ b _ a,Ae]
 exact ZoY n hn _ b _ (by omega) _ (RO 0 0 evs) n 0 ⟨0,[]⟩ 0 rfl (Nat.zero_le _) rfl (CS.ok0 _) .nil a (by omega)
end Go.Proofs.YtbfenpeblbonlaaGreatDoor
