/-
  Part 12 of the proof: rules and walks that the claim's last text uses.
-/
import Derived.Carry
import Derived.ChangeOld
import Derived.ChangeSlices
import Derived.Deep.DeepHandedRow
import Derived.Deep.DeepWitnessRowRef
import Derived.Lib.LaidIn
import Derived.Lib.LaidU8T
import Derived.PinnedBridge
import Derived.ProofKit
import Derived.SevenTiedAt
import Derived.SizedLaws
import Derived.Test.YtbfenpeblbonlaaGreatDoorCards
import Derived.Test.YtbfenpeblbonlaaGreatDoorTie
import Derived.Test.YtbfenpeblbonlaaGreatDoorCb1
import Derived.Test.YtbfenpeblbonlaaGreatDoorCb2
import Derived.Test.YtbfenpeblbonlaaGreatDoorCb3
import Derived.Test.YtbfenpeblbonlaaGreatDoorCb4
import Derived.Test.YtbfenpeblbonlaaGreatDoorCb5
import Derived.Test.YtbfenpeblbonlaaGreatDoorCb6
import Derived.Test.YtbfenpeblbonlaaGreatDoorCb7
import Derived.Test.YtbfenpeblbonlaaGreatDoorCb8
import Derived.Test.YtbfenpeblbonlaaGreatDoorCb9
import Derived.Test.YtbfenpeblbonlaaGreatDoorCb10
import Derived.Test.YtbfenpeblbonlaaGreatDoorCb11
set_option linter.unusedSimpArgs false
set_option linter.unusedVariables false
set_option maxRecDepth 100000
set_option maxHeartbeats 4000000
namespace Go.Ev
open Go Go.RowKit
theorem ZnX {W:World} {v u t:Value} {x y z:AV} (h:R W Mem.start W v x) (k:R W Mem.start W u y) (l:R W Mem.start W t z):RowR W Mem.start W #[v,u,t] [x,y,z]:=⟨rfl,fun i b a=>by
 have:i=0\/i=1\/i=2:=by simp at a;omega
 rcases this with rfl | rfl | rfl
 ·exact h
 ·exact k
 ·exact l⟩
end Go.Ev
namespace Go.Proofs.YtbfenpeblbonlaaGreatDoor
open Go Go.Shelf Go.ChangeShapes Go.WideShapes Go.ChangeAt Go.RowKit Go.Lib Go.Ev
open Go.ChangeMaps (open_string shut_string)
set_option maxRecDepth 100000
end Go.Proofs.YtbfenpeblbonlaaGreatDoor
namespace Go.Proofs.YtbfenpeblbonlaaGreatDoor
open Go Go.RowKit Go.Ev
theorem ZaR:∀ a b:List UInt8,Lib.compareBytes a b=0->a=b
 | [],[],_=>rfl
 | [],_::_,h=>absurd (show (-1:Int)=0 from h) (by decide)
 | _::_,[],h=>absurd (show (1:Int)=0 from h) (by decide)
 | x::a,y::b,h=>by
  simp only [Lib.compareBytes] at h
  by_cases h1:x<y
  ·simp [h1] at h
  ·by_cases h2:y<x
   ·simp [h1,h2] at h
   ·simp only [h1,h2,if_false] at h
    rw [ZaR a b h]
    have:x=y:=by
     rw [UInt8.lt_iff_toNat_lt] at h1 h2
     exact UInt8.toNat_inj.1 (by omega)
    rw [this]
theorem VY (a b:ByteArray):VV a b=0<->a=b:=by
 unfold VV
 constructor
 ·intro h;exact ZL (ZaR _ _ h)
 ·rintro rfl;exact W5 _
theorem OX {α:Type} (l m:List α) (i:Nat) (h1:i<l.length) (h2:i<m.length):l.drop i=m.drop i<->l[i]=m[i]/\l.drop (i+1)=m.drop (i+1):=by
 rw [List.drop_eq_getElem_cons h1,List.drop_eq_getElem_cons h2,List.cons.injEq]
def GW (n:Nat)  : Option Bool :=
 some (true)
def BZ (n:Nat) (g:List Vl) (a1:List Vl) (a2:Vl->Vl->Option Bool):Nat->Int->Option Bool
 | 0,_=>none
 | m+1,b =>
  if decide (b<(g.length:Int)) then
   (Dw g b).bind fun y =>
   (Dw a1 b).bind fun q =>
   (a2 y q).bind fun h =>
   if !h then
    some (false)
   else
    if BN (b+1) then
     (BZ n g a1 a2 m) (b+1)
    else none
  else
   GW n 
def Ef (n:Nat) (b:List Vl) (g:List Vl) (h:Vl->Vl->Option Bool):Option Bool :=
 if !(decide ((b.length:Int)=(g.length:Int))) then
  some (false)
 else
  BZ n b g h n 0
theorem Oa (w0:World) (n:Nat) (B:Ao) (Rw:Ap) (L:Aq) (a0:List Vl) (a1:List Vl) (fa2:FuncId) (ca2:List AV) (a2:Vl->Vl->Option Bool) (ha2:∀ (x0:Vl) (x1:Vl) r,a2 x0 x1=some r->∀ B' rows,B <+: B'->Rw <+: rows->ACalls Tryz.prog w0 fa2 ([.agg (x0.cs),.agg (x1.cs)]++ca2) ⟨B',rows,L⟩ fun v s=>v = .val (.bool r)/\s=⟨B',rows,L⟩) (r:Bool) (h:Ef n a0 a1 a2=some r) :
  ACalls Tryz.prog w0 73 [.list (a0.map En) .none,.list (a1.map En) .none,.clo fa2 ca2] ⟨B,Rw,L⟩ fun x st=>x = .val (.bool r)/\st=⟨B,Rw,L⟩:=by
 rw [Ef] at h
 refine hd [.tmp 6] Tryz.func73 Tryz.ntmps73 fun M0 W0 l i g c o f hs=>?_
 simp only [Ax]
 have d:=Cc (o (.clo fa2 ca2) (by simp))
 refine rg [0,1,2] hs ?_
 apply Am;intro K2 j
 refine rg [0,1,2,14] hs ?_
 refine B6 h hs ?_ ?_<;>intro hs h
 ·refine rg [6] hs ?_
  exact rt h hs c f
 refine sk [0,1,2] hs j ?_
 clear j
 refine AD (fun e st=>Ck e st B Rw L [] [] [] (GW n  = some r)) ?_ ?_
 ·intro K8 k
  refine rg [1,2,15,16,17] hs ?_
  apply Ar
  refine AA (fun m e st=>∃ (b:Int),Ck e st B Rw L [(1,true,.list (a1.map En) .none),(2,true,.clo fa2 ca2),(15,true,.list (a0.map En) .none),(16,true,Ak (a0.length:Int)),(17,true,Ak b)] [] [] (BZ n a0 a1 a2 m b=some r)) n ⟨0,([]),Rw,ef hs,ef hs,f,h⟩ ?_
  rintro ml10 e st ⟨b,Xl10,Rl10,rfl,rfl,f,h⟩ Ul10 Vl10
  cases ml10 with
  | zero=>cases h
  | succ ml10 =>
  rw [BZ] at h
  refine AO l i g rfl c f (H8 d f) (H8 d f) ?_
  exact go (tg (a:=([1,2,15,16,17,18],([1,2,15,16,17],[1,2,7,8,15,16,17],[1,2,8,9,15,16,17],[1,2,15,16,17,30],([6],()),[1,2,15,16,17],[1,2,15,16,17],()),[],()))) h hs l i g c f (q1 ha2) (q2 k (fun e s=>Vl10 ml10 e s (Nat.lt_succ_self _)))
 ·clear h;rintro e st ⟨Xk7,Rk7,rfl,rfl,f,h⟩
  rw [GW] at h
  refine AO l i g rfl c f (H8 d f) (H8 d f) ?_
  refine rg [6] hs ?_
  exact rt h hs c f
def DT (n:Nat) (b:Vl) (g:Vl):Option Bool :=
 (CB n b g).bind fun h =>
 some (decide (h=0))
theorem KB (w0:World) (n:Nat) (B:Ao) (Rw:Ap) (L:Aq) (a0:Vl) (a1:Vl) (r:Bool) (h:DT n a0 a1=some r) :
  ACalls Tryz.prog w0 43 [.agg (a0.cs),.agg (a1.cs)] ⟨B,Rw,L⟩ fun x st=>x = .val (.bool r)/\st=⟨B,Rw,L⟩:=by
 rw [DT] at h
 refine hd [.tmp 4] Tryz.func43 Tryz.ntmps43 fun M0 W0 f d c b g e hs=>?_
 simp only [Ax]
 exact go (tg (a:=([2,3],[4],()))) h hs f d c b e (q1 (Nr w0 n)) trivial
theorem ZM {a b:Nat}:decide ((a:Int)<=(b:Int))=decide (a<=b):=decide_eq_decide.2 ⟨fun h=>by omega,fun h=>by omega⟩
theorem UF (n:Nat) (a b:List (Vl)) (f:Vl->Vl->Option Int) (hl:a.length<=1000000000)
  (hr:∀ p∈a,∀ q∈b,∃ c,f p q=some c/\(c=0<->p=q)):∀ (k m i:Nat),i+k=a.length->k<m->∃ c,BR n a b f m i=some c/\(c=0<->a.drop i=b.drop i)
 | k,0,i,_,h=>absurd h (Nat.not_lt_zero _)
 | 0,m+1,i,hi,_=>by
  rw [BR,A4,Ac]
  simp only [Bool.false_eq_true,if_false]
  rw [Ew,A4,List.drop_eq_nil_of_le (show a.length<=i by omega)]
  by_cases h:a.length<b.length
  ·rw [Ag h]
   simp only [if_true]
   exact ⟨-1,rfl,⟨fun h=>absurd h (by decide),fun e=>by have:=List.drop_eq_nil_iff.1 e.symm;omega⟩⟩
  ·rw [Af h]
   simp only [Bool.false_eq_true,if_false]
   exact ⟨0,rfl,⟨fun _=>(List.drop_eq_nil_of_le (by omega)).symm,fun _=>rfl⟩⟩
 | k+1,m+1,i,hi,hm=>by
  have g:i<a.length:=by omega
  rw [BR,A4,Ag g]
  simp only [if_true,Bj g,Ae,ZM]
  by_cases d:i<b.length
  ·rw [Af (show ¬ b.length<=i by omega)]
   simp only [Bool.false_eq_true,if_false,Bj d,Ae]
   obtain ⟨c,e,j⟩:=hr _ (List.getElem_mem g) _ (List.getElem_mem d)
   rw [e,OX _ _ i g d]
   simp only [Ae]
   by_cases h0:c=0
   ·rw [Ag h0]
    simp only [Bool.not_true,Bool.false_eq_true,if_false]
    rw [Ah (A8 (by omega))]
    obtain ⟨l,o,d⟩:=UF n a b f hl hr k m (i+1) (by omega) (by omega)
    exact ⟨l,o,d.trans ⟨fun h=>⟨j.1 h0,h⟩,fun h=>h.2⟩⟩
   ·rw [Af h0]
    simp only [Bool.not_false,if_true]
    exact ⟨c,rfl,⟨fun h=>absurd h h0,fun h=>absurd (j.2 h.1) h0⟩⟩
  ·rw [Ag (show b.length<=i by omega)]
   simp only [if_true]
   refine ⟨1,rfl,⟨fun h=>absurd h (by decide),fun e=>?_⟩⟩
   rw [List.drop_eq_nil_of_le (show b.length<=i by omega)] at e
   have:=List.drop_eq_nil_iff.1 e
   omega
theorem Zm (n:Nat) (a b:List (Vl)) (f:Vl->Vl->Option Int) (hl:a.length<=1000000000) (hn:a.length<n)
  (hr:∀ p∈a,∀ q∈b,∃ c,f p q=some c/\(c=0<->p=q)):∃ c,DD n a b f=some c/\(c=0<->a=b) :=
 UF n a b f hl hr a.length n 0 (by omega) hn
theorem U5 (n:Nat) (a b:List (ByteArray × Vl)) (f:ByteArray × Vl->ByteArray × Vl->Option Int) (hl:a.length<=1000000000)
  (hr:∀ p∈a,∀ q∈b,∃ c,f p q=some c/\(c=0<->p=q)):∀ (k m i:Nat),i+k=a.length->k<m->∃ c,BQ n a b f m i=some c/\(c=0<->a.drop i=b.drop i)
 | k,0,i,_,h=>absurd h (Nat.not_lt_zero _)
 | 0,m+1,i,hi,_=>by
  rw [BQ,A4,Ac]
  simp only [Bool.false_eq_true,if_false]
  rw [Et,A4,List.drop_eq_nil_of_le (show a.length<=i by omega)]
  by_cases h:a.length<b.length
  ·rw [Ag h]
   simp only [if_true]
   exact ⟨-1,rfl,⟨fun h=>absurd h (by decide),fun e=>by have:=List.drop_eq_nil_iff.1 e.symm;omega⟩⟩
  ·rw [Af h]
   simp only [Bool.false_eq_true,if_false]
   exact ⟨0,rfl,⟨fun _=>(List.drop_eq_nil_of_le (by omega)).symm,fun _=>rfl⟩⟩
 | k+1,m+1,i,hi,hm=>by
  have g:i<a.length:=by omega
  rw [BQ,A4,Ag g]
  simp only [if_true,Bj g,Ae,ZM]
  by_cases d:i<b.length
  ·rw [Af (show ¬ b.length<=i by omega)]
   simp only [Bool.false_eq_true,if_false,Bj d,Ae]
   obtain ⟨c,e,j⟩:=hr _ (List.getElem_mem g) _ (List.getElem_mem d)
   rw [e,OX _ _ i g d]
   simp only [Ae]
   by_cases h0:c=0
   ·rw [Ag h0]
    simp only [Bool.not_true,Bool.false_eq_true,if_false]
    rw [Ah (A8 (by omega))]
    obtain ⟨l,o,d⟩:=U5 n a b f hl hr k m (i+1) (by omega) (by omega)
    exact ⟨l,o,d.trans ⟨fun h=>⟨j.1 h0,h⟩,fun h=>h.2⟩⟩
   ·rw [Af h0]
    simp only [Bool.not_false,if_true]
    exact ⟨c,rfl,⟨fun h=>absurd h h0,fun h=>absurd (j.2 h.1) h0⟩⟩
  ·rw [Ag (show b.length<=i by omega)]
   simp only [if_true]
   refine ⟨1,rfl,⟨fun h=>absurd h (by decide),fun e=>?_⟩⟩
   rw [List.drop_eq_nil_of_le (show b.length<=i by omega)] at e
   have:=List.drop_eq_nil_iff.1 e
   omega
theorem ZE (n:Nat) (a b:List (ByteArray × Vl)) (f:ByteArray × Vl->ByteArray × Vl->Option Int) (hl:a.length<=1000000000) (hn:a.length<n)
  (hr:∀ p∈a,∀ q∈b,∃ c,f p q=some c/\(c=0<->p=q)):∃ c,DL n a b f=some c/\(c=0<->a=b) :=
 U5 n a b f hl hr a.length n 0 (by omega) hn
theorem ZhL (n:Nat) (l:List Int) (hl:l.length<=1000000000):∀ (k m i:Nat),i+k=l.length->k<m->∃ c,Ec n l m i=some c/\(c=0<->∀ x∈l.drop i,x=0)
 | k,0,i,_,h=>absurd h (Nat.not_lt_zero _)
 | 0,m+1,i,hi,_=>by
  rw [Ec,A4,Ac]
  simp only [Bool.false_eq_true,if_false]
  exact ⟨0,rfl,by rw [List.drop_eq_nil_of_le (by omega)];simp⟩
 | k+1,m+1,i,hi,hm=>by
  have a:i<l.length:=by omega
  rw [Ec,A4,Ag a]
  simp only [if_true,Bj a,Ae]
  rw [List.drop_eq_getElem_cons a]
  by_cases h0:l[i]=0
  ·rw [Ag h0]
   simp only [Bool.not_true,Bool.false_eq_true,if_false]
   rw [Ah (A8 (by omega))]
   obtain ⟨b,e,d⟩:=ZhL n l hl k m (i+1) (by omega) (by omega)
   exact ⟨b,e,d.trans ⟨fun h x hx=>by rcases List.mem_cons.1 hx with rfl | hx;exact h0;exact h x hx,fun h x hx=>h x (List.mem_cons_of_mem _ hx)⟩⟩
  ·rw [Af h0]
   simp only [Bool.not_false,if_true]
   exact ⟨_,rfl,⟨fun h=>absurd h h0,fun h=>absurd (h _ (List.mem_cons_self ..)) h0⟩⟩
theorem ZdQ (n:Nat) (l:List Int) (hl:l.length<n) (h2:l.length<=1000000000):∃ c,EJ n l=some c/\(c=0<->∀ x∈l,x=0):=ZhL n l h2 l.length n 0 (by omega) hl
theorem Sr (a b:Int):(if a<b then (-1:Int) else if a=b then 0 else 1)=0<->a=b:=by
 by_cases h1:a<b
 ·rw [Ah h1];omega
 ·rw [Ai h1]
  by_cases h2:a=b
  ·simp [h2]
  ·simp [h2]
theorem Vl.lens' (v:Vl):v.list.length<v.size/\v.fields.length<v.size:=by have:=P8 v.list;have:=P1 v.fields;have:=v.size_eq;omega
theorem Oi:∀ (n:Nat) (a b:Vl),a.size+10<=n->a.size<=1000000000->∃ c,CB n a b=some c/\(c=0<->a=b)
 | 0,a,b,h,_=>by omega
 | n+1,a,b,h,hs=>by
  have w:=a.lens'
  rw [CB,Ip]
  obtain ⟨l,m,t⟩:=Zm n a.list b.list (fun x y=>CB n x y) (by omega) (by omega) (fun p d q _=>Oi n p q (by have:=a.list_size p d;omega) (by have:=a.list_size p d;omega))
  obtain ⟨g,j,i⟩:=ZE n a.fields b.fields (fun x y=>FX (CB n) n x y) (by omega) (by omega) (fun p d q _=>by
   obtain ⟨c,e,f⟩:=Oi n p.2 q.2 (by have:=a.field_size p d;omega) (by have:=a.field_size p d;omega)
   obtain ⟨g,j,i⟩:=ZdQ n [VV p.1 q.1,c] (by simp;omega) (by simp)
   refine ⟨g,by rw [FX,e,Ae,j];rfl,i.trans ?_⟩
   simp only [List.mem_cons,List.not_mem_nil,or_false,forall_eq_or_imp,forall_eq,VY,f]
   exact ⟨fun h=>Prod.ext h.1 h.2,fun h=>by rw [h];exact ⟨rfl,rfl⟩⟩)
  rw [m,Ae,j,Ae]
  obtain ⟨c,e,f⟩:=ZdQ n [if a.kind<b.kind then -1 else if a.kind=b.kind then 0 else 1,if a.int<b.int then -1 else if a.int=b.int then 0 else 1,if a.scale<b.scale then -1 else if a.scale=b.scale then 0 else 1,VV a.text b.text,l,g] (by simp;omega) (by simp)
  refine ⟨c,by rw [e];rfl,f.trans ?_⟩
  simp only [List.mem_cons,List.not_mem_nil,or_false,forall_eq_or_imp,forall_eq,VY,Sr,t,i]
  exact ⟨fun ⟨s,v,r,k,o,u⟩=>Vl.ext' s v r k o u,fun h=>by rw [h];exact ⟨rfl,rfl,rfl,rfl,rfl,rfl⟩⟩
theorem Zby (n:Nat) (a b:Vl) (h:a.size+10<=n) (hs:a.size<=1000000000):∃ c,DT n a b=some c/\(c=true<->a=b):=by
 obtain ⟨c,e,d⟩:=Oi n a b h hs
 exact ⟨decide (c=0),by rw [DT,e];rfl,by rw [decide_eq_true_eq];exact d⟩
def G9 (n:Nat)  : Option Bool :=
 some (true)
def Cb (n:Nat) (g:List Slt) (a1:List Slt) (a2:Slt->Slt->Option Bool):Nat->Int->Option Bool
 | 0,_=>none
 | m+1,b =>
  if decide (b<(g.length:Int)) then
   (Dw g b).bind fun y =>
   (Dw a1 b).bind fun q =>
   (a2 y q).bind fun h =>
   if !h then
    some (false)
   else
    if BN (b+1) then
     (Cb n g a1 a2 m) (b+1)
    else none
  else
   G9 n 
def EG (n:Nat) (b:List Slt) (g:List Slt) (h:Slt->Slt->Option Bool):Option Bool :=
 if !(decide ((b.length:Int)=(g.length:Int))) then
  some (false)
 else
  Cb n b g h n 0
theorem OL (w0:World) (n:Nat) (B:Ao) (Rw:Ap) (L:Aq) (a0:List Slt) (a1:List Slt) (fa2:FuncId) (ca2:List AV) (a2:Slt->Slt->Option Bool) (ha2:∀ (x0:Slt) (x1:Slt) r,a2 x0 x1=some r->∀ B' rows,B <+: B'->Rw <+: rows->ACalls Tryz.prog w0 fa2 ([.agg (O4 x0),.agg (O4 x1)]++ca2) ⟨B',rows,L⟩ fun v s=>v = .val (.bool r)/\s=⟨B',rows,L⟩) (r:Bool) (h:EG n a0 a1 a2=some r) :
  ACalls Tryz.prog w0 41 [.list (a0.map AZ) .none,.list (a1.map AZ) .none,.clo fa2 ca2] ⟨B,Rw,L⟩ fun x st=>x = .val (.bool r)/\st=⟨B,Rw,L⟩:=by
 rw [EG] at h
 refine hd [.tmp 6] Tryz.func41 Tryz.ntmps41 fun M0 W0 l i g c o f hs=>?_
 simp only [Ax]
 have d:=Cc (o (.clo fa2 ca2) (by simp))
 refine rg [0,1,2] hs ?_
 apply Am;intro K2 j
 refine rg [0,1,2,14] hs ?_
 refine B6 h hs ?_ ?_<;>intro hs h
 ·refine rg [6] hs ?_
  exact rt h hs c f
 refine sk [0,1,2] hs j ?_
 clear j
 refine AD (fun e st=>Ck e st B Rw L [] [] [] (G9 n  = some r)) ?_ ?_
 ·intro K8 k
  refine rg [1,2,15,16,17] hs ?_
  apply Ar
  refine AA (fun m e st=>∃ (b:Int),Ck e st B Rw L [(1,true,.list (a1.map AZ) .none),(2,true,.clo fa2 ca2),(15,true,.list (a0.map AZ) .none),(16,true,Ak (a0.length:Int)),(17,true,Ak b)] [] [] (Cb n a0 a1 a2 m b=some r)) n ⟨0,([]),Rw,ef hs,ef hs,f,h⟩ ?_
  rintro ml10 e st ⟨b,Xl10,Rl10,rfl,rfl,f,h⟩ Ul10 Vl10
  cases ml10 with
  | zero=>cases h
  | succ ml10 =>
  rw [Cb] at h
  refine AO l i g rfl c f (H8 d f) (H8 d f) ?_
  exact go (tg (a:=([1,2,15,16,17,18],([1,2,15,16,17],[1,2,7,8,15,16,17],[1,2,8,9,15,16,17],[1,2,15,16,17,30],([6],()),[1,2,15,16,17],[1,2,15,16,17],()),[],()))) h hs l i g c f (q1 ha2) (q2 k (fun e s=>Vl10 ml10 e s (Nat.lt_succ_self _)))
 ·clear h;rintro e st ⟨Xk7,Rk7,rfl,rfl,f,h⟩
  rw [G9] at h
  refine AO l i g rfl c f (H8 d f) (H8 d f) ?_
  refine rg [6] hs ?_
  exact rt h hs c f
def JQ (n:Nat)  : Option Bool :=
 some (true)
def D5 (n:Nat) (h:List Int) (y:List Int):Nat->Int->Option Bool
 | 0,_=>none
 | m+1,b =>
  if decide (b<(h.length:Int)) then
   (Dw h b).bind fun g =>
   (Dw y b).bind fun q =>
   if !(decide (g=q)) then
    some (false)
   else
    if BN (b+1) then
     (D5 n h y m) (b+1)
    else none
  else
   JQ n 
def Hh (n:Nat) (b:List Int) (g:List Int):Option Bool :=
 if !(decide ((b.length:Int)=(g.length:Int))) then
  some (false)
 else
  D5 n b g n 0
theorem Tu (w0:World) (n:Nat) (B:Ao) (Rw:Ap) (L:Aq) (a0:List Int) (a1:List Int) (r:Bool) (h:Hh n a0 a1=some r) :
  ACalls Tryz.prog w0 75 [.list (a0.map Ci) .none,.list (a1.map Ci) .none] ⟨B,Rw,L⟩ fun x st=>x = .val (.bool r)/\st=⟨B,Rw,L⟩:=by
 rw [Hh] at h
 refine hd [.tmp 4] Tryz.func75 Tryz.ntmps75 fun M0 W0 k g f c l d hs=>?_
 simp only [Ax]
 refine rg [0,1] hs ?_
 apply Am;intro K2 i
 refine rg [0,1,10] hs ?_
 refine B6 h hs ?_ ?_<;>intro hs h
 ·refine rg [4] hs ?_
  exact rt h hs c d
 refine sk [0,1] hs i ?_
 clear i
 refine AD (fun e st=>Ck e st B Rw L [] [] [] (JQ n  = some r)) ?_ ?_
 ·intro K8 j
  refine rg [0,1,12,13] hs ?_
  apply Ar
  refine AA (fun m e st=>∃ (b:Int),Ck e st B Rw L [(0,true,.list (a0.map Ci) .none),(1,true,.list (a1.map Ci) .none),(12,true,Ak (a0.length:Int)),(13,true,Ak b)] [] [] (D5 n a0 a1 m b=some r)) n ⟨0,([]),Rw,ef hs,ef hs,d,h⟩ ?_
  rintro ml10 e st ⟨b,Xl10,Rl10,rfl,rfl,d,h⟩ Ul10 Vl10
  cases ml10 with
  | zero=>cases h
  | succ ml10 =>
  rw [D5] at h
  exact go (tg (a:=([0,1,12,13,14],([0,1,12,13],[0,1,5,12,13],[9,0,1,12,13,24],([4],()),[0,1,12,13],[0,1,12,13],()),[],()))) h hs k g f c d trivial (q2 j (fun e s=>Vl10 ml10 e s (Nat.lt_succ_self _)))
 ·clear h;rintro e st ⟨Xk7,Rk7,rfl,rfl,d,h⟩
  rw [JQ] at h
  refine Go.Ev.td k g f c d ?_
  refine rg [4] hs ?_
  exact rt h hs c d
def EY (n:Nat) (b:List Int) (g:List Int):Option Int :=
 if decide ((b.length:Int)<(g.length:Int)) then
  some ((-1))
 else
  some (0)
def BL (n:Nat) (h:List Int) (q:List Int) (a2:Int->Int->Option Int):Nat->Int->Option Int
 | 0,_=>none
 | m+1,b =>
  if decide (b<(h.length:Int)) then
   (Dw h b).bind fun y =>
   if decide ((q.length:Int)<=b) then
    some (1)
   else
    (Dw q b).bind fun x18 =>
    (a2 y x18).bind fun g =>
    if !(decide (g=0)) then
     some (g)
    else
     if BN (b+1) then
      (BL n h q a2 m) (b+1)
     else none
  else
   EY n h q 
def FC (n:Nat) (b:List Int) (g:List Int) (h:Int->Int->Option Int):Option Int :=
 BL n b g h n 0
theorem Og (w0:World) (n:Nat) (B:Ao) (Rw:Ap) (L:Aq) (a0:List Int) (a1:List Int) (fa2:FuncId) (ca2:List AV) (a2:Int->Int->Option Int) (ha2:∀ (x0:Int) (x1:Int) r,a2 x0 x1=some r->∀ B' rows,B <+: B'->Rw <+: rows->ACalls Tryz.prog w0 fa2 ([Ak x0,Ak x1]++ca2) ⟨B',rows,L⟩ fun v s=>v=Ak r/\s=⟨B',rows,L⟩) (r:Int) (h:FC n a0 a1 a2=some r) :
  ACalls Tryz.prog w0 54 [.list (a0.map Ci) .none,.list (a1.map Ci) .none,.clo fa2 ca2] ⟨B,Rw,L⟩ fun x st=>x=Ak r/\st=⟨B,Rw,L⟩:=by
 rw [FC] at h
 refine hd [.tmp 6] Tryz.func54 Tryz.ntmps54 fun M0 W0 j i g b l f hs=>?_
 simp only [Ax]
 have c:=Cc (l (.clo fa2 ca2) (by simp))
 refine rg [0,1,2] hs ?_
 refine AD (fun e st=>Ck e st B Rw L [(0,true,.list (a0.map Ci) .none),(1,true,.list (a1.map Ci) .none)] [] [] (EY n a0 a1  = some r)) ?_ ?_
 ·intro K4 k
  refine rg [0,1,2,11,12,13] hs ?_
  apply Ar
  refine AA (fun m e st=>∃ (d:Int),Ck e st B Rw L [(0,true,.list (a0.map Ci) .none),(1,true,.list (a1.map Ci) .none),(2,true,.clo fa2 ca2),(11,true,.list (a0.map Ci) .none),(12,true,Ak (a0.length:Int)),(13,true,Ak d)] [] [] (BL n a0 a1 a2 m d=some r)) n ⟨0,([]),Rw,ef hs,ef hs,f,h⟩ ?_
  rintro ml6 e st ⟨d,Xl6,Rl6,rfl,rfl,f,h⟩ Ul6 Vl6
  cases ml6 with
  | zero=>cases h
  | succ ml6 =>
  rw [BL] at h
  refine AO j i g rfl b f (H8 c f) (H8 c f) ?_
  exact go (tg (a:=([0,1,2,11,12,13,14],([0,1,2,11,12,13],[0,1,2,7,8,11,12,13],[0,1,2,7,8,11,12,13,21],([6],()),[0,1,2,7,8,11,12,13],[0,1,2,8,9,11,12,13],[0,1,2,10,11,12,13],[0,1,2,10,11,12,13,31],([6],()),[0,1,2,11,12,13],[0,1,2,11,12,13],()),[0,1],()))) h hs j i g b f (q1 ha2) (q2 k (fun e s=>Vl6 ml6 e s (Nat.lt_succ_self _)))
 ·clear h;rintro e st ⟨Xk3,Rk3,rfl,rfl,f,h⟩
  rw [EY] at h
  refine AO j i g rfl b f (H8 c f) (H8 c f) ?_
  exact go (tg (a:=([38],([6],()),[],[6],()))) h hs j i g b f trivial trivial
def C7 (b:Int) (g:Int):Int :=
 if b<g then -1 else if b=g then 0 else 1
theorem Qb (w0:World) (B:Ao) (Rw:Ap) (L:Aq) (a0:Int) (a1:Int) (r:Int) (h:C7 a0 a1=r) :
  ACalls Tryz.prog w0 55 [Ak a0,Ak a1] ⟨B,Rw,L⟩ fun x st=>x=Ak r/\st=⟨B,Rw,L⟩:=by
 rw [C7] at h
 refine hd [.tmp 4] Tryz.func55 Tryz.ntmps55 fun M0 W0 f d c b g e hs=>?_
 simp only [Ax]
 exact go (tg (a:=([0,1],[4],()))) h hs f d c b e (q1 (I7 w0)) trivial
theorem PC (w0:World) (B:Ao) (Rw:Ap) (L:Aq) (a0:Int) (a1:Int) :
  ACalls Tryz.prog w0 55 [Ak a0,Ak a1] ⟨B,Rw,L⟩ fun x st=>x=Ak (C7 a0 a1)/\st=⟨B,Rw,L⟩:=Qb w0 B Rw L a0 a1 _ rfl
def H6 (n:Nat) (b:Int × List Int) (g:Int × List Int):Option Int :=
 (FC n b.2 g.2 (fun (q:Int) (y:Int)=>some (C7 q y))).bind fun y3 =>
 (EJ n ([if b.1<g.1 then -1 else if b.1=g.1 then 0 else 1,y3])).bind fun h =>
 some (h)
theorem Rr (w0:World) (n:Nat) (B:Ao) (Rw:Ap) (L:Aq) (a0:Int × List Int) (a1:Int × List Int) (r:Int) (h:H6 n a0 a1=some r) :
  ACalls Tryz.prog w0 31 [.agg (Ak a0.1::([.list (a0.2.map Ci) .none])),.agg (Ak a1.1::([.list (a1.2.map Ci) .none]))] ⟨B,Rw,L⟩ fun x st=>x=Ak r/\st=⟨B,Rw,L⟩:=by
 rw [H6] at h
 refine hd [.tmp 4] Tryz.func31 Tryz.ntmps31 fun M0 W0 j d c b p g hs=>?_
 simp only [Ax]
 refine rg [2,3] hs ?_
 obtain ⟨o,hy3,h⟩:=bind_some h
 obtain ⟨l,i,h⟩:=bind_some h
 apply Am;intro K2 e
 refine dk 13 4 1 [4] hs G6 ?_
 refine Av _ (I7 w0 _ _ _ a0.1 a1.1) (hv hs) ?_
 refine nc hs ?_
 refine Av _ (Og w0 n _ _ _ a0.2 a1.2 55 [] (fun (x0:Int) (x1:Int)=>some (C7 x0 x1)) (fun x0 x1 r hx m rows' k f=>by cases hx;exact PC w0 _ _ _ x0 x1) _ hy3) (hv hs) ?_
 exact go (tg (a:=((),()))) h hs j d c b g (q1 (Md w0 n)) (q1 e)
def Ed (n:Nat) (b:Int × List Int) (g:Int × List Int):Option Bool :=
 (H6 n b g).bind fun h =>
 some (decide (h=0))
theorem KH (w0:World) (n:Nat) (B:Ao) (Rw:Ap) (L:Aq) (a0:Int × List Int) (a1:Int × List Int) (r:Bool) (h:Ed n a0 a1=some r) :
  ACalls Tryz.prog w0 14 [.agg (Ak a0.1::([.list (a0.2.map Ci) .none])),.agg (Ak a1.1::([.list (a1.2.map Ci) .none]))] ⟨B,Rw,L⟩ fun x st=>x = .val (.bool r)/\st=⟨B,Rw,L⟩:=by
 rw [Ed] at h
 refine hd [.tmp 4] Tryz.func14 Tryz.ntmps14 fun M0 W0 f d c b g e hs=>?_
 simp only [Ax]
 exact go (tg (a:=([2,3],[4],()))) h hs f d c b e (q1 (Rr w0 n)) trivial
def Dj (n:Nat) (b:Msg) (g:Msg):Option Bool :=
 (Ed n b.stamp g.stamp).bind fun y =>
 if y&&(decide (b.mass=g.mass)) then
  (Hh n b.origins g.origins).bind fun q =>
  if q then
   (DT n b.body g.body).bind fun h =>
   some (h)
  else
   AM
 else
  AM
theorem Jm (w0:World) (n:Nat) (B:Ao) (Rw:Ap) (L:Aq) (a0:Msg) (a1:Msg) (r:Bool) (h:Dj n a0 a1=some r) :
  ACalls Tryz.prog w0 44 [.agg (Qu a0),.agg (Qu a1)] ⟨B,Rw,L⟩ fun x st=>x = .val (.bool r)/\st=⟨B,Rw,L⟩:=by
 rw [Dj] at h
 refine hd [.tmp 4] Tryz.func44 Tryz.ntmps44 fun M0 W0 f d c b g e hs=>?_
 simp only [Ax]
 exact go (tg (a:=([2,3],(([4],()),((),())),((),())))) h hs f d c b e (q3 (KH w0 n) (Tu w0 n) (KB w0 n)) trivial
def Gp (n:Nat)  : Option Bool :=
 some (true)
def BG (n:Nat) (g:List Msg) (a1:List Msg) (a2:Msg->Msg->Option Bool):Nat->Int->Option Bool
 | 0,_=>none
 | m+1,b =>
  if decide (b<(g.length:Int)) then
   (Dw g b).bind fun y =>
   (Dw a1 b).bind fun q =>
   (a2 y q).bind fun h =>
   if !h then
    some (false)
   else
    if BN (b+1) then
     (BG n g a1 a2 m) (b+1)
    else none
  else
   Gp n 
def DF (n:Nat) (b:List Msg) (g:List Msg) (h:Msg->Msg->Option Bool):Option Bool :=
 if !(decide ((b.length:Int)=(g.length:Int))) then
  some (false)
 else
  BG n b g h n 0
theorem MF (w0:World) (n:Nat) (B:Ao) (Rw:Ap) (L:Aq) (a0:List Msg) (a1:List Msg) (fa2:FuncId) (ca2:List AV) (a2:Msg->Msg->Option Bool) (ha2:∀ (x0:Msg) (x1:Msg) r,a2 x0 x1=some r->∀ B' rows,B <+: B'->Rw <+: rows->ACalls Tryz.prog w0 fa2 ([.agg (Qu x0),.agg (Qu x1)]++ca2) ⟨B',rows,L⟩ fun v s=>v = .val (.bool r)/\s=⟨B',rows,L⟩) (r:Bool) (h:DF n a0 a1 a2=some r) :
  ACalls Tryz.prog w0 72 [.list (a0.map Dn) .none,.list (a1.map Dn) .none,.clo fa2 ca2] ⟨B,Rw,L⟩ fun x st=>x = .val (.bool r)/\st=⟨B,Rw,L⟩:=by
 rw [DF] at h
 refine hd [.tmp 6] Tryz.func72 Tryz.ntmps72 fun M0 W0 l i g c o f hs=>?_
 simp only [Ax]
 have d:=Cc (o (.clo fa2 ca2) (by simp))
 refine rg [0,1,2] hs ?_
 apply Am;intro K2 j
 refine rg [0,1,2,14] hs ?_
 refine B6 h hs ?_ ?_<;>intro hs h
 ·refine rg [6] hs ?_
  exact rt h hs c f
 refine sk [0,1,2] hs j ?_
 clear j
 refine AD (fun e st=>Ck e st B Rw L [] [] [] (Gp n  = some r)) ?_ ?_
 ·intro K8 k
  refine rg [1,2,15,16,17] hs ?_
  apply Ar
  refine AA (fun m e st=>∃ (b:Int),Ck e st B Rw L [(1,true,.list (a1.map Dn) .none),(2,true,.clo fa2 ca2),(15,true,.list (a0.map Dn) .none),(16,true,Ak (a0.length:Int)),(17,true,Ak b)] [] [] (BG n a0 a1 a2 m b=some r)) n ⟨0,([]),Rw,ef hs,ef hs,f,h⟩ ?_
  rintro ml10 e st ⟨b,Xl10,Rl10,rfl,rfl,f,h⟩ Ul10 Vl10
  cases ml10 with
  | zero=>cases h
  | succ ml10 =>
  rw [BG] at h
  refine AO l i g rfl c f (H8 d f) (H8 d f) ?_
  exact go (tg (a:=([1,2,15,16,17,18],([1,2,15,16,17],[1,2,7,8,15,16,17],[1,2,8,9,15,16,17],[1,2,15,16,17,30],([6],()),[1,2,15,16,17],[1,2,15,16,17],()),[],()))) h hs l i g c f (q1 ha2) (q2 k (fun e s=>Vl10 ml10 e s (Nat.lt_succ_self _)))
 ·clear h;rintro e st ⟨Xk7,Rk7,rfl,rfl,f,h⟩
  rw [Gp] at h
  refine AO l i g rfl c f (H8 d f) (H8 d f) ?_
  refine rg [6] hs ?_
  exact rt h hs c f
def Dy (n:Nat) (b:Slt) (g:Slt):Option Bool :=
 (DT n b.key g.key).bind fun y3 =>
 if (y3&&(decide (b.number=g.number)))&&(decide (b.time=g.time)) then
  (DF n b.items g.items (fun (h:Msg) (q:Msg)=>Dj n h q)).bind fun y5 =>
  if y5 then
   (Ef n b.values g.values (fun (h:Vl) (q:Vl)=>DT n h q)).bind fun y =>
   some (y)
  else
   AM
 else
  AM
theorem P9 (w0:World) (n:Nat) (B:Ao) (Rw:Ap) (L:Aq) (a0:Slt) (a1:Slt) (r:Bool) (h:Dy n a0 a1=some r) :
  ACalls Tryz.prog w0 42 [.agg (O4 a0),.agg (O4 a1)] ⟨B,Rw,L⟩ fun x st=>x = .val (.bool r)/\st=⟨B,Rw,L⟩:=by
 rw [Dy] at h
 refine hd [.tmp 4] Tryz.func42 Tryz.ntmps42 fun M0 W0 t p l c u m hs=>?_
 simp only [Ax]
 refine rg [2,3] hs ?_
 apply Am;intro K2 d
 obtain ⟨s,f,h⟩:=bind_some h
 rcases Bool.eq_false_or_eq_true ((s&&(decide (a0.number=a1.number)))&&(decide (a0.time=a1.time))) with hf4 | hf4
 ·replace h:=Cj h hf4
  obtain ⟨o,g,h⟩:=bind_some h
  rcases Bool.eq_false_or_eq_true (o) with hf6 | hf6
  ·replace h:=Cj h hf6
   obtain ⟨v,i,h⟩:=bind_some h
   have hs:=Ad hf4 hs
   have hs:=Ad hf6 hs
   refine rk 4 [4] (al hs) ?_
   refine Av _ (KB w0 n _ _ _ a0.key a1.key _ f) (hv (al hs)) ?_
   refine nc (al hs) ?_
   refine Av _ (MF w0 n _ _ _ a0.items a1.items 44 [] (fun (a:Msg) (b:Msg)=>Dj n a b) (fun a b r j q rows' k e=>by exact Jm w0 n _ _ _ a b _ j) _ g) (hv (al hs)) ?_
   refine nc (al hs) ?_
   refine Av _ (Oa w0 n _ _ _ a0.values a1.values 43 [] (fun (a:Vl) (b:Vl)=>DT n a b) (fun a b r j q rows' k e=>by exact KB w0 n _ _ _ a b _ j) _ i) (hv (al hs)) ?_
   refine ne (al hs) d ?_
   clear d
   exact rt h hs c m
  ·replace h:=Cm h hf6
   exact nS h
 ·replace h:=Cm h hf4
  exact nS h
def HZ (n:Nat) (b:Stt) (g:Stt):Option Bool :=
 if (decide (b.number=g.number))&&(decide (b.time=g.time)) then
  (EG n b.slots g.slots (fun (q:Slt) (y:Slt)=>Dy n q y)).bind fun h =>
  some (h)
 else
  AM
theorem Uh (w0:World) (n:Nat) (B:Ao) (Rw:Ap) (L:Aq) (a0:Stt) (a1:Stt) (r:Bool) (h:HZ n a0 a1=some r) :
  ACalls Tryz.prog w0 20 [.agg (Dx a0),.agg (Dx a1)] ⟨B,Rw,L⟩ fun x st=>x = .val (.bool r)/\st=⟨B,Rw,L⟩:=by
 rw [HZ] at h
 refine hd [.tmp 4] Tryz.func20 Tryz.ntmps20 fun M0 W0 p k i a q j hs=>?_
 simp only [Ax]
 refine rg [2,3] hs ?_
 apply Am;intro K2 b
 rcases Bool.eq_false_or_eq_true ((decide (a0.number=a1.number))&&(decide (a0.time=a1.time))) with hf3 | hf3
 ·replace h:=Cj h hf3
  obtain ⟨m,d,h⟩:=bind_some h
  have hs:=Ad hf3 hs
  refine rk 2 [4] hs ?_
  refine Av _ (OL w0 n _ _ _ a0.slots a1.slots 42 [] (fun (c:Slt) (e:Slt)=>Dy n c e) (fun c e r l o rows' g f=>by exact P9 w0 n _ _ _ c e _ l) _ d) (hv hs) ?_
  refine ne hs b ?_
  clear b
  exact rt h hs a j
 ·replace h:=Cm h hf3
  exact nS h
theorem Zcy (n:Nat) (a b:List Int) (f:Int->Int->Option Int) (hl:a.length<=1000000000)
  (hr:∀ p q,∃ c,f p q=some c/\(c=0<->p=q)):∀ (k m i:Nat),i+k=a.length->k<m->∃ c,BL n a b f m i=some c/\(c=0<->a.drop i=b.drop i)
 | k,0,i,_,h=>absurd h (Nat.not_lt_zero _)
 | 0,m+1,i,hi,_=>by
  rw [BL,A4,Ac]
  simp only [Bool.false_eq_true,if_false]
  rw [EY,A4,List.drop_eq_nil_of_le (show a.length<=i by omega)]
  by_cases h:a.length<b.length
  ·rw [Ag h]
   simp only [if_true]
   exact ⟨-1,rfl,⟨fun h=>absurd h (by decide),fun e=>by have:=List.drop_eq_nil_iff.1 e.symm;omega⟩⟩
  ·rw [Af h]
   simp only [Bool.false_eq_true,if_false]
   exact ⟨0,rfl,⟨fun _=>(List.drop_eq_nil_of_le (by omega)).symm,fun _=>rfl⟩⟩
 | k+1,m+1,i,hi,hm=>by
  have g:i<a.length:=by omega
  rw [BL,A4,Ag g]
  simp only [if_true,Bj g,Ae,ZM]
  by_cases d:i<b.length
  ·rw [Af (show ¬ b.length<=i by omega)]
   simp only [Bool.false_eq_true,if_false,Bj d,Ae]
   obtain ⟨c,e,j⟩:=hr a[i] b[i]
   rw [e,OX _ _ i g d]
   simp only [Ae]
   by_cases h0:c=0
   ·rw [Ag h0]
    simp only [Bool.not_true,Bool.false_eq_true,if_false]
    rw [Ah (A8 (by omega))]
    obtain ⟨l,o,d⟩:=Zcy n a b f hl hr k m (i+1) (by omega) (by omega)
    exact ⟨l,o,d.trans ⟨fun h=>⟨j.1 h0,h⟩,fun h=>h.2⟩⟩
   ·rw [Af h0]
    simp only [Bool.not_false,if_true]
    exact ⟨c,rfl,⟨fun h=>absurd h h0,fun h=>absurd (j.2 h.1) h0⟩⟩
  ·rw [Ag (show b.length<=i by omega)]
   simp only [if_true]
   refine ⟨1,rfl,⟨fun h=>absurd h (by decide),fun e=>?_⟩⟩
   rw [List.drop_eq_nil_of_le (show b.length<=i by omega)] at e
   have:=List.drop_eq_nil_iff.1 e
   omega
theorem Xg (n:Nat) (hn:10000<=n) (a b:Int × List Int) (ha:a.2.length<=1000):Ed n a b=some (decide (a=b)):=by
 obtain ⟨c,e,h⟩:=Zcy n a.2 b.2 (fun (x0:Int) (x1:Int)=>some (C7 x0 x1)) (by omega) (fun p q=>⟨_,rfl,by rw [C7];exact Sr p q⟩) a.2.length n 0 (by omega) (by omega)
 have e:BL n a.2 b.2 (fun (x0:Int) (x1:Int)=>some (C7 x0 x1)) n 0=some c:=e
 rw [List.drop_zero,List.drop_zero] at h
 obtain ⟨d,g,f⟩:=ZdQ n [if a.1<b.1 then -1 else if a.1=b.1 then 0 else 1,c] (by simp only [List.length_cons,List.length_nil];omega) (by simp only [List.length_cons,List.length_nil];omega)
 rw [Ed,H6,FC,e,Ae,g,Ae,Ae]
 congr 1
 rw [decide_eq_decide,f]
 simp only [List.mem_cons,List.not_mem_nil,or_false,forall_eq_or_imp,forall_eq,Sr,h]
 exact ⟨fun q=>Prod.ext q.1 q.2,fun q=>by rw [q];exact ⟨rfl,rfl⟩⟩
theorem Zaa (n:Nat) (a:List Int) (hl:a.length<=1000):∀ (k m i:Nat),i+k=a.length->k<m->D5 n a a m i=some true
 | k,0,i,_,h=>absurd h (Nat.not_lt_zero _)
 | 0,m+1,i,hi,_=>by rw [D5,A4,Ac];rfl
 | k+1,m+1,i,hi,hm=>by
  have b:i<a.length:=by omega
  rw [D5,A4,Ag b,Ah rfl,Bj b,Ae,Ae,Ag rfl,Ai (by decide),Ah (A8 (by omega))]
  exact Zaa n a hl k m (i+1) (by omega) (by omega)
theorem Zed (n:Nat) (hn:10000<=n) (a:List Int) (hl:a.length<=1000):Hh n a a=some true:=by
 rw [Hh,Ag rfl,Ai (by decide)]
 exact Zaa n a hl a.length n 0 (by omega) (by omega)
theorem Rk (n:Nat) (hn:100000<=n) (v:Vl) (h:v.size<=1000):DT n v v=some true:=by
 obtain ⟨c,e,q⟩:=Zby n v v (by omega) (by omega)
 rw [e,q.2 rfl]
theorem Qs (n:Nat) (hn:100000<=n) (m:Msg) (h:SY m):Dj n m m=some true:=by
 rw [Dj,Xg n (by omega) _ _ (by have:=h.1;omega),Ae,Ag rfl,Ag rfl,Bool.and_self,Ah rfl,Zed n (by omega) _ (by have:=h.2.1;omega),Ae,Ah rfl,Rk n hn _ h.2.2]
 rfl
theorem Zah (n:Nat) (a:List Vl) (f:Vl->Vl->Option Bool) (hf:∀ x∈a,f x x=some true) (hl:a.length<=1000):∀ (k m i:Nat),i+k=a.length->k<m->BZ n a a f m i=some true
 | k,0,i,_,h=>absurd h (Nat.not_lt_zero _)
 | 0,m+1,i,hi,_=>by rw [BZ,A4,Ac];rfl
 | k+1,m+1,i,hi,hm=>by
  have b:i<a.length:=by omega
  rw [BZ,A4,Ag b,Ah rfl,Bj b,Ae,Ae,hf _ (List.getElem_mem b),Ae,Ai (by decide),Ah (A8 (by omega))]
  exact Zah n a f hf hl k m (i+1) (by omega) (by omega)
theorem Zao (n:Nat) (a:List Msg) (f:Msg->Msg->Option Bool) (hf:∀ x∈a,f x x=some true) (hl:a.length<=1000):∀ (k m i:Nat),i+k=a.length->k<m->BG n a a f m i=some true
 | k,0,i,_,h=>absurd h (Nat.not_lt_zero _)
 | 0,m+1,i,hi,_=>by rw [BG,A4,Ac];rfl
 | k+1,m+1,i,hi,hm=>by
  have b:i<a.length:=by omega
  rw [BG,A4,Ag b,Ah rfl,Bj b,Ae,Ae,hf _ (List.getElem_mem b),Ae,Ai (by decide),Ah (A8 (by omega))]
  exact Zao n a f hf hl k m (i+1) (by omega) (by omega)
theorem Zau (n:Nat) (a:List Slt) (f:Slt->Slt->Option Bool) (hf:∀ x∈a,f x x=some true) (hl:a.length<=1000):∀ (k m i:Nat),i+k=a.length->k<m->Cb n a a f m i=some true
 | k,0,i,_,h=>absurd h (Nat.not_lt_zero _)
 | 0,m+1,i,hi,_=>by rw [Cb,A4,Ac];rfl
 | k+1,m+1,i,hi,hm=>by
  have b:i<a.length:=by omega
  rw [Cb,A4,Ag b,Ah rfl,Bj b,Ae,Ae,hf _ (List.getElem_mem b),Ae,Ai (by decide),Ah (A8 (by omega))]
  exact Zau n a f hf hl k m (i+1) (by omega) (by omega)
theorem X5 (n:Nat) (hn:100000<=n) (x:Slt) (h:Wc x):Dy n x x=some true:=by
 obtain ⟨e,⟨g,b⟩,i,c⟩:=h
 have d:DF n x.items x.items (fun (x0:Msg) (x1:Msg)=>Dj n x0 x1)=some true:=by
  rw [DF,Ag rfl,Ai (by decide)]
  exact Zao n _ _ (fun m a=>Qs n hn m (b m a)) (by omega) x.items.length n 0 (by omega) (by omega)
 have f:Ef n x.values x.values (fun (x0:Vl) (x1:Vl)=>DT n x0 x1)=some true:=by
  rw [Ef,Ag rfl,Ai (by decide)]
  exact Zah n _ _ (fun m a=>Rk n hn m (c m a)) (by omega) x.values.length n 0 (by omega) (by omega)
 rw [Dy,Rk n hn _ e,Ae,Ag rfl,Ag rfl,Bool.and_self,Bool.and_self,Ah rfl,d,Ae,Ah rfl,f]
 rfl
theorem WS (n:Nat) (hn:100000<=n) (s:Stt) (h:T8 s):HZ n s s=some true:=by
 have c:=h.1
 have a:EG n s.slots s.slots (fun (x0:Slt) (x1:Slt)=>Dy n x0 x1)=some true:=by
  rw [EG,Ag rfl,Ai (by decide)]
  exact Zau n _ _ (fun m b=>X5 n hn m (h.2 m b)) (by omega) s.slots.length n 0 (by omega) (by omega)
 rw [HZ,Ag rfl,Ag rfl,Bool.and_self,Ah rfl,a]
 rfl
theorem ZnW {p:CP} {now:Int} {k:Nat} {s:CS} (h:s.ok p now k) (i:Nat) (t:Int) (c:Nat) (d u:Bool) (w:Nat):(Du p s (.rep i t c d u w)).st.ok p now k:=by
 simp only [Du]
 split
 ·exact h
 ·split
  ·exact h.sub List.filter_sublist
  ·split
   ·exact h.sub List.filter_sublist
   ·exact h.sub List.filter_sublist
def Zn0 (p:CP):CS->List CI->CS
 | s,[]=>s
 | s,j::l=>Zn0 p (Du p s j).st l
theorem ZnV {p:CP} (hp:p.ok):∀ (l:List CI) {s:CS} {now:Int} {k:Nat},s.ok p now k->VW now k l->∃ now2,(Zn0 p s l).ok p now2 (k+l.length)
 | [],s,now,k,h,_=>⟨now,h⟩
 | j::l,s,now,k,h,hc=>by
  obtain ⟨q,a⟩:=ZnV hp l (Yn hp h hc.1 hc.2.2.1) hc.2.2.2.2
  exact ⟨q,by rw [List.length_cons,show k+(l.length+1)=k+1+l.length by omega];exact a⟩
theorem Zkn (p:CP):∀ (l:List CI) (s:CS),(ZZ p s l).length=l.length
 | [],_=>rfl
 | j::l,s=>by rw [ZZ,List.length_cons,List.length_cons,Zkn p l]
theorem Zm2 (p:CP):∀ (l:List CI) (s:CS) (h:(ZZ p s l).length-1<(ZZ p s l).length),((ZZ p s l)[(ZZ p s l).length-1]).st=Zn0 p s l
 | [],s,h=>absurd h (by simp [ZZ])
 | [j],s,h=>rfl
 | j::a::l,s,h=>by
  have ih:=Zm2 p (a::l) (Du p s j).st (by rw [Zkn,List.length_cons];omega)
  refine Eq.trans ?_ ih
  simp only [ZZ,List.length_cons,Nat.add_sub_cancel,List.getElem_cons_succ]
theorem Zob (p:CP) (js:List CI) (h:js≠[]):∃ hlt:(((ZZ p ⟨0,[]⟩ js).map Hi).length-1)<((ZZ p ⟨0,[]⟩ js).map Hi).length,((ZZ p ⟨0,[]⟩ js).map Hi)[((ZZ p ⟨0,[]⟩ js).map Hi).length-1].state=Aw (Zn0 p ⟨0,[]⟩ js):=by
 have b:0<js.length:=List.length_pos_iff.2 h
 have a:(ZZ p ⟨0,[]⟩ js).length-1<(ZZ p ⟨0,[]⟩ js).length:=by rw [Zkn];omega
 refine ⟨by rw [List.length_map];exact a,?_⟩
 rw [<-Zm2 p js ⟨0,[]⟩ a]
 simp only [List.getElem_map,List.length_map]
 rfl
def Zgj (n:Nat)  : Option Bool :=
 some (true)
def Zde (n:Nat) (g:Otc) (y:Otc):Nat->Int->Option Bool
 | 0,_=>none
 | m+1,b =>
  if decide (b<(g.letters.length:Int)) then
   (Dw g.letters b).bind fun x31 =>
   (Dw y.letters b).bind fun q =>
   (Dj n x31 q).bind fun y33 =>
   if !y33 then
    AM
   else
    (Dw g.fates b).bind fun x35 =>
    (Dw y.fates b).bind fun h =>
    if !(MY x35.text h.text) then
     AM
    else
     if BN (b+1) then
      (Zde n g y m) (b+1)
     else none
  else
   Zgj n 
def Zfi (n:Nat) (b:Otc) (g:Otc):Option Bool :=
 Zde n b g n 0
def ZdH (n:Nat) (q:Otc) (a1:Otc):Nat->Int->Option Bool
 | 0,_=>none
 | m+1,b =>
  if decide (b<(q.outputs.length:Int)) then
   (Dw q.outputs b).bind fun g =>
   (Dw a1.outputs b).bind fun h =>
   if !(decide (g.2.mass=h.2.mass)) then
    AM
   else
    (DT n g.2.body h.2.body).bind fun y =>
    if !y then
     AM
    else
     if BN (b+1) then
      (ZdH n q a1 m) (b+1)
     else none
  else
   Zfi n q a1 
def ZeX (n:Nat) (b:Otc) (g:Otc):Option Bool :=
 if ((!(decide ((b.outputs.length:Int)=(g.outputs.length:Int))))||(!(decide ((b.letters.length:Int)=(g.letters.length:Int)))))||(!(decide ((b.fates.length:Int)=(g.fates.length:Int)))) then
  AM
 else
  ZdH n b g n 0
theorem ZnP (w0:World) (n:Nat) (B:Ao) (Rw:Ap) (L:Aq) (a0:Otc) (a1:Otc) (r:Bool) (h:ZeX n a0 a1=some r) :
  ACalls Tryz.prog w0 21 [.agg (TE a0),.agg (TE a1)] ⟨B,Rw,L⟩ fun x st=>x = .val (.bool r)/\st=⟨B,Rw,L⟩:=by
 rw [ZeX] at h
 refine hd [.tmp 4] Tryz.func21 Tryz.ntmps21 fun M0 W0 H g f b hu d hs=>?_
 simp only [Ax]
 refine rg [2,3] hs ?_
 apply Am;intro K2 F
 refine rg [2,3,31] hs ?_
 refine B6 h hs ?_ ?_<;>intro hs h
 ·exact nS h
 refine sk [2,3] hs F ?_
 clear F
 refine AD (fun e st=>Ck e st B Rw L [(2,true,.box B.length 0),(3,true,.box (B.length+1) 0)] [TE a0,TE a1] [] (Zfi n a0 a1  = some r)) ?_ ?_
 ·intro K7 ad
  refine rg [2,3,5] hs ?_
  apply Ar
  refine AA (fun m e st=>∃ (c:Int),Ck e st B Rw L [(2,true,.box B.length 0),(3,true,.box (B.length+1) 0),(5,true,Ak c)] [TE a0,TE a1] [] (ZdH n a0 a1 m c=some r)) n ⟨0,([]),Rw,ef hs,ef hs,d,h⟩ ?_
  rintro ml9 e st ⟨c,Xl9,Rl9,rfl,rfl,d,h⟩ Ul9 Vl9
  cases ml9 with
  | zero=>cases h
  | succ ml9 =>
  rw [ZdH] at h
  refine Go.Ev.td H g f b d ?_
  apply Am;intro K10 l
  refine rg [2,3,5,36] hs ?_
  refine B6 h hs ?_ ?_<;>intro hs h
  rotate_left
  ·refine sx [2,3] hs ad ?_
   exact ⟨([]),Rl9,ef hs,ef hs,d,h⟩
  refine sk [2,3,5] hs l ?_
  clear l
  apply Am;intro K13 k
  apply Ar
  apply Am;intro K14 o
  obtain ⟨E,J,O,q,h⟩:=ix M8 h
  obtain ⟨C,N,Z,w,h⟩:=ix M8 h
  rcases Bool.eq_false_or_eq_true (!(decide (E.2.mass=C.2.mass))) with hf17 | hf17
  ·replace h:=Cj h hf17
   exact nS h
  ·replace h:=Cm h hf17
   obtain ⟨ak,D,h⟩:=bind_some h
   have hs:=Ad q hs
   have hs:=Ad w hs
   have hs:=Ad hf17 hs
   refine dk 33 2 1 [2,3,5,71] (al hs) G6 ?_
   refine Av _ (KB w0 n _ _ _ E.2.body C.2.body _ D) (hv (al hs)) ?_
   refine dn (al hs) o ?_
   clear o
   refine B6 h hs ?_ ?_<;>intro hs h
   ·exact nS h
   refine sk [2,3,5] hs k ?_
   clear k
   obtain ⟨ai,h⟩:=Au h
   refine rl [2,3,5] hs (fun e s=>Vl9 ml9 e s (Nat.lt_succ_self _)) ?_
   exact ⟨(c+1),([]),Rl9,ef hs,ef hs,d,h⟩
 ·clear h;rintro e st ⟨Xk6,Rk6,rfl,rfl,d,h⟩
  rw [Zfi] at h
  refine Go.Ev.td H g f b d ?_
  refine AD (fun e st=>Ck e st B Rw L [] [TE a0,TE a1] [] (Zgj n  = some r)) ?_ ?_
  ·intro K23 z
   refine rg [2,3,6] hs ?_
   apply Ar
   refine AA (fun m e st=>∃ (a:Int),Ck e st B Rw L [(2,true,.box B.length 0),(3,true,.box (B.length+1) 0),(6,true,Ak a)] [TE a0,TE a1] [] (Zde n a0 a1 m a=some r)) n ⟨0,([]),Rk6,ef hs,ef hs,d,h⟩ ?_
   rintro ml25 e st ⟨a,Xl25,Rl25,rfl,rfl,d,h⟩ Ul25 Vl25
   cases ml25 with
   | zero=>cases h
   | succ ml25 =>
   rw [Zde] at h
   refine Go.Ev.td H g f b d ?_
   apply Am;intro K26 j
   refine rg [2,3,6,76] hs ?_
   refine B6 h hs ?_ ?_<;>intro hs h
   rotate_left
   ·refine sx [] hs z ?_
    exact ⟨([]),Rl25,ef hs,ef hs,d,h⟩
   refine sk [2,3,6] hs j ?_
   clear j
   apply Am;intro K29 i
   apply Ar
   apply Am;intro K30 p
   obtain ⟨V,Q,U,v,h⟩:=ix Dn h
   obtain ⟨af,Y,ag,y,h⟩:=ix Dn h
   obtain ⟨ah,G,h⟩:=bind_some h
   rcases Bool.eq_false_or_eq_true (!ah) with hf34 | hf34
   ·replace h:=Cj h hf34
    exact nS h
   ·replace h:=Cm h hf34
    obtain ⟨ao,aa,K,t,h⟩:=ix F3 h
    obtain ⟨am,ab,ae,u,h⟩:=ix F3 h
    have hs:=Ad v hs
    have hs:=Ad y hs
    have hs:=Ad hf34 hs
    have hs:=Ad t hs
    have hs:=Ad u hs
    refine dk 27 2 1 [2,3,6,105] hs G6 ?_
    refine Av _ (Jm w0 n _ _ _ V af _ G) (hv hs) ?_
    refine dn hs p ?_
    clear p
    refine B6 h hs ?_ ?_<;>intro hs h
    ·exact nS h
    refine sk [2,3,6] hs i ?_
    clear i
    obtain ⟨aj,h⟩:=Au h
    refine rl [2,3,6] hs (fun e s=>Vl25 ml25 e s (Nat.lt_succ_self _)) ?_
    exact ⟨(a+1),([]),Rl25,ef hs,ef hs,d,h⟩
  ·clear h;rintro e st ⟨Xk22,Rk22,rfl,rfl,d,h⟩
   rw [Zgj] at h
   refine Go.Ev.td H g f b d ?_
   refine rg [4] hs ?_
   exact rt h hs b d
def ZaJ (n:Nat) (a2:List (Int × Int × Int × Int)) (y9:Nod) (b2_k15:Stt):Option Bool :=
 (Dw a2 0).bind fun g =>
 (Dw a2 1).bind fun h =>
 (IP n ([(4,g.2.1,g.2.2.1,g.2.2.2)])).bind fun y26 =>
 (Dw y26 0).bind fun b =>
 (IP n ([(4,h.2.1,h.2.2.1,h.2.2.2)])).bind fun y29 =>
 (Dw y29 0).bind fun q =>
 if decide (b.call=q.call) then
  some (true)
 else
  (BU n y9 b2_k15 b).bind fun y36 =>
  (BU n y9 y36.state q).bind fun y38 =>
  (BU n y9 b2_k15 q).bind fun y =>
  (BU n y9 y.state b).bind fun y42 =>
  (HZ n y38.state y42.state).bind fun y44 =>
  if y44 then
   (ZeX n y36 y42).bind fun y46 =>
   if y46 then
    (ZeX n y38 y).bind fun y48 =>
    some (y48)
   else
    AM
  else
   AM
def ZeU (n:Nat) (a0:Int × Int × Int × Int) (a1:List (Int × Int × Int × Int)) (y:List (Int × Int × Int × Int)):Option Bool :=
 (Lq n ).bind fun y4 =>
 if (!y4)||(!(decide ((y.length:Int)=2))) then
  (Lq n ).bind fun y7 =>
  some (y7)
 else
  (DK a0).bind fun h =>
  (IP n a1).bind fun q =>
  (MQ n h q).bind fun b =>
  if decide (0<(b.length:Int)) then
   if BN ((b.length:Int)-1) then
    (Dw b ((b.length:Int)-1)).bind fun g =>
    ZaJ n y h g.state
   else none
  else
   ZaJ n y h (Stt.mk 0 0 ([]))
theorem ZiK (w0:World) (hE:QU w0) (hM:Qx w0) (hP:Pow10 w0) (hT:Lib.Utf8Tabs 1 2 w0) (n:Nat) (B:Ao) (Rw:Ap) (L:Aq) (a0:Int × Int × Int × Int) (a1:List (Int × Int × Int × Int)) (a2:List (Int × Int × Int × Int)) (r:Bool) (h:ZeU n a0 a1 a2=some r) :
  ACalls Tryz.prog w0 6 [.agg (.val (.int .u8 a0.1)::(.val (.int .u8 a0.2.1)::(.val (.int .u8 a0.2.2.1)::([.val (.int .u8 a0.2.2.2)])))),.list (a1.map QH) .none,.list (a2.map QH) .none] ⟨B,Rw,L⟩ fun x st=>x = .val (.bool r)/\st=⟨B,Rw,L⟩:=by
 rw [ZeU] at h
 refine hd [.tmp 6] Tryz.func6 Tryz.ntmps6 fun M0 W0 hN ah V m hu t hs=>?_
 simp only [Ax]
 refine rg [1,2,3] hs ?_
 apply Am;intro K2 Z
 obtain ⟨y4,av,h⟩:=bind_some h
 refine rc 2 [1,2,3,25] hs ?_;intro K3 ag
 refine Av _ (Xt w0 hE hM hP hT n _ _ _  _ av) (hv hs) ?_
 refine ne hs ag ?_
 clear ag
 refine B6 h hs ?_ ?_<;>intro hs h
 ·have k:=hs.1
  obtain ⟨y7,a8,h⟩:=bind_some h
  refine rc 2 [6] hs ?_;intro K6 ak
  refine Av _ (Xt w0 hE hM hP hT n _ _ _  _ a8) (hv hs) ?_
  refine ne hs ak ?_
  clear ak
  exact rt h hs m t
 have k:=hs.1
 refine sk [1,2,3] hs Z ?_
 clear Z
 obtain ⟨q,ba,h⟩:=bind_some h
 obtain ⟨a9,Y,h⟩:=bind_some h
 refine rc 3 [2,7,8] hs ?_;intro K8 am
 refine Av _ (Ie w0 _ _ _ a0 _ ba) (hv hs) ?_
 refine nc hs ?_
 refine Av _ (PO w0 n _ _ _ a1 _ Y) (hv hs) ?_
 refine ne hs am ?_
 clear am
 obtain ⟨bj,aj,h⟩:=bind_some h
 refine rc 2 [2,7,9] hs ?_;intro K11 w
 refine Av _ (U9 w0 hE hM hP hT n _ _ _ q a9 _ aj) (hv hs) ?_
 refine ne hs w ?_
 clear w
 refine rg [2,7,9,10] hs ?_
 refine AD (fun e st=>∃ (j:Stt) (l:List AV),Ck e st B Rw L [(2,true,.list (a2.map QH) .none),(7,true,.box (B.length+1) 0),(10,true,.box (B.length+2) 0)] [.val (.int .u8 a0.1)::(.val (.int .u8 a0.2.1)::(.val (.int .u8 a0.2.2.1)::([.val (.int .u8 a0.2.2.2)]))),PD q,l] [] (l.map AV.pubCell=Dx j/\ZaJ n a2 q j=some r)) ?_ ?_
 ·intro K16 z
  refine rg [2,7,9,10,36] hs ?_
  refine B6 h hs ?_ ?_<;>intro hs h
  ·obtain ⟨bh,h⟩:=Au h
   obtain ⟨az,ax,a4,Q,h⟩:=ix NJ h
   have hs:=Ad Q hs
   refine rl [2,7,10] hs z ?_
   exact ⟨az.state,_,([]),Rw,ef hs,ef hs,t,ef hs,h⟩
  refine sk [2,7,10] hs z ?_
  exact ⟨(Stt.mk 0 0 ([])),_,([]),Rw,ef hs,ef hs,t,ef hs,h⟩
 ·clear h;rintro e st ⟨j,l,Xk15,Rk15,rfl,rfl,t,bd,h⟩
  rw [ZaJ] at h
  refine GR (B.length+2) (by first | rfl | (simp only [Ea,Da,EF,DR];rfl)) bd ?_;simp +decide only [go_sem,Nat.reduceAdd]
  show D8 _ _ _ _ _ _ _ _ [(2,true,.list (a2.map QH) .none),(7,true,.box (B.length+1) 0),(10,true,.box (B.length+2) 0)] ⟨B++([.val (.int .u8 a0.1)::(.val (.int .u8 a0.2.1)::(.val (.int .u8 a0.2.2.1)::([.val (.int .u8 a0.2.2.2)]))),PD q,Dx j]++Xk15),Rk15,L⟩
  refine Go.Ev.td hN ah V m t ?_
  apply Am;intro K21 u
  obtain ⟨N,au,aw,c,h⟩:=ix QH h
  have d:(a2.map QH).getD 0 .junk=_:=c
  obtain ⟨H,a5,bc,b,h⟩:=ix QH h
  have g:(a2.map QH).getD 1 .junk=_:=b
  apply D9 G6 [6,7,8,9] [7,10,11,12] kr (fun s=>∃ (X:Ao) (rows:Ap),s=⟨B++([.val (.int .u8 a0.1)::(.val (.int .u8 a0.2.1)::(.val (.int .u8 a0.2.2.1)::([.val (.int .u8 a0.2.2.2)]))),PD q,Dx j]++X),rows,L⟩) 5 (B.length+3)
  ·simp +decide only [go_sem,Nat.reduceAdd]
  ·rintro s ⟨X,rows,rfl⟩
   refine ⟨1,?_⟩
   rw [An];simp +decide only [go_sem,Nat.reduceAdd,Bh,k,c,d,b,g]
   (repeat' apply Ad)<;>first | rfl | exact cl
  ·refine Good.mk [6,7] kr ⟨[],_,by first | rfl | simp only [List.append_nil,List.nil_append]⟩ ?_ ?_
   ·intro h;exact absurd h (by decide)
   ·intro i hi;simp only [List.mem_cons,List.not_mem_nil,or_false] at hi
    rcases hi with rfl | rfl
    ·apply Bl rfl rfl ev
     ·simp +decide only [go_sem,Nat.reduceAdd,Cd,k,c,d,b,g]
      (repeat' apply Ad)<;>first | rfl | exact cl
     ·simp +decide only [go_sem,Nat.reduceAdd,k,c,d,b,g]
      exact gd (tg (a:=(7,8,9,[7,10,11,12]))) (Ad g (Ad b (Ad d (Ad c hs))))
    ·apply Bl rfl rfl ev
     ·simp +decide only [go_sem,Nat.reduceAdd,Cd,k,c,d,b,g]
      (repeat' apply Ad)<;>first | rfl | exact cl
     ·simp +decide only [go_sem,Nat.reduceAdd,k,c,d,b,g]
      refine Good.mk [6] kr ⟨_,_,by first | rfl | simp only [List.append_nil,List.nil_append]⟩ ?_ ?_
      ·intro h;exact absurd h (by decide)
      ·intro i hi;simp only [List.mem_cons,List.not_mem_nil,or_false] at hi
       subst hi
       ·apply Bl rfl rfl ev
        ·simp +decide only [go_sem,Nat.reduceAdd,Cd,k,c,d,b,g]
         (repeat' apply Ad)<;>first | rfl | exact cl
        ·simp +decide only [go_sem,Nat.reduceAdd,k,c,d,b,g]
         refine Good.mk [8] kr ⟨_,_,by first | rfl | simp only [List.append_nil,List.nil_append]⟩ ?_ ?_
         ·intro h;exact absurd h (by decide)
         ·intro i hi;simp only [List.mem_cons,List.not_mem_nil,or_false] at hi
          subst hi
          ·apply Bl rfl rfl ev
           ·simp +decide only [go_sem,Nat.reduceAdd,Cd,k,c,d,b,g]
            (repeat' apply Ad)<;>first | rfl | exact cl
           ·simp +decide only [go_sem,Nat.reduceAdd,k,c,d,b,g]
            refine Good.mk [9] kr ⟨_,_,by first | rfl | simp only [List.append_nil,List.nil_append]⟩ ?_ ?_
            ·intro h;exact absurd h (by decide)
            ·intro i hi;simp only [List.mem_cons,List.not_mem_nil,or_false] at hi
             subst hi
             ·apply Bl rfl rfl ev
              ·simp +decide only [go_sem,Nat.reduceAdd,Cd,k,c,d,b,g]
               (repeat' apply Ad)<;>first | rfl | exact cl
              ·simp +decide only [go_sem,Nat.reduceAdd,k,c,d,b,g]
               refine Good.mk [] kr ⟨_,_,by first | rfl | simp only [List.append_nil,List.nil_append]⟩ ?_ ?_
               ·intro _;refine UN (own:=[.val (.int .u8 a0.1)::(.val (.int .u8 a0.2.1)::(.val (.int .u8 a0.2.2.1)::([.val (.int .u8 a0.2.2.2)]))),PD q,Dx j]) rfl (Yp rfl m t ow) ow ow ?_
                refine Jt (by first | exact .inl ⟨rfl,rfl,rfl⟩ | exact .inr (.inl ⟨rfl,rfl,rfl⟩) | (refine .inr (.inr ⟨rfl,?_⟩);(simp +decide only [go_sem,Nat.reduceAdd])<;>(try (repeat' apply Ad))<;>first | omega | assumption)) ?_
                refine Jt (by first | exact .inl ⟨rfl,rfl,rfl⟩ | exact .inr (.inl ⟨rfl,rfl,rfl⟩) | (refine .inr (.inr ⟨rfl,?_⟩);(simp +decide only [go_sem,Nat.reduceAdd])<;>(try (repeat' apply Ad))<;>first | omega | assumption)) ?_
                refine Jt (by first | exact .inl ⟨rfl,rfl,rfl⟩ | exact .inr (.inl ⟨rfl,rfl,rfl⟩) | (refine .inr (.inr ⟨rfl,?_⟩);(simp +decide only [go_sem,Nat.reduceAdd])<;>(try (repeat' apply Ad))<;>first | omega | assumption)) ?_
                refine Jt (by first | exact .inl ⟨rfl,rfl,rfl⟩ | exact .inr (.inl ⟨rfl,rfl,rfl⟩) | (refine .inr (.inr ⟨rfl,?_⟩);(simp +decide only [go_sem,Nat.reduceAdd])<;>(try (repeat' apply Ad))<;>first | omega | assumption)) ?_
                exact trivial
               ·intro i hi;cases hi
  simp +decide only [go_sem,Nat.reduceAdd,k,c,d,b,g]
  (repeat' apply Ad)<;>first | refine u _ _ ?_ | exact cl
  clear u
  have hs:=Ad c hs
  have hs:=Ad d hs
  have hs:=Ad b hs
  have hs:=Ad g hs
  refine rg [7,10,11,12] hs ?_
  obtain ⟨bg,U,h⟩:=bind_some h
  obtain ⟨ao,ai,h⟩:=bind_some h
  obtain ⟨bf,be,O⟩:=Bo ai
  have p:=Bz (f:=NA) O
  have J:(bg.map NA).getD 0 .junk=_:=p
  have hs:=Ad p hs
  have hs:=Ad J hs
  refine rc 2 [7,10,12,13] hs ?_;intro K25 D
  refine Av _ (PO w0 n _ _ _ ([(4,N.2.1,N.2.2.1,N.2.2.2)]) _ U) (hv hs) ?_
  refine ne hs D ?_
  clear D
  obtain ⟨a6,aa,h⟩:=bind_some h
  obtain ⟨ad,ar,h⟩:=bind_some h
  obtain ⟨ay,bb,G⟩:=Bo ar
  have o:=Bz (f:=NA) G
  have K:(a6.map NA).getD 0 .junk=_:=o
  have hs:=Ad o hs
  have hs:=Ad K hs
  refine rc 2 [7,10,13,14] hs ?_;intro K28 F
  refine Av _ (PO w0 n _ _ _ ([(4,H.2.1,H.2.2.1,H.2.2.2)]) _ aa) (hv hs) ?_
  refine ne hs F ?_
  clear F
  apply Am;intro K31 y
  refine rg [7,10,13,14,66] hs ?_
  refine B6 h hs ?_ ?_<;>intro hs h
  ·refine rg [6] hs ?_
   exact rt h hs m t
  refine sk [7,10,13,14] hs y ?_
  clear y
  obtain ⟨a7,ae,h⟩:=bind_some h
  refine rc 2 [7,10,13,14,15] hs ?_;intro K35 C
  refine Av _ (P3 w0 hE hM hP hT n _ _ _ q j ao _ ae) (hv hs) ?_
  refine ne hs C ?_
  clear C
  obtain ⟨bk,af,h⟩:=bind_some h
  refine rc 2 [7,10,13,14,15,16] hs ?_;intro K37 v
  refine Av _ (P3 w0 hE hM hP hT n _ _ _ q a7.state ad _ af) (hv hs) ?_
  refine ne hs v ?_
  clear v
  obtain ⟨a3,ab,h⟩:=bind_some h
  refine rc 2 [7,13,15,16,17] hs ?_;intro K39 E
  refine Av _ (P3 w0 hE hM hP hT n _ _ _ q j ad _ ab) (hv hs) ?_
  refine ne hs E ?_
  clear E
  obtain ⟨bi,ap,h⟩:=bind_some h
  refine rc 2 [15,16,17,18] hs ?_;intro K41 aq
  refine Av _ (P3 w0 hE hM hP hT n _ _ _ q a3.state ao _ ap) (hv hs) ?_
  exact go (tg (a:=((([6],()),((),())),((),())))) h hs hN ah V m t (q2 (Uh w0 n) (ZnP w0 n)) (q1 aq)
def Zgb (p:CP) (i c:Nat) (d u:Bool) (w:Nat) (es:List CE):Option (Nat × CM × Nat) × List (CM × CR) × List CE :=
 match if u then none else LC c es with
 | none=>(none,[],es)
 | some e=>if d=false then (none,[(e.m,.refused)],es.filter fun x=>x.num != c) else if 9<w\/p.res<e.m.v+w then (none,[(e.m,.type)],es.filter fun x=>x.num != c) else (some (i,e.m,w),[],es.filter fun x=>x.num != c)
theorem ZnZ (p:CP) (s:CS) (i:Nat) (t:Int) (c:Nat) (d u:Bool) (w:Nat):Du p s (.rep i t c d u w)=⟨⟨s.num,(Zgb p i c d u w s.es).2.2⟩,(Zgb p i c d u w s.es).1,none,(Zgb p i c d u w s.es).2.1⟩:=by
 cases hf:(if u=true then none else LC c s.es) with
 | none=>simp only [Du,Zgb,hf]
 | some e =>
  simp only [Du,Zgb,hf]
  by_cases h1:d=false
  ·simp only [Ah h1]
  ·by_cases h2:9<w\/p.res<e.m.v+w
   ·simp only [Ai h1,Ah h2]
   ·simp only [Ai h1,Ai h2]
theorem ZmW (p:CP) (i c:Nat) (d u:Bool) (w:Nat) (es:List CE):(Zgb p i c d u w es).2.2=if u then es else es.filter fun x=>x.num != c:=by
 cases u with
 | true=>rfl
 | false =>
  rw [Ai (by decide)]
  cases hf:LC c es with
  | none =>
   have a:=Zs hf
   have e:Zgb p i c d false w es=(none,[],es):=by simp only [Zgb,Bool.false_eq_true,if_false,hf]
   rw [e]
   exact (List.filter_eq_self.2 fun x b=>by have:=a x b;simpa using this).symm
  | some q =>
   simp only [Zgb,Bool.false_eq_true,if_false,hf]
   split
   ·rfl
   ·split<;>rfl
theorem Zl0 {es:List CE} {c c2:Nat} (h:c≠c2):LC c (es.filter fun x=>x.num != c2)=LC c es:=by
 unfold LC
 induction es with
 | nil=>rfl
 | cons e es ih =>
  by_cases h1:e.num=c2
  ·rw [List.filter_cons_of_neg (by simp [h1]),List.find?_cons_of_neg (by simp;omega)];exact ih
  ·rw [List.filter_cons_of_pos (by simp [h1])]
   by_cases h2:e.num=c
   ·rw [List.find?_cons_of_pos (by simp [h2]),List.find?_cons_of_pos (by simp [h2])]
   ·rw [List.find?_cons_of_neg (by simp [h2]),List.find?_cons_of_neg (by simp [h2])];exact ih
theorem Zny (p:CP) (i c:Nat) (d u:Bool) (w:Nat) (es es2:List CE) (h:LC c es=LC c es2):(Zgb p i c d u w es).1=(Zgb p i c d u w es2).1/\(Zgb p i c d u w es).2.1=(Zgb p i c d u w es2).2.1:=by
 unfold Zgb
 rw [h]
 split
 ·exact ⟨rfl,rfl⟩
 ·split
  ·exact ⟨rfl,rfl⟩
  ·split<;>exact ⟨rfl,rfl⟩
theorem ZnU (p:CP) (i c:Nat) (d u:Bool) (w:Nat) (es:List CE):((Zgb p i c d u w es).1=none/\(Zgb p i c d u w es).2.1=[])\/(∃ r,(Zgb p i c d u w es).1=none/\(Zgb p i c d u w es).2.1=[r])\/∃ x,(Zgb p i c d u w es).1=some x/\(Zgb p i c d u w es).2.1=[]:=by
 unfold Zgb
 split
 ·exact .inl ⟨rfl,rfl⟩
 ·split
  ·exact .inr (.inl ⟨_,rfl,rfl⟩)
  ·split
   ·exact .inr (.inl ⟨_,rfl,rfl⟩)
   ·exact .inr (.inr ⟨_,rfl,rfl⟩)
theorem Zn7 (a:ByteArray):MY a a=true:=by simp [MY]
theorem ZnS (n:Nat) (hn:100000<=n) (S T:CS) (out:Option (Nat × CM × Nat)) (rej:List (CM × CR)) (h:(out=none/\rej=[])\/(∃ r,out=none/\rej=[r])\/∃ x,out=some x/\rej=[]):ZeX n (Hi ⟨S,out,none,rej⟩) (Hi ⟨T,out,none,rej⟩)=some true:=by
 obtain ⟨q,hq⟩:∃ q,n=q+2:=⟨n-2,by omega⟩
 rcases h with ⟨rfl,rfl⟩ | ⟨r,rfl,rfl⟩ | ⟨x,rfl,rfl⟩
 ·rw [hq];rfl
 ·have e:((Hi ⟨S,none,none,[r]⟩).outputs.length:Int)=0:=rfl
  have d:((Hi ⟨S,none,none,[r]⟩).letters.length:Int)=1:=rfl
  have f:(((!(decide ((((Hi ⟨S,none,none,[r]⟩).outputs.length:Int))=(((Hi ⟨T,none,none,[r]⟩).outputs.length:Int)))))||(!(decide ((((Hi ⟨S,none,none,[r]⟩).letters.length:Int))=(((Hi ⟨T,none,none,[r]⟩).letters.length:Int))))))||(!(decide ((((Hi ⟨S,none,none,[r]⟩).fates.length:Int))=(((Hi ⟨T,none,none,[r]⟩).fates.length:Int))))))=false:=rfl
  have c:∀ S:CS,Dw (Hi ⟨S,none,none,[r]⟩).letters 0=some (B5 r.1):=fun _=>rfl
  have g:∀ S:CS,Dw (Hi ⟨S,none,none,[r]⟩).fates 0=some (HU r):=fun _=>rfl
  have a:∀ m,Zde n (Hi ⟨S,none,none,[r]⟩) (Hi ⟨T,none,none,[r]⟩) (m+2) 0=some true:=fun m=>by
   rw [Zde,d,Ah (by decide),c,Ae,c,Ae,Qs n hn _ (KX r.1),Ae,Ai (by decide),g,Ae,g,Ae,Zn7,Ai (by decide),Ah (by decide),Zde,d,Ai (by decide)]
   rfl
  have b:∀ m,ZdH n (Hi ⟨S,none,none,[r]⟩) (Hi ⟨T,none,none,[r]⟩) (m+2) 0=some true:=fun m=>by
   have:=a q
   rw [<-hq] at this
   rw [ZdH,e,Ai (by decide),Zfi]
   exact this
  have:=b q
  rw [<-hq] at this
  rw [ZeX,f,Ai (by decide)]
  exact this
 ·have e:((Hi ⟨S,some x,none,[]⟩).outputs.length:Int)=1:=rfl
  have d:((Hi ⟨S,some x,none,[]⟩).letters.length:Int)=0:=rfl
  have f:(((!(decide ((((Hi ⟨S,some x,none,[]⟩).outputs.length:Int))=(((Hi ⟨T,some x,none,[]⟩).outputs.length:Int)))))||(!(decide ((((Hi ⟨S,some x,none,[]⟩).letters.length:Int))=(((Hi ⟨T,some x,none,[]⟩).letters.length:Int))))))||(!(decide ((((Hi ⟨S,some x,none,[]⟩).fates.length:Int))=(((Hi ⟨T,some x,none,[]⟩).fates.length:Int))))))=false:=rfl
  have c:∀ S:CS,Dw (Hi ⟨S,some x,none,[]⟩).outputs 0=some ((0:Int),Msg.mk ((x.1:Int)+1,[1,0]) (100+(x.2.1.i:Int)) [(x.2.1.i:Int)+1] (QV x.2.1 x.2.2)):=fun _=>rfl
  have a:∀ m,Zde n (Hi ⟨S,some x,none,[]⟩) (Hi ⟨T,some x,none,[]⟩) (m+1) 0=some true:=fun m=>by
   rw [Zde,d,Ai (by decide)]
   rfl
  have b:∀ m,ZdH n (Hi ⟨S,some x,none,[]⟩) (Hi ⟨T,some x,none,[]⟩) (m+2) 0=some true:=fun m=>by
   have:=a (q+1)
   rw [show q+1+1=n by omega] at this
   rw [ZdH,e,Ah (by decide),c,Ae,c,Ae,Ag rfl,Ai (by decide)]
   show (DT n (QV x.2.1 x.2.2) (QV x.2.1 x.2.2)).bind _=_
   rw [Rk n hn _ (Pi x.2.1 x.2.2),Ae,Ai (by decide),Ah (by decide),ZdH,e,Ai (by decide),Zfi]
   exact this
  have:=b q
  rw [<-hq] at this
  rw [ZeX,f,Ai (by decide)]
  exact this
theorem Zn5 (n:Nat) (hn:100000<=n) (e:Int × Int × Int × Int) (he:ev4 e):∃ t c d u w,w<12/\IP n [((4:Int),e.2.1,e.2.2.1,e.2.2.2)]=some [B9 (.rep 0 t c d u w)]:=by
 obtain ⟨_,g2,g3,g4⟩:=he
 have a:∀ x∈[((4:Int),e.2.1,e.2.2.1,e.2.2.2)],ev4 x:=fun x f=>by
  rw [List.mem_singleton.1 f];exact ⟨⟨(by show (0:Int)<=4;decide),(by show (4:Int)<=255;decide)⟩,g2,g3,g4⟩
 have b:=ZbM n (by omega) [((4:Int),e.2.1,e.2.2.1,e.2.2.2)] a
 have h:=XE g3.1 12 (by decide)
 refine ⟨0+e.2.2.2.tmod 8,(e.2.1.tmod 16).toNat,decide (0<e.2.2.1.tmod 4),decide ((e.2.2.1.tdiv 4).tmod 8=7),(e.2.2.1.tmod 12).toNat,by omega,?_⟩
 rw [b,RO,Ah (by decide),RO]
 have g:((4:Int).tmod 8=4\/(4:Int).tmod 8=5\/(4:Int).tmod 8=6) := .inl (by decide)
 unfold UA
 simp only [Ah g]
 rfl
theorem Zn2 (n:Nat) (hn:100000<=n) (p:CP) (hp:p.ok) (x y:Int × Int × Int × Int) (hx:ev4 x) (hy:ev4 y) (s:CS) {now:Int} {k:Nat} (hs:s.ok p now k):ZaJ n [x,y] (Be p) (Aw s)=some true:=by
 obtain ⟨t,c,d,u,w,J,h1⟩:=Zn5 n hn x hx
 obtain ⟨f,a,b,u2,e,g,h2⟩:=Zn5 n hn y hy
 have Z:Dw [x,y] 0=some x:=rfl
 have i1:Dw [x,y] 1=some y:=rfl
 have H:∀ z:Inp,Dw [z] 0=some z:=fun _=>rfl
 rw [ZaJ,Z,Ae,i1,Ae,h1,Ae,H,Ae,h2,Ae,H,Ae]
 by_cases hc:c=a
 ·rw [Ag (show (B9 (.rep 0 t c d u w)).call=(B9 (.rep 0 f a b u2 e)).call by rw [hc];rfl),Ah rfl]
 ·have C:¬ (B9 (.rep 0 t c d u w)).call=(B9 (.rep 0 f a b u2 e)).call:=by
   show ¬ (c:Int)=(a:Int)
   omega
  have hl:=hs.len
  have F:=hp.lim
  have sa:=Zer n hn p hp s hs 0 t c d u w J
  have E:=ZnW hs 0 t c d u w
  have sb:=Zer n hn p hp _ E 0 f a b u2 e g
  have sc:=Zer n hn p hp s hs 0 f a b u2 e g
  have oc:=ZnW hs 0 f a b u2 e
  have Y:=Zer n hn p hp _ oc 0 t c d u w J
  have ob:=ZnW E 0 f a b u2 e
  have aa:=ob.len
  have o:=ZnZ p s 0 t c d u w
  have m:=ZnZ p s 0 f a b u2 e
  have N:=ZnZ p (Du p s (.rep 0 t c d u w)).st 0 f a b u2 e
  have G:=ZnZ p (Du p s (.rep 0 f a b u2 e)).st 0 t c d u w
  have K:(Du p s (.rep 0 t c d u w)).st.es=if u then s.es else s.es.filter fun x=>x.num != c:=by rw [o];exact ZmW p 0 c d u w s.es
  have O:(Du p s (.rep 0 f a b u2 e)).st.es=if u2 then s.es else s.es.filter fun x=>x.num != a:=by rw [m];exact ZmW p 0 a b u2 e s.es
  have Q:(Du p s (.rep 0 t c d u w)).st.num=s.num:=by rw [o]
  have nc:(Du p s (.rep 0 f a b u2 e)).st.num=s.num:=by rw [m]
  have fa:LC a (Du p s (.rep 0 t c d u w)).st.es=LC a s.es:=by
   rw [K];split
   ·rfl
   ·exact Zl0 fun q=>hc q.symm
  have U:LC c (Du p s (.rep 0 f a b u2 e)).st.es=LC c s.es:=by
   rw [O];split
   ·rfl
   ·exact Zl0 hc
  have j:(Du p (Du p s (.rep 0 t c d u w)).st (.rep 0 f a b u2 e)).st=(Du p (Du p s (.rep 0 f a b u2 e)).st (.rep 0 t c d u w)).st:=by
   rw [N,G]
   show CS.mk _ _=CS.mk _ _
   rw [Q,nc,ZmW,ZmW,K,O]
   congr 1
   cases u<;>cases u2<;>simp only [if_true,Bool.false_eq_true,if_false]
   rw [List.filter_filter,List.filter_filter]
   refine List.filter_congr fun x _=>Bool.and_comm _ _
  obtain ⟨b1,b2⟩:=Zny p 0 a b u2 e _ _ fa
  obtain ⟨V,h⟩:=Zny p 0 c d u w _ _ U
  have l:HZ n (Hi (Du p (Du p s (.rep 0 t c d u w)).st (.rep 0 f a b u2 e))).state (Hi (Du p (Du p s (.rep 0 f a b u2 e)).st (.rep 0 t c d u w))).state=some true:=by
   show HZ n (Aw (Du p (Du p s (.rep 0 t c d u w)).st (.rep 0 f a b u2 e)).st) (Aw (Du p (Du p s (.rep 0 f a b u2 e)).st (.rep 0 t c d u w)).st)=some true
   rw [<-j]
   exact WS n hn _ (NC _ (by omega))
  have r:ZeX n (Hi (Du p s (.rep 0 t c d u w))) (Hi (Du p (Du p s (.rep 0 f a b u2 e)).st (.rep 0 t c d u w)))=some true:=by
   rw [G,V,h,o]
   exact ZnS n hn _ _ _ _ (ZnU p 0 c d u w s.es)
  have D:ZeX n (Hi (Du p (Du p s (.rep 0 t c d u w)).st (.rep 0 f a b u2 e))) (Hi (Du p s (.rep 0 f a b u2 e)))=some true:=by
   rw [N,b1,b2,m]
   exact ZnS n hn _ _ _ _ (ZnU p 0 a b u2 e s.es)
  have i:BU n (Be p) (Hi (Du p s (.rep 0 t c d u w))).state (B9 (.rep 0 f a b u2 e))=some (Hi (Du p (Du p s (.rep 0 t c d u w)).st (.rep 0 f a b u2 e))):=sb
  have v:BU n (Be p) (Hi (Du p s (.rep 0 f a b u2 e))).state (B9 (.rep 0 t c d u w))=some (Hi (Du p (Du p s (.rep 0 f a b u2 e)).st (.rep 0 t c d u w))):=Y
  rw [Af C,Ai (by decide),sa,Ae,i,Ae,sc,Ae,v,Ae,l,Ae,Ah rfl,r,Ae,Ah rfl,D]
  rfl
theorem Zn3 (n:Nat) (hn:100000<=n) (sk:Int × Int × Int × Int) (evs pair:List (Int × Int × Int × Int)) (hsk:ev4 sk) (hev:∀ e∈evs,ev4 e) (hpr:∀ e∈pair,ev4 e):ZeU n sk evs pair=some true:=by
 rw [ZeU,ZV n (by omega),Ae]
 by_cases h2:pair.length=2
 ·obtain ⟨x,y,rfl⟩:∃ x y,pair=[x,y]:=by
   match pair,h2 with
   | [x,y],_=>exact ⟨x,y,rfl⟩
  have f:=Ziw hsk
  have b:=Uz evs 0 0 (Int.le_refl _) (by omega) hev
  have o:=RP _ 0 0 b (by omega)
  obtain ⟨i,a⟩:=ZnV f _ (CS.ok0 _) b
  have d:=Zn2 n hn _ f x y (hpr x (by simp)) (hpr y (by simp)) _ a
  have h:((!true)||(!(decide (((([x,y]:List (Int × Int × Int × Int)).length:Nat):Int)=2))))=false:=rfl
  rw [h,Ai (by decide),ZaB hsk,Ae,ZbM n (by omega) evs hev,Ae,Zjn n hn _ f _ b,Ae]
  by_cases hne:RO 0 0 evs=[]
  ·rw [hne] at d ⊢
   have m:decide ((0:Int)<((((ZZ (cP sk) ⟨0,[]⟩ []).map Hi).length:Nat):Int))=false:=rfl
   rw [m,Ai (by decide)]
   exact d
  ·obtain ⟨g,c⟩:=Zob (cP sk) _ hne
   have k:0<(RO 0 0 evs).length:=List.length_pos_iff.2 hne
   have j:((ZZ (cP sk) ⟨0,[]⟩ (RO 0 0 evs)).map Hi).length=(RO 0 0 evs).length:=by rw [List.length_map,Zkn]
   have l:((((ZZ (cP sk) ⟨0,[]⟩ (RO 0 0 evs)).map Hi).length:Nat):Int)-1=((((ZZ (cP sk) ⟨0,[]⟩ (RO 0 0 evs)).map Hi).length-1:Nat):Int):=by omega
   rw [Ag (by omega),Ah rfl,l,Ah (by unfold BN;omega),Bj g,Ae,c]
   exact d
 ·have h:((!true)||(!(decide (((pair.length:Nat):Int)=2))))=true:=by rw [Ac];rfl
  rw [h,Ah rfl,Ae]
end Go.Proofs.YtbfenpeblbonlaaGreatDoor
