/-
  Part 12 of the proof: rules and walks that the claim's last text uses.
-/
import Derived.Carry
import Derived.ChangeOld
import Derived.ChangeSlices
import Derived.Deep.DeepHandedRow
import Derived.Deep.DeepWitnessRowRef
import Derived.Lib.LaidIn
import Derived.Lib.LaidU8T
import Derived.PinnedBridge
import Derived.ProofKit
import Derived.SevenTiedAt
import Derived.SizedLaws
import Derived.Test.YtbfenpeblbonlaaGreatDoorCards
import Derived.Test.YtbfenpeblbonlaaGreatDoorTie
import Derived.Test.YtbfenpeblbonlaaGreatDoorCb1
import Derived.Test.YtbfenpeblbonlaaGreatDoorCb2
import Derived.Test.YtbfenpeblbonlaaGreatDoorCb3
import Derived.Test.YtbfenpeblbonlaaGreatDoorCb4
import Derived.Test.YtbfenpeblbonlaaGreatDoorCb5
import Derived.Test.YtbfenpeblbonlaaGreatDoorCb6
import Derived.Test.YtbfenpeblbonlaaGreatDoorCb7
import Derived.Test.YtbfenpeblbonlaaGreatDoorCb8
import Derived.Test.YtbfenpeblbonlaaGreatDoorCb9
import Derived.Test.YtbfenpeblbonlaaGreatDoorCb10
import Derived.Test.YtbfenpeblbonlaaGreatDoorCb11
set_option linter.unusedSimpArgs false
set_option linter.unusedVariables false
set_option maxRecDepth 100000
set_option maxHeartbeats 4000000
namespace Go.Ev
open Go Go.RowKit
theorem ZnR {W:World} {v u t:Value} {x y z:AV} (h:R W Mem.start W v x) (k:R W Mem.start W u y) (l:R W Mem.start W t z):RowR W Mem.start W #[v,u,t] [x,y,z]:=⟨rfl,fun i b a=>by
 have:i=0\/i=1\/i=2:=by simp at a;omega
 rcases this with rfl | rfl | rfl
 ·exact h
 ·exact k
 ·exact l⟩
end Go.Ev
namespace Go.Proofs.YtbfenpeblbonlaaGreatDoor
open Go Go.Shelf Go.ChangeShapes Go.WideShapes Go.ChangeAt Go.RowKit Go.Lib Go.Ev
open Go.ChangeMaps (open_string shut_string)
set_option maxRecDepth 100000
end Go.Proofs.YtbfenpeblbonlaaGreatDoor
namespace Go.Proofs.YtbfenpeblbonlaaGreatDoor
open Go Go.RowKit Go.Ev
theorem ZaR:∀ a b:List UInt8,Lib.compareBytes a b=0->a=b
 | [],[],_=>rfl
 | [],_::_,h=>absurd (show (-1:Int)=0 from h) (by decide)
 | _::_,[],h=>absurd (show (1:Int)=0 from h) (by decide)
 | x::a,y::b,h=>by
  simp only [Lib.compareBytes] at h
  by_cases h1:x<y
  ·simp [h1] at h
  ·by_cases h2:y<x
   ·simp [h1,h2] at h
   ·simp only [h1,h2,if_false] at h
    rw [ZaR a b h]
    have:x=y:=by
     rw [UInt8.lt_iff_toNat_lt] at h1 h2
     exact UInt8.toNat_inj.1 (by omega)
    rw [this]
theorem VY (a b:ByteArray):VV a b=0<->a=b:=by
 unfold VV
 constructor
 ·intro h;exact ZL (ZaR _ _ h)
 ·rintro rfl;exact W5 _
theorem OX {α:Type} (l m:List α) (i:Nat) (h1:i<l.length) (h2:i<m.length):l.drop i=m.drop i<->l[i]=m[i]/\l.drop (i+1)=m.drop (i+1):=by
 rw [List.drop_eq_getElem_cons h1,List.drop_eq_getElem_cons h2,List.cons.injEq]
def GW (n:Nat)  : Option Bool :=
 some (true)
def BZ (n:Nat) (h:List Vl) (a1:List Vl) (a2:Vl->Vl->Option Bool):Nat->Int->Option Bool
 | 0,_=>none
 | m+1,b =>
  if decide (b<(h.length:Int)) then
   (Dw h b).bind fun g =>
   (Dw a1 b).bind fun y =>
   (a2 g y).bind fun q =>
   if !q then
    some (false)
   else
    if BN (b+1) then
     (BZ n h a1 a2 m) (b+1)
    else none
  else
   GW n 
def Ef (n:Nat) (g:List Vl) (b:List Vl) (h:Vl->Vl->Option Bool):Option Bool :=
 if !(decide ((g.length:Int)=(b.length:Int))) then
  some (false)
 else
  BZ n g b h n 0
theorem Oa (w0:World) (n:Nat) (B:Ao) (Rw:Ap) (L:Aq) (a0:List Vl) (a1:List Vl) (fa2:FuncId) (ca2:List AV) (a2:Vl->Vl->Option Bool) (ha2:∀ (x0:Vl) (x1:Vl) r,a2 x0 x1=some r->∀ B' rows,B <+: B'->Rw <+: rows->ACalls Tryz.prog w0 fa2 ([.agg (x0.cs),.agg (x1.cs)]++ca2) ⟨B',rows,L⟩ fun v s=>v = .val (.bool r)/\s=⟨B',rows,L⟩) (r:Bool) (h:Ef n a0 a1 a2=some r) :
  ACalls Tryz.prog w0 73 [.list (a0.map En) .none,.list (a1.map En) .none,.clo fa2 ca2] ⟨B,Rw,L⟩ fun x st=>x = .val (.bool r)/\st=⟨B,Rw,L⟩:=by
 rw [Ef] at h
 refine hd [.tmp 6] Tryz.func73 Tryz.ntmps73 fun M0 W0 l i g c o f hs=>?_
 simp only [Ax]
 have d:=Cc (o (.clo fa2 ca2) (by simp))
 refine rg [0,1,2] hs ?_
 apply Am;intro K2 j
 refine rg [0,1,2,14] hs ?_
 refine B6 h hs ?_ ?_<;>intro hs h
 ·refine rg [6] hs ?_
  exact rt h hs c f
 refine sk [0,1,2] hs j ?_
 clear j
 refine AD (fun e st=>Ck e st B Rw L [] [] [] (GW n  = some r)) ?_ ?_
 ·intro K8 k
  refine rg [1,2,15,16,17] hs ?_
  apply Ar
  refine AA (fun m e st=>∃ (b:Int),Ck e st B Rw L [(1,true,.list (a1.map En) .none),(2,true,.clo fa2 ca2),(15,true,.list (a0.map En) .none),(16,true,Ak (a0.length:Int)),(17,true,Ak b)] [] [] (BZ n a0 a1 a2 m b=some r)) n ⟨0,([]),Rw,ef hs,ef hs,f,h⟩ ?_
  rintro ml10 e st ⟨b,Xl10,Rl10,rfl,rfl,f,h⟩ Ul10 Vl10
  cases ml10 with
  | zero=>cases h
  | succ ml10 =>
  rw [BZ] at h
  refine AO l i g rfl c f (H8 d f) (H8 d f) ?_
  exact go (tg (a:=([1,2,15,16,17,18],([1,2,15,16,17],[1,2,7,8,15,16,17],[1,2,8,9,15,16,17],[1,2,15,16,17,30],([6],()),[1,2,15,16,17],[1,2,15,16,17],()),[],()))) h hs l i g c f (q1 ha2) (q2 k (fun e s=>Vl10 ml10 e s (Nat.lt_succ_self _)))
 ·clear h;rintro e st ⟨Xk7,Rk7,rfl,rfl,f,h⟩
  rw [GW] at h
  refine AO l i g rfl c f (H8 d f) (H8 d f) ?_
  refine rg [6] hs ?_
  exact rt h hs c f
def DT (n:Nat) (b:Vl) (h:Vl):Option Bool :=
 (CB n b h).bind fun g =>
 some (decide (g=0))
theorem KB (w0:World) (n:Nat) (B:Ao) (Rw:Ap) (L:Aq) (a0:Vl) (a1:Vl) (r:Bool) (h:DT n a0 a1=some r) :
  ACalls Tryz.prog w0 43 [.agg (a0.cs),.agg (a1.cs)] ⟨B,Rw,L⟩ fun x st=>x = .val (.bool r)/\st=⟨B,Rw,L⟩:=by
 rw [DT] at h
 refine hd [.tmp 4] Tryz.func43 Tryz.ntmps43 fun M0 W0 e d c b g f hs=>?_
 simp only [Ax]
 exact go (tg (a:=([2,3],[4],()))) h hs e d c b f (q1 (Nr w0 n)) trivial
theorem ZM {a b:Nat}:decide ((a:Int)<=(b:Int))=decide (a<=b):=decide_eq_decide.2 ⟨fun h=>by omega,fun h=>by omega⟩
theorem UF (n:Nat) (a b:List (Vl)) (f:Vl->Vl->Option Int) (hl:a.length<=1000000000)
  (hr:∀ p∈a,∀ q∈b,∃ c,f p q=some c/\(c=0<->p=q)):∀ (k m i:Nat),i+k=a.length->k<m->∃ c,BR n a b f m i=some c/\(c=0<->a.drop i=b.drop i)
 | k,0,i,_,h=>absurd h (Nat.not_lt_zero _)
 | 0,m+1,i,hi,_=>by
  rw [BR,A4,Ac]
  simp only [Bool.false_eq_true,if_false]
  rw [Ew,A4,List.drop_eq_nil_of_le (show a.length<=i by omega)]
  by_cases h:a.length<b.length
  ·rw [Ag h]
   simp only [if_true]
   exact ⟨-1,rfl,⟨fun h=>absurd h (by decide),fun e=>by have:=List.drop_eq_nil_iff.1 e.symm;omega⟩⟩
  ·rw [Af h]
   simp only [Bool.false_eq_true,if_false]
   exact ⟨0,rfl,⟨fun _=>(List.drop_eq_nil_of_le (by omega)).symm,fun _=>rfl⟩⟩
 | k+1,m+1,i,hi,hm=>by
  have g:i<a.length:=by omega
  rw [BR,A4,Ag g]
  simp only [if_true,Bj g,Ae,ZM]
  by_cases d:i<b.length
  ·rw [Af (show ¬ b.length<=i by omega)]
   simp only [Bool.false_eq_true,if_false,Bj d,Ae]
   obtain ⟨c,e,j⟩:=hr _ (List.getElem_mem g) _ (List.getElem_mem d)
   rw [e,OX _ _ i g d]
   simp only [Ae]
   by_cases h0:c=0
   ·rw [Ag h0]
    simp only [Bool.not_true,Bool.false_eq_true,if_false]
    rw [Ah (A8 (by omega))]
    obtain ⟨l,o,d⟩:=UF n a b f hl hr k m (i+1) (by omega) (by omega)
    exact ⟨l,o,d.trans ⟨fun h=>⟨j.1 h0,h⟩,fun h=>h.2⟩⟩
   ·rw [Af h0]
    simp only [Bool.not_false,if_true]
    exact ⟨c,rfl,⟨fun h=>absurd h h0,fun h=>absurd (j.2 h.1) h0⟩⟩
  ·rw [Ag (show b.length<=i by omega)]
   simp only [if_true]
   refine ⟨1,rfl,⟨fun h=>absurd h (by decide),fun e=>?_⟩⟩
   rw [List.drop_eq_nil_of_le (show b.length<=i by omega)] at e
   have:=List.drop_eq_nil_iff.1 e
   omega
theorem Zm (n:Nat) (a b:List (Vl)) (f:Vl->Vl->Option Int) (hl:a.length<=1000000000) (hn:a.length<n)
  (hr:∀ p∈a,∀ q∈b,∃ c,f p q=some c/\(c=0<->p=q)):∃ c,DD n a b f=some c/\(c=0<->a=b) :=
 UF n a b f hl hr a.length n 0 (by omega) hn
theorem U5 (n:Nat) (a b:List (ByteArray × Vl)) (f:ByteArray × Vl->ByteArray × Vl->Option Int) (hl:a.length<=1000000000)
  (hr:∀ p∈a,∀ q∈b,∃ c,f p q=some c/\(c=0<->p=q)):∀ (k m i:Nat),i+k=a.length->k<m->∃ c,BQ n a b f m i=some c/\(c=0<->a.drop i=b.drop i)
 | k,0,i,_,h=>absurd h (Nat.not_lt_zero _)
 | 0,m+1,i,hi,_=>by
  rw [BQ,A4,Ac]
  simp only [Bool.false_eq_true,if_false]
  rw [Et,A4,List.drop_eq_nil_of_le (show a.length<=i by omega)]
  by_cases h:a.length<b.length
  ·rw [Ag h]
   simp only [if_true]
   exact ⟨-1,rfl,⟨fun h=>absurd h (by decide),fun e=>by have:=List.drop_eq_nil_iff.1 e.symm;omega⟩⟩
  ·rw [Af h]
   simp only [Bool.false_eq_true,if_false]
   exact ⟨0,rfl,⟨fun _=>(List.drop_eq_nil_of_le (by omega)).symm,fun _=>rfl⟩⟩
 | k+1,m+1,i,hi,hm=>by
  have g:i<a.length:=by omega
  rw [BQ,A4,Ag g]
  simp only [if_true,Bj g,Ae,ZM]
  by_cases d:i<b.length
  ·rw [Af (show ¬ b.length<=i by omega)]
   simp only [Bool.false_eq_true,if_false,Bj d,Ae]
   obtain ⟨c,e,j⟩:=hr _ (List.getElem_mem g) _ (List.getElem_mem d)
   rw [e,OX _ _ i g d]
   simp only [Ae]
   by_cases h0:c=0
   ·rw [Ag h0]
    simp only [Bool.not_true,Bool.false_eq_true,if_false]
    rw [Ah (A8 (by omega))]
    obtain ⟨l,o,d⟩:=U5 n a b f hl hr k m (i+1) (by omega) (by omega)
    exact ⟨l,o,d.trans ⟨fun h=>⟨j.1 h0,h⟩,fun h=>h.2⟩⟩
   ·rw [Af h0]
    simp only [Bool.not_false,if_true]
    exact ⟨c,rfl,⟨fun h=>absurd h h0,fun h=>absurd (j.2 h.1) h0⟩⟩
  ·rw [Ag (show b.length<=i by omega)]
   simp only [if_true]
   refine ⟨1,rfl,⟨fun h=>absurd h (by decide),fun e=>?_⟩⟩
   rw [List.drop_eq_nil_of_le (show b.length<=i by omega)] at e
   have:=List.drop_eq_nil_iff.1 e
   omega
theorem ZE (n:Nat) (a b:List (ByteArray × Vl)) (f:ByteArray × Vl->ByteArray × Vl->Option Int) (hl:a.length<=1000000000) (hn:a.length<n)
  (hr:∀ p∈a,∀ q∈b,∃ c,f p q=some c/\(c=0<->p=q)):∃ c,DL n a b f=some c/\(c=0<->a=b) :=
 U5 n a b f hl hr a.length n 0 (by omega) hn
theorem ZhL (n:Nat) (l:List Int) (hl:l.length<=1000000000):∀ (k m i:Nat),i+k=l.length->k<m->∃ c,Ec n l m i=some c/\(c=0<->∀ x∈l.drop i,x=0)
 | k,0,i,_,h=>absurd h (Nat.not_lt_zero _)
 | 0,m+1,i,hi,_=>by
  rw [Ec,A4,Ac]
  simp only [Bool.false_eq_true,if_false]
  exact ⟨0,rfl,by rw [List.drop_eq_nil_of_le (by omega)];simp⟩
 | k+1,m+1,i,hi,hm=>by
  have a:i<l.length:=by omega
  rw [Ec,A4,Ag a]
  simp only [if_true,Bj a,Ae]
  rw [List.drop_eq_getElem_cons a]
  by_cases h0:l[i]=0
  ·rw [Ag h0]
   simp only [Bool.not_true,Bool.false_eq_true,if_false]
   rw [Ah (A8 (by omega))]
   obtain ⟨d,e,b⟩:=ZhL n l hl k m (i+1) (by omega) (by omega)
   exact ⟨d,e,b.trans ⟨fun h x hx=>by rcases List.mem_cons.1 hx with rfl | hx;exact h0;exact h x hx,fun h x hx=>h x (List.mem_cons_of_mem _ hx)⟩⟩
  ·rw [Af h0]
   simp only [Bool.not_false,if_true]
   exact ⟨_,rfl,⟨fun h=>absurd h h0,fun h=>absurd (h _ (List.mem_cons_self ..)) h0⟩⟩
theorem ZdQ (n:Nat) (l:List Int) (hl:l.length<n) (h2:l.length<=1000000000):∃ c,EJ n l=some c/\(c=0<->∀ x∈l,x=0):=ZhL n l h2 l.length n 0 (by omega) hl
theorem Sr (a b:Int):(if a<b then (-1:Int) else if a=b then 0 else 1)=0<->a=b:=by
 by_cases h1:a<b
 ·rw [Ah h1];omega
 ·rw [Ai h1]
  by_cases h2:a=b
  ·simp [h2]
  ·simp [h2]
theorem Vl.lens' (v:Vl):v.list.length<v.size/\v.fields.length<v.size:=by have:=P8 v.list;have:=P1 v.fields;have:=v.size_eq;omega
theorem Oi:∀ (n:Nat) (a b:Vl),a.size+10<=n->a.size<=1000000000->∃ c,CB n a b=some c/\(c=0<->a=b)
 | 0,a,b,h,_=>by omega
 | n+1,a,b,h,hs=>by
  have w:=a.lens'
  rw [CB,Ip]
  obtain ⟨t,k,l⟩:=Zm n a.list b.list (fun x y=>CB n x y) (by omega) (by omega) (fun p d q _=>Oi n p q (by have:=a.list_size p d;omega) (by have:=a.list_size p d;omega))
  obtain ⟨i,j,f⟩:=ZE n a.fields b.fields (fun x y=>FX (CB n) n x y) (by omega) (by omega) (fun p d q _=>by
   obtain ⟨c,e,g⟩:=Oi n p.2 q.2 (by have:=a.field_size p d;omega) (by have:=a.field_size p d;omega)
   obtain ⟨i,j,f⟩:=ZdQ n [VV p.1 q.1,c] (by simp;omega) (by simp)
   refine ⟨i,by rw [FX,e,Ae,j];rfl,f.trans ?_⟩
   simp only [List.mem_cons,List.not_mem_nil,or_false,forall_eq_or_imp,forall_eq,VY,g]
   exact ⟨fun h=>Prod.ext h.1 h.2,fun h=>by rw [h];exact ⟨rfl,rfl⟩⟩)
  rw [k,Ae,j,Ae]
  obtain ⟨c,e,g⟩:=ZdQ n [if a.kind<b.kind then -1 else if a.kind=b.kind then 0 else 1,if a.int<b.int then -1 else if a.int=b.int then 0 else 1,if a.scale<b.scale then -1 else if a.scale=b.scale then 0 else 1,VV a.text b.text,t,i] (by simp;omega) (by simp)
  refine ⟨c,by rw [e];rfl,g.trans ?_⟩
  simp only [List.mem_cons,List.not_mem_nil,or_false,forall_eq_or_imp,forall_eq,VY,Sr,l,f]
  exact ⟨fun ⟨u,r,s,m,o,v⟩=>Vl.ext' u r s m o v,fun h=>by rw [h];exact ⟨rfl,rfl,rfl,rfl,rfl,rfl⟩⟩
theorem Zby (n:Nat) (a b:Vl) (h:a.size+10<=n) (hs:a.size<=1000000000):∃ c,DT n a b=some c/\(c=true<->a=b):=by
 obtain ⟨c,e,d⟩:=Oi n a b h hs
 exact ⟨decide (c=0),by rw [DT,e];rfl,by rw [decide_eq_true_eq];exact d⟩
def G9 (n:Nat)  : Option Bool :=
 some (true)
def Cb (n:Nat) (h:List Slt) (a1:List Slt) (a2:Slt->Slt->Option Bool):Nat->Int->Option Bool
 | 0,_=>none
 | m+1,b =>
  if decide (b<(h.length:Int)) then
   (Dw h b).bind fun g =>
   (Dw a1 b).bind fun y =>
   (a2 g y).bind fun q =>
   if !q then
    some (false)
   else
    if BN (b+1) then
     (Cb n h a1 a2 m) (b+1)
    else none
  else
   G9 n 
def EG (n:Nat) (g:List Slt) (b:List Slt) (h:Slt->Slt->Option Bool):Option Bool :=
 if !(decide ((g.length:Int)=(b.length:Int))) then
  some (false)
 else
  Cb n g b h n 0
theorem OL (w0:World) (n:Nat) (B:Ao) (Rw:Ap) (L:Aq) (a0:List Slt) (a1:List Slt) (fa2:FuncId) (ca2:List AV) (a2:Slt->Slt->Option Bool) (ha2:∀ (x0:Slt) (x1:Slt) r,a2 x0 x1=some r->∀ B' rows,B <+: B'->Rw <+: rows->ACalls Tryz.prog w0 fa2 ([.agg (O4 x0),.agg (O4 x1)]++ca2) ⟨B',rows,L⟩ fun v s=>v = .val (.bool r)/\s=⟨B',rows,L⟩) (r:Bool) (h:EG n a0 a1 a2=some r) :
  ACalls Tryz.prog w0 41 [.list (a0.map AZ) .none,.list (a1.map AZ) .none,.clo fa2 ca2] ⟨B,Rw,L⟩ fun x st=>x = .val (.bool r)/\st=⟨B,Rw,L⟩:=by
 rw [EG] at h
 refine hd [.tmp 6] Tryz.func41 Tryz.ntmps41 fun M0 W0 l i g c o f hs=>?_
 simp only [Ax]
 have d:=Cc (o (.clo fa2 ca2) (by simp))
 refine rg [0,1,2] hs ?_
 apply Am;intro K2 j
 refine rg [0,1,2,14] hs ?_
 refine B6 h hs ?_ ?_<;>intro hs h
 ·refine rg [6] hs ?_
  exact rt h hs c f
 refine sk [0,1,2] hs j ?_
 clear j
 refine AD (fun e st=>Ck e st B Rw L [] [] [] (G9 n  = some r)) ?_ ?_
 ·intro K8 k
  refine rg [1,2,15,16,17] hs ?_
  apply Ar
  refine AA (fun m e st=>∃ (b:Int),Ck e st B Rw L [(1,true,.list (a1.map AZ) .none),(2,true,.clo fa2 ca2),(15,true,.list (a0.map AZ) .none),(16,true,Ak (a0.length:Int)),(17,true,Ak b)] [] [] (Cb n a0 a1 a2 m b=some r)) n ⟨0,([]),Rw,ef hs,ef hs,f,h⟩ ?_
  rintro ml10 e st ⟨b,Xl10,Rl10,rfl,rfl,f,h⟩ Ul10 Vl10
  cases ml10 with
  | zero=>cases h
  | succ ml10 =>
  rw [Cb] at h
  refine AO l i g rfl c f (H8 d f) (H8 d f) ?_
  exact go (tg (a:=([1,2,15,16,17,18],([1,2,15,16,17],[1,2,7,8,15,16,17],[1,2,8,9,15,16,17],[1,2,15,16,17,30],([6],()),[1,2,15,16,17],[1,2,15,16,17],()),[],()))) h hs l i g c f (q1 ha2) (q2 k (fun e s=>Vl10 ml10 e s (Nat.lt_succ_self _)))
 ·clear h;rintro e st ⟨Xk7,Rk7,rfl,rfl,f,h⟩
  rw [G9] at h
  refine AO l i g rfl c f (H8 d f) (H8 d f) ?_
  refine rg [6] hs ?_
  exact rt h hs c f
def JQ (n:Nat)  : Option Bool :=
 some (true)
def D5 (n:Nat) (h:List Int) (y:List Int):Nat->Int->Option Bool
 | 0,_=>none
 | m+1,b =>
  if decide (b<(h.length:Int)) then
   (Dw h b).bind fun g =>
   (Dw y b).bind fun q =>
   if !(decide (g=q)) then
    some (false)
   else
    if BN (b+1) then
     (D5 n h y m) (b+1)
    else none
  else
   JQ n 
def Hh (n:Nat) (b:List Int) (g:List Int):Option Bool :=
 if !(decide ((b.length:Int)=(g.length:Int))) then
  some (false)
 else
  D5 n b g n 0
theorem Tu (w0:World) (n:Nat) (B:Ao) (Rw:Ap) (L:Aq) (a0:List Int) (a1:List Int) (r:Bool) (h:Hh n a0 a1=some r) :
  ACalls Tryz.prog w0 75 [.list (a0.map Ci) .none,.list (a1.map Ci) .none] ⟨B,Rw,L⟩ fun x st=>x = .val (.bool r)/\st=⟨B,Rw,L⟩:=by
 rw [Hh] at h
 refine hd [.tmp 4] Tryz.func75 Tryz.ntmps75 fun M0 W0 k i f c l d hs=>?_
 simp only [Ax]
 refine rg [0,1] hs ?_
 apply Am;intro K2 g
 refine rg [0,1,10] hs ?_
 refine B6 h hs ?_ ?_<;>intro hs h
 ·refine rg [4] hs ?_
  exact rt h hs c d
 refine sk [0,1] hs g ?_
 clear g
 refine AD (fun e st=>Ck e st B Rw L [] [] [] (JQ n  = some r)) ?_ ?_
 ·intro K8 j
  refine rg [0,1,12,13] hs ?_
  apply Ar
  refine AA (fun m e st=>∃ (b:Int),Ck e st B Rw L [(0,true,.list (a0.map Ci) .none),(1,true,.list (a1.map Ci) .none),(12,true,Ak (a0.length:Int)),(13,true,Ak b)] [] [] (D5 n a0 a1 m b=some r)) n ⟨0,([]),Rw,ef hs,ef hs,d,h⟩ ?_
  rintro ml10 e st ⟨b,Xl10,Rl10,rfl,rfl,d,h⟩ Ul10 Vl10
  cases ml10 with
  | zero=>cases h
  | succ ml10 =>
  rw [D5] at h
  exact go (tg (a:=([0,1,12,13,14],([0,1,12,13],[0,1,5,12,13],[9,0,1,12,13,24],([4],()),[0,1,12,13],[0,1,12,13],()),[],()))) h hs k i f c d trivial (q2 j (fun e s=>Vl10 ml10 e s (Nat.lt_succ_self _)))
 ·clear h;rintro e st ⟨Xk7,Rk7,rfl,rfl,d,h⟩
  rw [JQ] at h
  refine Go.Ev.td k i f c d ?_
  refine rg [4] hs ?_
  exact rt h hs c d
def EY (n:Nat) (b:List Int) (g:List Int):Option Int :=
 if decide ((b.length:Int)<(g.length:Int)) then
  some ((-1))
 else
  some (0)
def BL (n:Nat) (h:List Int) (q:List Int) (a2:Int->Int->Option Int):Nat->Int->Option Int
 | 0,_=>none
 | m+1,b =>
  if decide (b<(h.length:Int)) then
   (Dw h b).bind fun y =>
   if decide ((q.length:Int)<=b) then
    some (1)
   else
    (Dw q b).bind fun x18 =>
    (a2 y x18).bind fun g =>
    if !(decide (g=0)) then
     some (g)
    else
     if BN (b+1) then
      (BL n h q a2 m) (b+1)
     else none
  else
   EY n h q 
def FC (n:Nat) (g:List Int) (b:List Int) (h:Int->Int->Option Int):Option Int :=
 BL n g b h n 0
theorem Og (w0:World) (n:Nat) (B:Ao) (Rw:Ap) (L:Aq) (a0:List Int) (a1:List Int) (fa2:FuncId) (ca2:List AV) (a2:Int->Int->Option Int) (ha2:∀ (x0:Int) (x1:Int) r,a2 x0 x1=some r->∀ B' rows,B <+: B'->Rw <+: rows->ACalls Tryz.prog w0 fa2 ([Ak x0,Ak x1]++ca2) ⟨B',rows,L⟩ fun v s=>v=Ak r/\s=⟨B',rows,L⟩) (r:Int) (h:FC n a0 a1 a2=some r) :
  ACalls Tryz.prog w0 54 [.list (a0.map Ci) .none,.list (a1.map Ci) .none,.clo fa2 ca2] ⟨B,Rw,L⟩ fun x st=>x=Ak r/\st=⟨B,Rw,L⟩:=by
 rw [FC] at h
 refine hd [.tmp 6] Tryz.func54 Tryz.ntmps54 fun M0 W0 j i g d l f hs=>?_
 simp only [Ax]
 have c:=Cc (l (.clo fa2 ca2) (by simp))
 refine rg [0,1,2] hs ?_
 refine AD (fun e st=>Ck e st B Rw L [(0,true,.list (a0.map Ci) .none),(1,true,.list (a1.map Ci) .none)] [] [] (EY n a0 a1  = some r)) ?_ ?_
 ·intro K4 k
  refine rg [0,1,2,11,12,13] hs ?_
  apply Ar
  refine AA (fun m e st=>∃ (b:Int),Ck e st B Rw L [(0,true,.list (a0.map Ci) .none),(1,true,.list (a1.map Ci) .none),(2,true,.clo fa2 ca2),(11,true,.list (a0.map Ci) .none),(12,true,Ak (a0.length:Int)),(13,true,Ak b)] [] [] (BL n a0 a1 a2 m b=some r)) n ⟨0,([]),Rw,ef hs,ef hs,f,h⟩ ?_
  rintro ml6 e st ⟨b,Xl6,Rl6,rfl,rfl,f,h⟩ Ul6 Vl6
  cases ml6 with
  | zero=>cases h
  | succ ml6 =>
  rw [BL] at h
  refine AO j i g rfl d f (H8 c f) (H8 c f) ?_
  exact go (tg (a:=([0,1,2,11,12,13,14],([0,1,2,11,12,13],[0,1,2,7,8,11,12,13],[0,1,2,7,8,11,12,13,21],([6],()),[0,1,2,7,8,11,12,13],[0,1,2,8,9,11,12,13],[0,1,2,10,11,12,13],[0,1,2,10,11,12,13,31],([6],()),[0,1,2,11,12,13],[0,1,2,11,12,13],()),[0,1],()))) h hs j i g d f (q1 ha2) (q2 k (fun e s=>Vl6 ml6 e s (Nat.lt_succ_self _)))
 ·clear h;rintro e st ⟨Xk3,Rk3,rfl,rfl,f,h⟩
  rw [EY] at h
  refine AO j i g rfl d f (H8 c f) (H8 c f) ?_
  exact go (tg (a:=([38],([6],()),[],[6],()))) h hs j i g d f trivial trivial
def C7 (b:Int) (g:Int):Int :=
 if b<g then -1 else if b=g then 0 else 1
theorem Qb (w0:World) (B:Ao) (Rw:Ap) (L:Aq) (a0:Int) (a1:Int) (r:Int) (h:C7 a0 a1=r) :
  ACalls Tryz.prog w0 55 [Ak a0,Ak a1] ⟨B,Rw,L⟩ fun x st=>x=Ak r/\st=⟨B,Rw,L⟩:=by
 rw [C7] at h
 refine hd [.tmp 4] Tryz.func55 Tryz.ntmps55 fun M0 W0 e d c b g f hs=>?_
 simp only [Ax]
 exact go (tg (a:=([0,1],[4],()))) h hs e d c b f (q1 (I7 w0)) trivial
theorem PC (w0:World) (B:Ao) (Rw:Ap) (L:Aq) (a0:Int) (a1:Int) :
  ACalls Tryz.prog w0 55 [Ak a0,Ak a1] ⟨B,Rw,L⟩ fun x st=>x=Ak (C7 a0 a1)/\st=⟨B,Rw,L⟩:=Qb w0 B Rw L a0 a1 _ rfl
def H6 (n:Nat) (b:Int × List Int) (g:Int × List Int):Option Int :=
 (FC n b.2 g.2 (fun (q:Int) (y:Int)=>some (C7 q y))).bind fun y3 =>
 (EJ n ([if b.1<g.1 then -1 else if b.1=g.1 then 0 else 1,y3])).bind fun h =>
 some (h)
theorem Rr (w0:World) (n:Nat) (B:Ao) (Rw:Ap) (L:Aq) (a0:Int × List Int) (a1:Int × List Int) (r:Int) (h:H6 n a0 a1=some r) :
  ACalls Tryz.prog w0 31 [.agg (Ak a0.1::([.list (a0.2.map Ci) .none])),.agg (Ak a1.1::([.list (a1.2.map Ci) .none]))] ⟨B,Rw,L⟩ fun x st=>x=Ak r/\st=⟨B,Rw,L⟩:=by
 rw [H6] at h
 refine hd [.tmp 4] Tryz.func31 Tryz.ntmps31 fun M0 W0 g e c b p k hs=>?_
 simp only [Ax]
 refine rg [2,3] hs ?_
 obtain ⟨o,hy3,h⟩:=bind_some h
 obtain ⟨l,i,h⟩:=bind_some h
 apply Am;intro K2 d
 refine dk 13 4 1 [4] hs G6 ?_
 refine Av _ (I7 w0 _ _ _ a0.1 a1.1) (hv hs) ?_
 refine nc hs ?_
 refine Av _ (Og w0 n _ _ _ a0.2 a1.2 55 [] (fun (x0:Int) (x1:Int)=>some (C7 x0 x1)) (fun x0 x1 r hx m rows' f j=>by cases hx;exact PC w0 _ _ _ x0 x1) _ hy3) (hv hs) ?_
 exact go (tg (a:=((),()))) h hs g e c b k (q1 (Md w0 n)) (q1 d)
def Ed (n:Nat) (b:Int × List Int) (h:Int × List Int):Option Bool :=
 (H6 n b h).bind fun g =>
 some (decide (g=0))
theorem KH (w0:World) (n:Nat) (B:Ao) (Rw:Ap) (L:Aq) (a0:Int × List Int) (a1:Int × List Int) (r:Bool) (h:Ed n a0 a1=some r) :
  ACalls Tryz.prog w0 14 [.agg (Ak a0.1::([.list (a0.2.map Ci) .none])),.agg (Ak a1.1::([.list (a1.2.map Ci) .none]))] ⟨B,Rw,L⟩ fun x st=>x = .val (.bool r)/\st=⟨B,Rw,L⟩:=by
 rw [Ed] at h
 refine hd [.tmp 4] Tryz.func14 Tryz.ntmps14 fun M0 W0 e d c b g f hs=>?_
 simp only [Ax]
 exact go (tg (a:=([2,3],[4],()))) h hs e d c b f (q1 (Rr w0 n)) trivial
def Dj (n:Nat) (b:Msg) (g:Msg):Option Bool :=
 (Ed n b.stamp g.stamp).bind fun y =>
 if y&&(decide (b.mass=g.mass)) then
  (Hh n b.origins g.origins).bind fun q =>
  if q then
   (DT n b.body g.body).bind fun h =>
   some (h)
  else
   AM
 else
  AM
theorem Jm (w0:World) (n:Nat) (B:Ao) (Rw:Ap) (L:Aq) (a0:Msg) (a1:Msg) (r:Bool) (h:Dj n a0 a1=some r) :
  ACalls Tryz.prog w0 44 [.agg (Qu a0),.agg (Qu a1)] ⟨B,Rw,L⟩ fun x st=>x = .val (.bool r)/\st=⟨B,Rw,L⟩:=by
 rw [Dj] at h
 refine hd [.tmp 4] Tryz.func44 Tryz.ntmps44 fun M0 W0 e d c b g f hs=>?_
 simp only [Ax]
 exact go (tg (a:=([2,3],(([4],()),((),())),((),())))) h hs e d c b f (q3 (KH w0 n) (Tu w0 n) (KB w0 n)) trivial
def Gp (n:Nat)  : Option Bool :=
 some (true)
def BG (n:Nat) (h:List Msg) (a1:List Msg) (a2:Msg->Msg->Option Bool):Nat->Int->Option Bool
 | 0,_=>none
 | m+1,b =>
  if decide (b<(h.length:Int)) then
   (Dw h b).bind fun g =>
   (Dw a1 b).bind fun y =>
   (a2 g y).bind fun q =>
   if !q then
    some (false)
   else
    if BN (b+1) then
     (BG n h a1 a2 m) (b+1)
    else none
  else
   Gp n 
def DF (n:Nat) (g:List Msg) (b:List Msg) (h:Msg->Msg->Option Bool):Option Bool :=
 if !(decide ((g.length:Int)=(b.length:Int))) then
  some (false)
 else
  BG n g b h n 0
theorem MF (w0:World) (n:Nat) (B:Ao) (Rw:Ap) (L:Aq) (a0:List Msg) (a1:List Msg) (fa2:FuncId) (ca2:List AV) (a2:Msg->Msg->Option Bool) (ha2:∀ (x0:Msg) (x1:Msg) r,a2 x0 x1=some r->∀ B' rows,B <+: B'->Rw <+: rows->ACalls Tryz.prog w0 fa2 ([.agg (Qu x0),.agg (Qu x1)]++ca2) ⟨B',rows,L⟩ fun v s=>v = .val (.bool r)/\s=⟨B',rows,L⟩) (r:Bool) (h:DF n a0 a1 a2=some r) :
  ACalls Tryz.prog w0 72 [.list (a0.map Dn) .none,.list (a1.map Dn) .none,.clo fa2 ca2] ⟨B,Rw,L⟩ fun x st=>x = .val (.bool r)/\st=⟨B,Rw,L⟩:=by
 rw [DF] at h
 refine hd [.tmp 6] Tryz.func72 Tryz.ntmps72 fun M0 W0 l i g c o f hs=>?_
 simp only [Ax]
 have d:=Cc (o (.clo fa2 ca2) (by simp))
 refine rg [0,1,2] hs ?_
 apply Am;intro K2 j
 refine rg [0,1,2,14] hs ?_
 refine B6 h hs ?_ ?_<;>intro hs h
 ·refine rg [6] hs ?_
  exact rt h hs c f
 refine sk [0,1,2] hs j ?_
 clear j
 refine AD (fun e st=>Ck e st B Rw L [] [] [] (Gp n  = some r)) ?_ ?_
 ·intro K8 k
  refine rg [1,2,15,16,17] hs ?_
  apply Ar
  refine AA (fun m e st=>∃ (b:Int),Ck e st B Rw L [(1,true,.list (a1.map Dn) .none),(2,true,.clo fa2 ca2),(15,true,.list (a0.map Dn) .none),(16,true,Ak (a0.length:Int)),(17,true,Ak b)] [] [] (BG n a0 a1 a2 m b=some r)) n ⟨0,([]),Rw,ef hs,ef hs,f,h⟩ ?_
  rintro ml10 e st ⟨b,Xl10,Rl10,rfl,rfl,f,h⟩ Ul10 Vl10
  cases ml10 with
  | zero=>cases h
  | succ ml10 =>
  rw [BG] at h
  refine AO l i g rfl c f (H8 d f) (H8 d f) ?_
  exact go (tg (a:=([1,2,15,16,17,18],([1,2,15,16,17],[1,2,7,8,15,16,17],[1,2,8,9,15,16,17],[1,2,15,16,17,30],([6],()),[1,2,15,16,17],[1,2,15,16,17],()),[],()))) h hs l i g c f (q1 ha2) (q2 k (fun e s=>Vl10 ml10 e s (Nat.lt_succ_self _)))
 ·clear h;rintro e st ⟨Xk7,Rk7,rfl,rfl,f,h⟩
  rw [Gp] at h
  refine AO l i g rfl c f (H8 d f) (H8 d f) ?_
  refine rg [6] hs ?_
  exact rt h hs c f
def Dy (n:Nat) (b:Slt) (g:Slt):Option Bool :=
 (DT n b.key g.key).bind fun y3 =>
 if (y3&&(decide (b.number=g.number)))&&(decide (b.time=g.time)) then
  (DF n b.items g.items (fun (h:Msg) (q:Msg)=>Dj n h q)).bind fun y5 =>
  if y5 then
   (Ef n b.values g.values (fun (h:Vl) (q:Vl)=>DT n h q)).bind fun y =>
   some (y)
  else
   AM
 else
  AM
theorem P9 (w0:World) (n:Nat) (B:Ao) (Rw:Ap) (L:Aq) (a0:Slt) (a1:Slt) (r:Bool) (h:Dy n a0 a1=some r) :
  ACalls Tryz.prog w0 42 [.agg (O4 a0),.agg (O4 a1)] ⟨B,Rw,L⟩ fun x st=>x = .val (.bool r)/\st=⟨B,Rw,L⟩:=by
 rw [Dy] at h
 refine hd [.tmp 4] Tryz.func42 Tryz.ntmps42 fun M0 W0 v l q c t p hs=>?_
 simp only [Ax]
 refine rg [2,3] hs ?_
 apply Am;intro K2 d
 obtain ⟨s,g,h⟩:=bind_some h
 rcases Bool.eq_false_or_eq_true ((s&&(decide (a0.number=a1.number)))&&(decide (a0.time=a1.time))) with hf4 | hf4
 ·replace h:=Cj h hf4
  obtain ⟨o,e,h⟩:=bind_some h
  rcases Bool.eq_false_or_eq_true (o) with hf6 | hf6
  ·replace h:=Cj h hf6
   obtain ⟨u,k,h⟩:=bind_some h
   have hs:=Ad hf4 hs
   have hs:=Ad hf6 hs
   refine rk 4 [4] (al hs) ?_
   refine Av _ (KB w0 n _ _ _ a0.key a1.key _ g) (hv (al hs)) ?_
   refine nc (al hs) ?_
   refine Av _ (MF w0 n _ _ _ a0.items a1.items 44 [] (fun (a:Msg) (b:Msg)=>Dj n a b) (fun a b r f m rows' i j=>by exact Jm w0 n _ _ _ a b _ f) _ e) (hv (al hs)) ?_
   refine nc (al hs) ?_
   refine Av _ (Oa w0 n _ _ _ a0.values a1.values 43 [] (fun (a:Vl) (b:Vl)=>DT n a b) (fun a b r f m rows' i j=>by exact KB w0 n _ _ _ a b _ f) _ k) (hv (al hs)) ?_
   refine ne (al hs) d ?_
   clear d
   exact rt h hs c p
  ·replace h:=Cm h hf6
   exact nS h
 ·replace h:=Cm h hf4
  exact nS h
def HZ (n:Nat) (b:Stt) (g:Stt):Option Bool :=
 if (decide (b.number=g.number))&&(decide (b.time=g.time)) then
  (EG n b.slots g.slots (fun (q:Slt) (y:Slt)=>Dy n q y)).bind fun h =>
  some (h)
 else
  AM
theorem Uh (w0:World) (n:Nat) (B:Ao) (Rw:Ap) (L:Aq) (a0:Stt) (a1:Stt) (r:Bool) (h:HZ n a0 a1=some r) :
  ACalls Tryz.prog w0 20 [.agg (Dx a0),.agg (Dx a1)] ⟨B,Rw,L⟩ fun x st=>x = .val (.bool r)/\st=⟨B,Rw,L⟩:=by
 rw [HZ] at h
 refine hd [.tmp 4] Tryz.func20 Tryz.ntmps20 fun M0 W0 o l j a q k hs=>?_
 simp only [Ax]
 refine rg [2,3] hs ?_
 apply Am;intro K2 b
 rcases Bool.eq_false_or_eq_true ((decide (a0.number=a1.number))&&(decide (a0.time=a1.time))) with hf3 | hf3
 ·replace h:=Cj h hf3
  obtain ⟨m,c,h⟩:=bind_some h
  have hs:=Ad hf3 hs
  refine rk 2 [4] hs ?_
  refine Av _ (OL w0 n _ _ _ a0.slots a1.slots 42 [] (fun (d:Slt) (e:Slt)=>Dy n d e) (fun d e r g p rows' f i=>by exact P9 w0 n _ _ _ d e _ g) _ c) (hv hs) ?_
  refine ne hs b ?_
  clear b
  exact rt h hs a k
 ·replace h:=Cm h hf3
  exact nS h
theorem Zcy (n:Nat) (a b:List Int) (f:Int->Int->Option Int) (hl:a.length<=1000000000)
  (hr:∀ p q,∃ c,f p q=some c/\(c=0<->p=q)):∀ (k m i:Nat),i+k=a.length->k<m->∃ c,BL n a b f m i=some c/\(c=0<->a.drop i=b.drop i)
 | k,0,i,_,h=>absurd h (Nat.not_lt_zero _)
 | 0,m+1,i,hi,_=>by
  rw [BL,A4,Ac]
  simp only [Bool.false_eq_true,if_false]
  rw [EY,A4,List.drop_eq_nil_of_le (show a.length<=i by omega)]
  by_cases h:a.length<b.length
  ·rw [Ag h]
   simp only [if_true]
   exact ⟨-1,rfl,⟨fun h=>absurd h (by decide),fun e=>by have:=List.drop_eq_nil_iff.1 e.symm;omega⟩⟩
  ·rw [Af h]
   simp only [Bool.false_eq_true,if_false]
   exact ⟨0,rfl,⟨fun _=>(List.drop_eq_nil_of_le (by omega)).symm,fun _=>rfl⟩⟩
 | k+1,m+1,i,hi,hm=>by
  have g:i<a.length:=by omega
  rw [BL,A4,Ag g]
  simp only [if_true,Bj g,Ae,ZM]
  by_cases d:i<b.length
  ·rw [Af (show ¬ b.length<=i by omega)]
   simp only [Bool.false_eq_true,if_false,Bj d,Ae]
   obtain ⟨c,e,j⟩:=hr a[i] b[i]
   rw [e,OX _ _ i g d]
   simp only [Ae]
   by_cases h0:c=0
   ·rw [Ag h0]
    simp only [Bool.not_true,Bool.false_eq_true,if_false]
    rw [Ah (A8 (by omega))]
    obtain ⟨l,o,d⟩:=Zcy n a b f hl hr k m (i+1) (by omega) (by omega)
    exact ⟨l,o,d.trans ⟨fun h=>⟨j.1 h0,h⟩,fun h=>h.2⟩⟩
   ·rw [Af h0]
    simp only [Bool.not_false,if_true]
    exact ⟨c,rfl,⟨fun h=>absurd h h0,fun h=>absurd (j.2 h.1) h0⟩⟩
  ·rw [Ag (show b.length<=i by omega)]
   simp only [if_true]
   refine ⟨1,rfl,⟨fun h=>absurd h (by decide),fun e=>?_⟩⟩
   rw [List.drop_eq_nil_of_le (show b.length<=i by omega)] at e
   have:=List.drop_eq_nil_iff.1 e
   omega
theorem Xg (n:Nat) (hn:10000<=n) (a b:Int × List Int) (ha:a.2.length<=1000):Ed n a b=some (decide (a=b)):=by
 obtain ⟨c,e,h⟩:=Zcy n a.2 b.2 (fun (x0:Int) (x1:Int)=>some (C7 x0 x1)) (by omega) (fun p q=>⟨_,rfl,by rw [C7];exact Sr p q⟩) a.2.length n 0 (by omega) (by omega)
 have e:BL n a.2 b.2 (fun (x0:Int) (x1:Int)=>some (C7 x0 x1)) n 0=some c:=e
 rw [List.drop_zero,List.drop_zero] at h
 obtain ⟨d,g,f⟩:=ZdQ n [if a.1<b.1 then -1 else if a.1=b.1 then 0 else 1,c] (by simp only [List.length_cons,List.length_nil];omega) (by simp only [List.length_cons,List.length_nil];omega)
 rw [Ed,H6,FC,e,Ae,g,Ae,Ae]
 congr 1
 rw [decide_eq_decide,f]
 simp only [List.mem_cons,List.not_mem_nil,or_false,forall_eq_or_imp,forall_eq,Sr,h]
 exact ⟨fun q=>Prod.ext q.1 q.2,fun q=>by rw [q];exact ⟨rfl,rfl⟩⟩
theorem Zaa (n:Nat) (a:List Int) (hl:a.length<=1000):∀ (k m i:Nat),i+k=a.length->k<m->D5 n a a m i=some true
 | k,0,i,_,h=>absurd h (Nat.not_lt_zero _)
 | 0,m+1,i,hi,_=>by rw [D5,A4,Ac];rfl
 | k+1,m+1,i,hi,hm=>by
  have b:i<a.length:=by omega
  rw [D5,A4,Ag b,Ah rfl,Bj b,Ae,Ae,Ag rfl,Ai (by decide),Ah (A8 (by omega))]
  exact Zaa n a hl k m (i+1) (by omega) (by omega)
theorem Zed (n:Nat) (hn:10000<=n) (a:List Int) (hl:a.length<=1000):Hh n a a=some true:=by
 rw [Hh,Ag rfl,Ai (by decide)]
 exact Zaa n a hl a.length n 0 (by omega) (by omega)
theorem Rk (n:Nat) (hn:100000<=n) (v:Vl) (h:v.size<=1000):DT n v v=some true:=by
 obtain ⟨c,e,q⟩:=Zby n v v (by omega) (by omega)
 rw [e,q.2 rfl]
theorem Qs (n:Nat) (hn:100000<=n) (m:Msg) (h:SY m):Dj n m m=some true:=by
 rw [Dj,Xg n (by omega) _ _ (by have:=h.1;omega),Ae,Ag rfl,Ag rfl,Bool.and_self,Ah rfl,Zed n (by omega) _ (by have:=h.2.1;omega),Ae,Ah rfl,Rk n hn _ h.2.2]
 rfl
theorem Zah (n:Nat) (a:List Vl) (f:Vl->Vl->Option Bool) (hf:∀ x∈a,f x x=some true) (hl:a.length<=1000):∀ (k m i:Nat),i+k=a.length->k<m->BZ n a a f m i=some true
 | k,0,i,_,h=>absurd h (Nat.not_lt_zero _)
 | 0,m+1,i,hi,_=>by rw [BZ,A4,Ac];rfl
 | k+1,m+1,i,hi,hm=>by
  have b:i<a.length:=by omega
  rw [BZ,A4,Ag b,Ah rfl,Bj b,Ae,Ae,hf _ (List.getElem_mem b),Ae,Ai (by decide),Ah (A8 (by omega))]
  exact Zah n a f hf hl k m (i+1) (by omega) (by omega)
theorem Zao (n:Nat) (a:List Msg) (f:Msg->Msg->Option Bool) (hf:∀ x∈a,f x x=some true) (hl:a.length<=1000):∀ (k m i:Nat),i+k=a.length->k<m->BG n a a f m i=some true
 | k,0,i,_,h=>absurd h (Nat.not_lt_zero _)
 | 0,m+1,i,hi,_=>by rw [BG,A4,Ac];rfl
 | k+1,m+1,i,hi,hm=>by
  have b:i<a.length:=by omega
  rw [BG,A4,Ag b,Ah rfl,Bj b,Ae,Ae,hf _ (List.getElem_mem b),Ae,Ai (by decide),Ah (A8 (by omega))]
  exact Zao n a f hf hl k m (i+1) (by omega) (by omega)
theorem Zau (n:Nat) (a:List Slt) (f:Slt->Slt->Option Bool) (hf:∀ x∈a,f x x=some true) (hl:a.length<=1000):∀ (k m i:Nat),i+k=a.length->k<m->Cb n a a f m i=some true
 | k,0,i,_,h=>absurd h (Nat.not_lt_zero _)
 | 0,m+1,i,hi,_=>by rw [Cb,A4,Ac];rfl
 | k+1,m+1,i,hi,hm=>by
  have b:i<a.length:=by omega
  rw [Cb,A4,Ag b,Ah rfl,Bj b,Ae,Ae,hf _ (List.getElem_mem b),Ae,Ai (by decide),Ah (A8 (by omega))]
  exact Zau n a f hf hl k m (i+1) (by omega) (by omega)
theorem X5 (n:Nat) (hn:100000<=n) (x:Slt) (h:Wc x):Dy n x x=some true:=by
 obtain ⟨b,⟨g,d⟩,i,e⟩:=h
 have c:DF n x.items x.items (fun (x0:Msg) (x1:Msg)=>Dj n x0 x1)=some true:=by
  rw [DF,Ag rfl,Ai (by decide)]
  exact Zao n _ _ (fun m a=>Qs n hn m (d m a)) (by omega) x.items.length n 0 (by omega) (by omega)
 have f:Ef n x.values x.values (fun (x0:Vl) (x1:Vl)=>DT n x0 x1)=some true:=by
  rw [Ef,Ag rfl,Ai (by decide)]
  exact Zah n _ _ (fun m a=>Rk n hn m (e m a)) (by omega) x.values.length n 0 (by omega) (by omega)
 rw [Dy,Rk n hn _ b,Ae,Ag rfl,Ag rfl,Bool.and_self,Bool.and_self,Ah rfl,c,Ae,Ah rfl,f]
 rfl
theorem WS (n:Nat) (hn:100000<=n) (s:Stt) (h:T8 s):HZ n s s=some true:=by
 have c:=h.1
 have b:EG n s.slots s.slots (fun (x0:Slt) (x1:Slt)=>Dy n x0 x1)=some true:=by
  rw [EG,Ag rfl,Ai (by decide)]
  exact Zau n _ _ (fun m a=>X5 n hn m (h.2 m a)) (by omega) s.slots.length n 0 (by omega) (by omega)
 rw [HZ,Ag rfl,Ag rfl,Bool.and_self,Ah rfl,b]
 rfl
def Zfi (n:Nat)  (b:List Int):Option ((List Int)) :=
 some (b)
def ZdH (n:Nat) (q:Stt):Nat->(List Int)->Int->Option ((List Int))
 | 0,_,_=>none
 | m+1,b,g =>
  if decide (g<(q.slots.length:Int)) then
   (Dw q.slots g).bind fun h =>
   if decide (h.key.kind=2) then
    if (b.length+1)*8<=140737488355328/\b.length+1<=4611686018427387904 then
     if BN (g+1) then
      (ZdH n q m) (b++([h.key.int])) (g+1)
     else none
    else none
   else
    AM
  else
   Zfi n b
def Zgb (n:Nat) (b:Stt):Option ((List Int)) :=
 ZdH n b n ([]) 0
theorem ZiK (w0:World) (n:Nat) (B:Ao) (Rw:Ap) (L:Aq) (a0:Stt) (r:(List Int)) (h:Zgb n a0=some r) :
  ACalls Tryz.prog w0 24 [.agg (Dx a0)] ⟨B,Rw,L⟩ fun x st=>x = .list (r.map Ci) .none/\st=⟨B,Rw,L⟩:=by
 rw [Zgb] at h
 refine hd [.tmp 2] Tryz.func24 Tryz.ntmps24 fun M0 W0 p l j i q k hs=>?_
 simp only [Ax]
 refine rg [1] hs ?_
 refine rg [1,3] hs ?_
 refine AD (fun e st=>∃ (b:List Int) (d:Ev.Own),Ck e st B Rw L [(3,true,.list (b.map Ci) d)] [Dx a0] [(1,b.length,d)] (Zfi n b=some r)) ?_ ?_
 ·intro K5 o
  refine rg [3,7,8,9] hs ?_
  apply Ar
  refine AA (fun m e st=>∃ (f:List Int) (g:Int) (c:Ev.Own),Ck e st B Rw L [(3,true,.list (f.map Ci) c),(7,true,.list (a0.slots.map AZ) .none),(8,true,Ak (a0.slots.length:Int)),(9,true,Ak g)] [Dx a0] [(1,f.length,c)] (ZdH n a0 m f g=some r)) n ⟨([]),0,.full,([]),Rw,ef hs,ef hs,Owns.of_eq ((k).full 1 0) Fh,h⟩ ?_
  rintro ml7 e st ⟨f,g,c,Xl7,Rl7,rfl,rfl,k,h⟩ Ul7 Vl7
  cases ml7 with
  | zero=>cases h
  | succ ml7 =>
  rw [ZdH] at h
  exact go (tg (a:=([3,7,8,9,10],([3,7,8,9],[3,5,7,8,9],[3,5,7,8,9,16],([3,7,8,9],[3,7,8,9],()),((),())),[3],()))) h hs p l j i k (q1 (ae Zjb Zf3)) (q2 o (fun e s=>Vl7 ml7 e s (Nat.lt_succ_self _)))
 ·clear h;rintro e st ⟨b,d,Xk4,Rk4,rfl,rfl,k,h⟩
  rw [Zfi] at h
  exact go (tg (a:=([2],()))) h hs p l j i k trivial trivial
theorem Zob {p:CP} {now:Int} {k:Nat} {s:CS} (h:s.ok p now k) (i:Nat) (t:Int) (c:Nat) (d u:Bool) (w:Nat):(Du p s (.rep i t c d u w)).st.ok p now k:=by
 simp only [Du]
 split
 ·exact h
 ·split
  ·exact h.sub List.filter_sublist
  ·split
   ·exact h.sub List.filter_sublist
   ·exact h.sub List.filter_sublist
def ZnW (p:CP):CS->List CI->CS
 | s,[]=>s
 | s,j::l=>ZnW p (Du p s j).st l
theorem ZnP {p:CP} (hp:p.ok):∀ (l:List CI) {s:CS} {now:Int} {k:Nat},s.ok p now k->VW now k l->∃ now2,(ZnW p s l).ok p now2 (k+l.length)
 | [],s,now,k,h,_=>⟨now,h⟩
 | j::l,s,now,k,h,hc=>by
  obtain ⟨q,a⟩:=ZnP hp l (Yn hp h hc.1 hc.2.2.1) hc.2.2.2.2
  exact ⟨q,by rw [List.length_cons,show k+(l.length+1)=k+1+l.length by omega];exact a⟩
theorem ZkM (p:CP):∀ (l:List CI) (s:CS),(ZZ p s l).length=l.length
 | [],_=>rfl
 | j::l,s=>by rw [ZZ,List.length_cons,List.length_cons,ZkM p l]
theorem ZmX (p:CP):∀ (l:List CI) (s:CS) (h:(ZZ p s l).length-1<(ZZ p s l).length),((ZZ p s l)[(ZZ p s l).length-1]).st=ZnW p s l
 | [],s,h=>absurd h (by simp [ZZ])
 | [j],s,h=>rfl
 | j::a::l,s,h=>by
  have ih:=ZmX p (a::l) (Du p s j).st (by rw [ZkM,List.length_cons];omega)
  refine Eq.trans ?_ ih
  simp only [ZZ,List.length_cons,Nat.add_sub_cancel,List.getElem_cons_succ]
theorem Zn8 (p:CP) (js:List CI) (h:js≠[]):∃ hlt:(((ZZ p ⟨0,[]⟩ js).map Hi).length-1)<((ZZ p ⟨0,[]⟩ js).map Hi).length,((ZZ p ⟨0,[]⟩ js).map Hi)[((ZZ p ⟨0,[]⟩ js).map Hi).length-1].state=Aw (ZnW p ⟨0,[]⟩ js):=by
 have b:0<js.length:=List.length_pos_iff.2 h
 have a:(ZZ p ⟨0,[]⟩ js).length-1<(ZZ p ⟨0,[]⟩ js).length:=by rw [ZkM];omega
 refine ⟨by rw [List.length_map];exact a,?_⟩
 rw [<-ZmX p js ⟨0,[]⟩ a]
 simp only [List.getElem_map,List.length_map]
 rfl
theorem ZnV (n:Nat) (s:CS) (hl:s.es.length<=900):∀ (k m i:Nat),i+k=s.es.length->k<m->ZdH n (Aw s) m ((s.es.take i).map fun e=>(e.num:Int)) (i:Int)=some (s.es.map fun e=>(e.num:Int))
 | k,0,i,_,h=>absurd h (Nat.not_lt_zero _)
 | 0,m+1,i,hi,_=>by
  have a:(Aw s).slots.length=s.es.length:=by simp [Aw]
  rw [ZdH,a,A4,Ac,Ai (by decide),Zfi,List.take_of_length_le (by omega)]
 | k+1,m+1,i,hi,hm=>by
  have c:i<s.es.length:=by omega
  have a:(Aw s).slots.length=s.es.length:=by simp [Aw]
  have b:i<(Aw s).slots.length:=by omega
  have d:(Aw s).slots[i]=BS s.es[i]:=by simp [Aw]
  have ih:=ZnV n s hl k m (i+1) (by omega) (by omega)
  rw [<-List.take_append_getElem c,List.map_append] at ih
  have f:decide ((BS s.es[i]).key.kind=2)=true:=rfl
  rw [ZdH,a,A4,Ag c,Ah rfl,Bj b,Ae,d,f,Ah rfl,Ah (by rw [List.length_map,List.length_take];omega),Ah (A8 (by omega))]
  exact ih
theorem Zoa (n:Nat) (hn:1000<=n) (s:CS) (hl:s.es.length<=900):Zgb n (Aw s)=some (s.es.map fun e=>(e.num:Int)) :=
 ZnV n s hl s.es.length n 0 (by omega) (by omega)
def ZeU (n:Nat) (b3_k13:Stt) (b:Otc):Option Bool :=
 if BN ((b.outputs.length:Int)+(b.fates.length:Int)) then
  if BN (((b.outputs.length:Int)+(b.fates.length:Int))+(b.letters.length:Int)) then
   if BN ((((b.outputs.length:Int)+(b.fates.length:Int))+(b.letters.length:Int))+(b.requests.length:Int)) then
    if decide (((((b.outputs.length:Int)+(b.fates.length:Int))+(b.letters.length:Int))+(b.requests.length:Int))=0) then
     (HZ n b.state b3_k13).bind fun g =>
     some (g)
    else
     AM
   else none
  else none
 else none
def ZaJ (n:Nat) (b3_k13:Stt) (h:Inp) (q:Otc) (g:(List Int)):Nat->Int->Option Bool
 | 0,_=>none
 | m+1,b =>
  if decide (b<(g.length:Int)) then
   (Dw g b).bind fun y =>
   if decide (y=h.call) then
    some (true)
   else
    if BN (b+1) then
     (ZaJ n b3_k13 h q g m) (b+1)
    else none
  else
   ZeU n b3_k13 q 
def Zde (n:Nat) (q:Int × Int × Int × Int) (y7:Nod) (b3_k13:Stt):Option Bool :=
 (IP n ([(4,q.2.1,q.2.2.1,q.2.2.2)])).bind fun y =>
 (Dw y 0).bind fun b =>
 (BU n y7 b3_k13 (Inp.mk b.kind b.time ((100,[1])) b.message b.call b.undo b.done b.body)).bind fun h =>
 (BU n y7 h.state (Inp.mk b.kind b.time ((100,[1])) b.message b.call b.undo (!b.done) b.body)).bind fun g =>
 if BN ((g.outputs.length:Int)+(g.fates.length:Int)) then
  if BN (((g.outputs.length:Int)+(g.fates.length:Int))+(g.letters.length:Int)) then
   if BN ((((g.outputs.length:Int)+(g.fates.length:Int))+(g.letters.length:Int))+(g.requests.length:Int)) then
    if !(decide (((((g.outputs.length:Int)+(g.fates.length:Int))+(g.letters.length:Int))+(g.requests.length:Int))=0)) then
     AM
    else
     (HZ n h.state g.state).bind fun y36 =>
     if !y36 then
      AM
     else
      (Zgb n b3_k13).bind fun y39 =>
      ZaJ n b3_k13 b h y39 n 0
   else none
  else none
 else none
def ZeX (n:Nat) (a0:Int × Int × Int × Int) (a1:List (Int × Int × Int × Int)) (q:Int × Int × Int × Int):Option Bool :=
 (Lq n ).bind fun y =>
 if !y then
  AM
 else
  (DK a0).bind fun g =>
  (IP n a1).bind fun y8 =>
  (MQ n g y8).bind fun b =>
  if decide (0<(b.length:Int)) then
   if BN ((b.length:Int)-1) then
    (Dw b ((b.length:Int)-1)).bind fun h =>
    Zde n q g h.state
   else none
  else
   Zde n q g (Stt.mk 0 0 ([]))
theorem Zgj (w0:World) (hE:QU w0) (hM:Qx w0) (hP:Pow10 w0) (hT:Lib.Utf8Tabs 1 2 w0) (n:Nat) (B:Ao) (Rw:Ap) (L:Aq) (a0:Int × Int × Int × Int) (a1:List (Int × Int × Int × Int)) (a2:Int × Int × Int × Int) (r:Bool) (h:ZeX n a0 a1 a2=some r) :
  ACalls Tryz.prog w0 8 [.agg (.val (.int .u8 a0.1)::(.val (.int .u8 a0.2.1)::(.val (.int .u8 a0.2.2.1)::([.val (.int .u8 a0.2.2.2)])))),.list (a1.map QH) .none,.agg (.val (.int .u8 a2.1)::(.val (.int .u8 a2.2.1)::(.val (.int .u8 a2.2.2.1)::([.val (.int .u8 a2.2.2.2)]))))] ⟨B,Rw,L⟩ fun x st=>x = .val (.bool r)/\st=⟨B,Rw,L⟩:=by
 rw [ZeX] at h
 refine hd [.tmp 6] Tryz.func8 Tryz.ntmps8 fun M0 W0 hN D G j hu o hs=>?_
 simp only [Ax]
 refine rg [1,3,5] hs ?_
 apply Am;intro K2 Z
 obtain ⟨y4,af,h⟩:=bind_some h
 refine rc 2 [1,3,5,18] hs ?_;intro K3 H
 refine Av _ (Xt w0 hE hM hP hT n _ _ _  _ af) (hv hs) ?_
 refine ne hs H ?_
 clear H
 refine B6 h hs ?_ ?_<;>intro hs h
 ·exact nS h
 refine sk [1,3,5] hs Z ?_
 clear Z
 obtain ⟨v,am,h⟩:=bind_some h
 obtain ⟨y8,ae,h⟩:=bind_some h
 refine rc 3 [5,7,8] hs ?_;intro K6 K
 refine Av _ (Ie w0 _ _ _ a0 _ am) (hv hs) ?_
 refine nc hs ?_
 refine Av _ (PO w0 n _ _ _ a1 _ ae) (hv hs) ?_
 refine ne hs K ?_
 clear K
 obtain ⟨ax,ab,h⟩:=bind_some h
 refine rc 2 [5,7,9] hs ?_;intro K9 V
 refine Av _ (U9 w0 hE hM hP hT n _ _ _ v y8 _ ab) (hv hs) ?_
 refine ne hs V ?_
 clear V
 refine rg [5,7,9,10] hs ?_
 refine AD (fun e st=>∃ (c:Stt) (d:List AV),Ck e st B Rw L [(5,true,.box (B.length+1) 0),(7,true,.box (B.length+2) 0),(10,true,.box (B.length+3) 0)] [.val (.int .u8 a0.1)::(.val (.int .u8 a0.2.1)::(.val (.int .u8 a0.2.2.1)::([.val (.int .u8 a0.2.2.2)]))),.val (.int .u8 a2.1)::(.val (.int .u8 a2.2.1)::(.val (.int .u8 a2.2.2.1)::([.val (.int .u8 a2.2.2.2)]))),PD v,d] [] (d.map AV.pubCell=Dx c/\Zde n a2 v c=some r)) ?_ ?_
 ·intro K14 u
  refine rg [5,7,9,10,28] hs ?_
  refine B6 h hs ?_ ?_<;>intro hs h
  ·obtain ⟨av,h⟩:=Au h
   obtain ⟨ao,ap,aj,F,h⟩:=ix NJ h
   have hs:=Ad F hs
   refine rl [5,7,10] hs u ?_
   exact ⟨ao.state,_,([]),Rw,ef hs,ef hs,o,ef hs,h⟩
  refine sk [5,7,10] hs u ?_
  exact ⟨(Stt.mk 0 0 ([])),_,([]),Rw,ef hs,ef hs,o,ef hs,h⟩
 ·clear h;rintro e st ⟨c,d,Xk13,Rk13,rfl,rfl,o,ak,h⟩
  rw [Zde] at h
  refine GR (B.length+3) (by first | rfl | (simp only [Ea,Da,EF,DR];rfl)) ak ?_;simp +decide only [go_sem,Nat.reduceAdd]
  show D8 _ _ _ _ _ _ _ _ [(5,true,.box (B.length+1) 0),(7,true,.box (B.length+2) 0),(10,true,.box (B.length+3) 0)] ⟨B++([.val (.int .u8 a0.1)::(.val (.int .u8 a0.2.1)::(.val (.int .u8 a0.2.2.1)::([.val (.int .u8 a0.2.2.2)]))),.val (.int .u8 a2.1)::(.val (.int .u8 a2.2.1)::(.val (.int .u8 a2.2.2.1)::([.val (.int .u8 a2.2.2.2)]))),PD v,Dx c]++Xk13),Rk13,L⟩
  refine Go.Ev.td hN D G j o ?_
  refine rg [5,7,10] hs ?_
  refine rg [5,7,10,11] hs ?_
  obtain ⟨ag,N,h⟩:=bind_some h
  obtain ⟨b,U,h⟩:=bind_some h
  obtain ⟨ah,ai,C⟩:=Bo U
  have l:=Bz (f:=NA) C
  have E:(ag.map NA).getD 0 .junk=_:=l
  have hs:=Ad l hs
  have hs:=Ad E hs
  refine rc 2 [7,10,11,12] hs ?_;intro K21 p
  refine Av _ (PO w0 n _ _ _ ([(4,a2.2.1,a2.2.2.1,a2.2.2.2)]) _ N) (hv hs) ?_
  refine ne hs p ?_
  clear p
  have hs:=Ad (Vl.cs_eqs b.message.body) hs
  have hs:=Ad (Vl.cs_eqs b.body) hs
  refine rg [7,10,12] hs ?_
  obtain ⟨k,aa,h⟩:=bind_some h
  refine rc 2 [7,10,12,13] hs ?_;intro K25 q
  refine Av _ (P3 w0 hE hM hP hT n _ _ _ v c (Inp.mk b.kind b.time ((100,[1])) b.message b.call b.undo b.done b.body) _ aa) (hv hs) ?_
  refine ne hs q ?_
  clear q
  refine rg [7,10,12,13] hs ?_
  obtain ⟨i,Y,h⟩:=bind_some h
  refine rc 2 [10,12,13,14] hs ?_;intro K28 y
  refine Av _ (P3 w0 hE hM hP hT n _ _ _ v k.state (Inp.mk b.kind b.time ((100,[1])) b.message b.call b.undo (!b.done) b.body) _ Y) (hv hs) ?_
  refine ne hs y ?_
  clear y
  apply Am;intro K30 w
  apply Am;intro K31 t
  obtain ⟨au,h⟩:=Au h
  obtain ⟨ar,h⟩:=Au h
  obtain ⟨aq,h⟩:=Au h
  rcases Bool.eq_false_or_eq_true (!(decide (((((i.outputs.length:Int)+(i.fates.length:Int))+(i.letters.length:Int))+(i.requests.length:Int))=0))) with hf35 | hf35
  ·replace h:=Cj h hf35
   exact nS h
  ·replace h:=Cm h hf35
   obtain ⟨aw,ad,h⟩:=bind_some h
   have hs:=Ad hf35 hs
   refine rk 2 [10,12,13,82] hs ?_
   refine Av _ (Uh w0 n _ _ _ k.state i.state _ ad) (hv hs) ?_
   refine ne hs t ?_
   clear t
   refine B6 h hs ?_ ?_<;>intro hs h
   ·exact nS h
   refine sk [10,12,13] hs w ?_
   clear w
   obtain ⟨J,O,h⟩:=bind_some h
   refine rc 2 [10,12,13,15] hs ?_;intro K38 z
   refine Av _ (ZiK w0 n _ _ _ c _ O) (hv hs) ?_
   refine ne hs z ?_
   clear z
   refine AD (fun e st=>Ck e st B Rw L [(10,true,.box (B.length+3) 0),(13,true,.box (B.length+6) 0)] [.val (.int .u8 a0.1)::(.val (.int .u8 a0.2.1)::(.val (.int .u8 a0.2.2.1)::([.val (.int .u8 a0.2.2.2)]))),[.val (.int .u8 4),.val (.int .u8 a2.2.1),.val (.int .u8 a2.2.2.1),.val (.int .u8 a2.2.2.2)],PD v,Dx c,[Ak 100,.list (([1]).map Ci) .full],[Ak b.kind,Ak b.time,Ak 100,.list (([1]).map Ci) .full,Ak b.message.stamp.1,.list (b.message.stamp.2.map Ci) .none,Ak b.message.mass,.list (b.message.origins.map Ci) .none,Ak b.message.body.kind,Ak b.message.body.int,Ak b.message.body.scale,.val (.string b.message.body.text),.list (b.message.body.list.map En) .none,.list (b.message.body.fields.map Di) .none,Ak b.call,.val (.bool b.undo),.val (.bool (!b.done)),Ak b.body.kind,Ak b.body.int,Ak b.body.scale,.val (.string b.body.text),.list (b.body.list.map En) .none,.list (b.body.fields.map Di) .none],TE k,TE i] [] (ZeU n c k  = some r)) ?_ ?_
   ·intro K42 Q
    refine rg [10,12,13,15,16] hs ?_
    apply Ar
    refine AA (fun m e st=>∃ (g:Int),Ck e st B Rw L [(10,true,.box (B.length+3) 0),(12,true,.box (B.length+5) 0),(13,true,.box (B.length+6) 0),(15,true,.list (J.map Ci) .none),(16,true,Ak g)] [.val (.int .u8 a0.1)::(.val (.int .u8 a0.2.1)::(.val (.int .u8 a0.2.2.1)::([.val (.int .u8 a0.2.2.2)]))),[.val (.int .u8 4),.val (.int .u8 a2.2.1),.val (.int .u8 a2.2.2.1),.val (.int .u8 a2.2.2.2)],PD v,Dx c,[Ak 100,.list (([1]).map Ci) .full],[Ak b.kind,Ak b.time,Ak 100,.list (([1]).map Ci) .full,Ak b.message.stamp.1,.list (b.message.stamp.2.map Ci) .none,Ak b.message.mass,.list (b.message.origins.map Ci) .none,Ak b.message.body.kind,Ak b.message.body.int,Ak b.message.body.scale,.val (.string b.message.body.text),.list (b.message.body.list.map En) .none,.list (b.message.body.fields.map Di) .none,Ak b.call,.val (.bool b.undo),.val (.bool (!b.done)),Ak b.body.kind,Ak b.body.int,Ak b.body.scale,.val (.string b.body.text),.list (b.body.list.map En) .none,.list (b.body.fields.map Di) .none],TE k,TE i] [] (ZaJ n c b k J m g=some r)) n ⟨0,([]),Rk13,ef hs,ef hs,o,h⟩ ?_
    rintro ml44 e st ⟨g,Xl44,Rl44,rfl,rfl,o,h⟩ Ul44 Vl44
    cases ml44 with
    | zero=>cases h
    | succ ml44 =>
    rw [ZaJ] at h
    exact go (tg (a:=([10,12,13,15,16,90],([10,12,13,15,16],[7,10,12,13,15,16,99],([6],()),[10,12,13,15,16],[10,12,13,15,16],()),[10,13],()))) h hs hN D G j o trivial (q2 Q (fun e s=>Vl44 ml44 e s (Nat.lt_succ_self _)))
   ·clear h;rintro e st ⟨Xk41,Rk41,rfl,rfl,o,h⟩
    rw [ZeU] at h
    exact go (tg (a:=(([6],()),((),())))) h hs hN D G j o (q1 (Uh w0 n)) trivial
theorem Zkn {p:CP} {s:CS} (i:Nat) (t:Int) (c:Nat) (d u:Bool) (w:Nat) (h:LC c s.es=none):Du p s (.rep i t c d u w)=⟨s,none,none,[]⟩:=by
 have:(if u=true then none else LC c s.es)=none:=by rw [h];split<;>rfl
 simp only [Du,this]
theorem ZnF {p:CP} {s:CS} (i:Nat) (t:Int) (c:Nat) (d:Bool) (w:Nat):Du p s (.rep i t c d true w)=⟨s,none,none,[]⟩:=by
 simp only [Du,if_true]
theorem ZnS {es:List CE} (c:Nat):LC c (es.filter fun x=>x.num != c)=none:=by
 unfold LC
 rw [List.find?_eq_none]
 intro x a
 have:=(List.mem_filter.1 a).2
 simpa using this
theorem Zod {p:CP} {s:CS} (i:Nat) (t:Int) (c:Nat) (d:Bool) (w:Nat) {e:CE} (h:LC c s.es=some e):(Du p s (.rep i t c d false w)).st=⟨s.num,s.es.filter fun x=>x.num != c⟩:=by
 simp only [Du,Bool.false_eq_true,if_false,h]
 split
 ·rfl
 ·split<;>rfl
theorem ZnZ {p:CP} {s:CS} (i:Nat) (t:Int) (c:Nat) (d d2 u:Bool) (w:Nat):Du p (Du p s (.rep i t c d u w)).st (.rep i t c d2 u w)=⟨(Du p s (.rep i t c d u w)).st,none,none,[]⟩:=by
 cases u with
 | true=>rw [ZnF,ZnF]
 | false =>
  cases hf:LC c s.es with
  | none=>rw [Zkn i t c d false w hf,Zkn i t c d2 false w hf]
  | some e =>
   rw [Zod i t c d w hf]
   exact Zkn i t c d2 false w (ZnS c)
theorem ZnY (n:Nat) (b:Stt) (x:Inp) (y:Otc) (L:List Int) (hL:L.length<=1000):∀ (k m i:Nat),i+k=L.length->k<m->x.call∈L.drop i->ZaJ n b x y L m (i:Int)=some true
 | k,0,i,_,h,_=>absurd h (Nat.not_lt_zero _)
 | 0,m+1,i,hi,_,h=>by rw [List.drop_eq_nil_of_le (by omega)] at h;cases h
 | k+1,m+1,i,hi,hm,h=>by
  have a:i<L.length:=by omega
  rw [List.drop_eq_getElem_cons a] at h
  rw [ZaJ,A4,Ag a,Ah rfl,Bj a,Ae]
  by_cases c:L[i]=x.call
  ·rw [Ag c,Ah rfl]
  ·rw [Af c,Ai (by decide),Ah (A8 (by omega))]
   refine ZnY n b x y L hL k m (i+1) (by omega) (by omega) ?_
   rcases List.mem_cons.1 h with q | q
   ·exact absurd q.symm c
   ·exact q
theorem Zm2 (n:Nat) (b:Stt) (x:Inp) (y:Otc) (L:List Int) (hL:L.length<=1000) (h:∀ z∈L,z≠x.call):∀ (k m i:Nat),i+k=L.length->k<m->ZaJ n b x y L m (i:Int)=ZeU n b y
 | k,0,i,_,h=>absurd h (Nat.not_lt_zero _)
 | 0,m+1,i,hi,_=>by
  rw [ZaJ,A4,Ac,Ai (by decide)]
 | k+1,m+1,i,hi,hm=>by
  have a:i<L.length:=by omega
  rw [ZaJ,A4,Ag a,Ah rfl,Bj a,Ae,Af (h _ (List.getElem_mem a)),Ai (by decide),Ah (A8 (by omega))]
  exact Zm2 n b x y L hL h k m (i+1) (by omega) (by omega)
theorem Zn4 (n:Nat) (hn:100000<=n) (p:CP) (hp:p.ok) (e:Int × Int × Int × Int) (he:ev4 e) (s:CS) {now:Int} {k:Nat} (hs:s.ok p now k):Zde n e (Be p) (Aw s)=some true:=by
 obtain ⟨_,g2,g3,g4⟩:=he
 have j:∀ x∈[((4:Int),e.2.1,e.2.2.1,e.2.2.2)],ev4 x:=fun x E=>by
  rw [List.mem_singleton.1 E];exact ⟨⟨(by show (0:Int)<=4;decide),(by show (4:Int)<=255;decide)⟩,g2,g3,g4⟩
 have b:=ZbM n (by omega) [((4:Int),e.2.1,e.2.2.1,e.2.2.2)] j
 have U:=XE g3.1 12 (by decide)
 obtain ⟨t,c,d,u,w,hw,hmk⟩:∃ t c d u w,w<12/\RO 0 0 [((4:Int),e.2.1,e.2.2.1,e.2.2.2)]=[CI.rep 0 t c d u w]:=by
  refine ⟨0+e.2.2.2.tmod 8,(e.2.1.tmod 16).toNat,decide (0<e.2.2.1.tmod 4),decide ((e.2.2.1.tdiv 4).tmod 8=7),(e.2.2.1.tmod 12).toNat,by omega,?_⟩
  rw [RO,Ah (by decide),RO]
  have F:((4:Int).tmod 8=4\/(4:Int).tmod 8=5\/(4:Int).tmod 8=6) := .inl (by decide)
  unfold UA
  simp only [Ah F]
 rw [hmk] at b
 have D:Dw ([CI.rep 0 t c d u w].map B9) 0=some (B9 (.rep 0 t c d u w)):=rfl
 have Q:=hs.len
 have m:=hp.lim
 have s1:=Zer n hn p hp s hs 99 t c d u w hw
 have f:=Zob hs 99 t c d u w
 have s2:=Zer n hn p hp _ f 99 t c (!d) u w hw
 rw [ZnZ] at s2
 have C:BU n (Be p) (Aw s) (Inp.mk (B9 (.rep 0 t c d u w)).kind (B9 (.rep 0 t c d u w)).time ((100,[1])) (B9 (.rep 0 t c d u w)).message (B9 (.rep 0 t c d u w)).call (B9 (.rep 0 t c d u w)).undo (B9 (.rep 0 t c d u w)).done (B9 (.rep 0 t c d u w)).body)=some (Hi (Du p s (.rep 99 t c d u w))):=s1
 have J:BU n (Be p) (Hi (Du p s (.rep 99 t c d u w))).state (Inp.mk (B9 (.rep 0 t c d u w)).kind (B9 (.rep 0 t c d u w)).time ((100,[1])) (B9 (.rep 0 t c d u w)).message (B9 (.rep 0 t c d u w)).call (B9 (.rep 0 t c d u w)).undo (!(B9 (.rep 0 t c d u w)).done) (B9 (.rep 0 t c d u w)).body)=some (Hi ⟨(Du p s (.rep 99 t c d u w)).st,none,none,[]⟩):=s2
 have N:=f.len
 have l:HZ n (Hi (Du p s (.rep 99 t c d u w))).state (Hi ⟨(Du p s (.rep 99 t c d u w)).st,none,none,[]⟩).state=some true:=WS n hn _ (NC _ (by omega))
 have a:=Zoa n (by omega) s (by omega)
 have v:∀ S:CS,((Hi ⟨S,none,none,[]⟩).outputs.length:Int)=0:=fun _=>rfl
 have r:∀ S:CS,((Hi ⟨S,none,none,[]⟩).fates.length:Int)=0:=fun _=>rfl
 have o:∀ S:CS,((Hi ⟨S,none,none,[]⟩).letters.length:Int)=0:=fun _=>rfl
 have y:∀ S:CS,((Hi ⟨S,none,none,[]⟩).requests.length:Int)=0:=fun _=>rfl
 rw [Zde,b,Ae,D,Ae,C,Ae,J,Ae,v,r,o,y,Ah (by decide),Ah (by decide),Ah (by decide),Ai (by decide),l,Ae,Ai (by decide),a,Ae]
 cases hf:LC c s.es with
 | some q =>
  obtain ⟨G,O⟩:=KG hf
  have:(c:Int)∈s.es.map fun e=>(e.num:Int):=List.mem_map.2 ⟨q,G,by omega⟩
  exact ZnY n _ _ _ _ (by rw [List.length_map];omega) (s.es.map fun e=>(e.num:Int)).length n 0 (by omega) (by rw [List.length_map];omega) this
 | none =>
  have h:=Zs hf
  have i:=Zm2 n (Aw s) (B9 (.rep 0 t c d u w)) (Hi (Du p s (.rep 99 t c d u w))) (s.es.map fun e=>(e.num:Int)) (by rw [List.length_map];omega) (fun z K=>by
   obtain ⟨q,H,rfl⟩:=List.mem_map.1 K
   have:=h q H
   show (q.num:Int)≠(c:Int)
   omega) (s.es.map fun e=>(e.num:Int)).length n 0 (by omega) (by rw [List.length_map];omega)
  refine i.trans ?_
  rw [Zkn 99 t c d u w hf]
  have g:HZ n (Hi ⟨s,none,none,[]⟩).state (Aw s)=some true:=WS n hn _ (NC s (by omega))
  rw [ZeU,v,r,o,y,Ah (by decide),Ah (by decide),Ah (by decide),Ah (by decide),g]
  rfl
theorem Zn3 (n:Nat) (hn:100000<=n) (sk:Int × Int × Int × Int) (evs:List (Int × Int × Int × Int)) (e:Int × Int × Int × Int) (hsk:ev4 sk) (hev:∀ e∈evs,ev4 e) (he:ev4 e):ZeX n sk evs e=some true:=by
 have c:=Ziw hsk
 have a:=Uz evs 0 0 (Int.le_refl _) (by omega) hev
 have m:=RP _ 0 0 a (by omega)
 obtain ⟨i,b⟩:=ZnP c _ (CS.ok0 _) a
 have f:=Zn4 n hn _ c e he _ b
 rw [ZeX,ZV n (by omega),Ae,Bool.not_true,Ai (by decide),ZaB hsk,Ae,ZbM n (by omega) evs hev,Ae,Zjn n hn _ c _ a,Ae]
 by_cases hne:RO 0 0 evs=[]
 ·rw [hne] at f ⊢
  have l:decide ((0:Int)<((((ZZ (cP sk) ⟨0,[]⟩ []).map Hi).length:Nat):Int))=false:=rfl
  rw [l,Ai (by decide)]
  exact f
 ·obtain ⟨g,d⟩:=Zn8 (cP sk) _ hne
  have h:0<(RO 0 0 evs).length:=List.length_pos_iff.2 hne
  have j:((ZZ (cP sk) ⟨0,[]⟩ (RO 0 0 evs)).map Hi).length=(RO 0 0 evs).length:=by rw [List.length_map,ZkM]
  have k:((((ZZ (cP sk) ⟨0,[]⟩ (RO 0 0 evs)).map Hi).length:Nat):Int)-1=((((ZZ (cP sk) ⟨0,[]⟩ (RO 0 0 evs)).map Hi).length-1:Nat):Int):=by omega
  rw [Ag (by omega),Ah rfl,k,Ah (by unfold BN;omega),Bj g,Ae,d]
  exact f
end Go.Proofs.YtbfenpeblbonlaaGreatDoor
namespace Go.Proofs.YtbfenpeblbonlaaGreatDoor
open Go Go.Shelf Go.ChangeShapes Go.WideShapes Go.ChangeAt Go.RowKit Go.Lib Go.Ev
set_option maxRecDepth 100000
section
variable {H:Type} {enc:TypeId × Value->H} {W:World} {base:Nat} {v:Value} {d:DataW H} {p:List MemPlace}
theorem Zoe (hv:Value.okWide Tryz.prog W .any base 70 v) (h:DataW.Trod enc Tryz.prog W 0 (fun _=>true) true 70 v d p) :
  ∃ x:Int × Int × Int × Int,((0<=x.1/\x.1<=255)/\(0<=x.2.1/\x.2.1<=255)/\(0<=x.2.2.1/\x.2.2.1<=255)/\0<=x.2.2.2/\x.2.2.2<=255)/\R W Mem.start W v (.agg [.val (.int .u8 x.1),.val (.int .u8 x.2.1),.val (.int .u8 x.2.2.1),.val (.int .u8 x.2.2.2)]):=by
 obtain ⟨cs,rfl⟩:=Zjk Tryz.underlying70 hv
 obtain ⟨n,b⟩:=h
 obtain ⟨x,c,a⟩:=Zcr n _ _ b
 have a:cs.toList=_:=a
 obtain rfl:cs = #[.int .u8 x.1,.int .u8 x.2.1,.int .u8 x.2.2.1,.int .u8 x.2.2.2]:=by rw [<-Array.toArray_toList (xs:=cs),a]
 exact ⟨x,c,Zdp x⟩
end
end Go.Proofs.YtbfenpeblbonlaaGreatDoor
