/-
  Part 12 of the proof: rules and walks that the claim's last text uses.
-/
import Derived.Carry
import Derived.ChangeOld
import Derived.ChangeSlices
import Derived.Deep.DeepHandedRow
import Derived.Deep.DeepWitnessRowRef
import Derived.Lib.LaidIn
import Derived.Lib.LaidU8T
import Derived.PinnedBridge
import Derived.ProofKit
import Derived.SevenTiedAt
import Derived.SizedLaws
import Derived.Test.YtbfenpeblbonlaaGreatDoorCards
import Derived.Test.YtbfenpeblbonlaaGreatDoorTie
import Derived.Test.YtbfenpeblbonlaaGreatDoorCb1
import Derived.Test.YtbfenpeblbonlaaGreatDoorCb2
import Derived.Test.YtbfenpeblbonlaaGreatDoorCb3
import Derived.Test.YtbfenpeblbonlaaGreatDoorCb4
import Derived.Test.YtbfenpeblbonlaaGreatDoorCb5
import Derived.Test.YtbfenpeblbonlaaGreatDoorCb6
import Derived.Test.YtbfenpeblbonlaaGreatDoorCb7
import Derived.Test.YtbfenpeblbonlaaGreatDoorCb8
import Derived.Test.YtbfenpeblbonlaaGreatDoorCb9
set_option linter.unusedSimpArgs false
set_option linter.unusedVariables false
set_option maxRecDepth 100000
set_option maxHeartbeats 4000000
namespace Go.Proofs.YtbfenpeblbonlaaGreatDoor
open Go Go.RowKit Go.Ev
theorem dl {F p q:Prop} (m c1 c2:Nat) (L:List Nat) (f:F) {P:Program} (hm:P.follows .mixedOrders=true) {A K:Env->St->Prop} (hK:∀ e s,A e s->K e s) (k:q) (h:Tg (m,c1,c2,L)->F->P.follows .mixedOrders=true->(∀ e s,A e s->K e s)->q->p:=by
  intro tt hs hm hK hq
  refine Sz tt hm (by kernel_rfl) ?_
  rw [An];simp +decide only [go_sem,Nat.reduceAdd,hs]
  (repeat' with_reducible apply Ad)<;>first | (rw [An];simp +decide only [go_sem,Nat.reduceAdd,hs]) | (clear hq;exact cl)
  first | (refine hK _ _ ?_;exact hq) | ((repeat' apply Ad)<;>first | (refine hK _ _ ?_;exact hq) | (clear hq;exact cl))):p:=h tg f hm hK k
set_option maxRecDepth 100000
def Nb (s:Stt) (a b c d:AV):List AV:=[Ak s.number,Ak s.time,.list (s.slots.map AZ) .none,a,b,c,d]
@[go_sem] theorem ZgC (s:Stt) (a b c d:AV):Nb s a b c d=[Ak s.number,Ak s.time,.list (s.slots.map AZ) .none,a,b,c,d]:=rfl
def GE (N:Nat) (s:Stt) (F:List Fte) (G:List Msg) (nd:Nod) (m:Msg) (tx:ByteArray):Option (List Fte × List Msg) :=
 if (F.length+1)*96<=140737488355328/\F.length+1<=4611686018427387904/\(G.length+1)*152<=140737488355328/\G.length+1<=4611686018427387904 then (Jk m nd.name tx).bind fun f=>some (F++[f],G++[m]) else none
theorem Ls (w0:World) (N:Nat) (B:Ao) (Rw:Ap) (L:Aq) (la:Nat) (s:Stt) (a b:AV) (F:List Fte) (G:List Msg) (oF oG:Ev.Own) (hla:B[la]? = some (Nb s a b (.list (F.map F3) oF) (.list (G.map Dn) oG)))
  (hG:Owns Rw Rw [(6,F.length,oF)] oF) (hH:Owns Rw Rw [(10,G.length,oG)] oG) (hap:∀ id,oF = .row id->oG ≠ .row id) (nd:Nod) (m:Msg) (tx:ByteArray) (r:List Fte × List Msg) (h:GE N s F G nd m tx=some r) :
  ACalls Tryz.prog w0 48 [.box la 0,.agg (Xm nd).cells,.agg (Ak m.stamp.1 :: .list (m.stamp.2.map Ci) .none::Ak m.mass :: .list (m.origins.map Ci) .none::m.body.cs),.val (.string tx)] ⟨B,Rw,L⟩ fun x st=>x = .tup []/\∃ (R1 R2:Ap) (o1 o2:Ev.Own),st=⟨B.set la (Nb s a b (.list (r.1.map F3) o1) (.list (r.2.map Dn) o2)),R2,L⟩/\Owns Rw R1 [(6,r.1.length,o1)] oF/\Owns R1 R2 [(10,r.2.length,o2)] oG:=by
 rw [GE] at h
 obtain ⟨w,h⟩:=Au h
 obtain ⟨f,H,h⟩:=bind_some h
 have hgt:=Option.some.inj h;subst hgt
 refine ACalls.finG (B7 (rs:=[]) Tryz.func48 rfl rfl Tryz.ntmps48 (AL Tryz.func48 rfl (by decide)) (Nat.le_of_ble_eq_true rfl) ?_)
 intro M0 W0 V z C i Y
 dsimp only at V z C i Y
 simp only [Ax]
 have J:=(Aj.1 hla).1
 have e:=AC hla
 obtain ⟨o,j,hG,c⟩:=hG.append (P:=Tryz.prog) WU (by rw [QI];rfl) (by decide) 1 w.1 w.2.1
 replace c:=fun (ys:List AV) B L o2=>c (F.map F3) ys B L o2 Fh
 replace c:=fun (y:AV) B L o2=>c [y] B L o2 Fh ev
 try simp only [List.mem_singleton,List.mem_cons,List.not_mem_nil,or_false,forall_eq_or_imp,forall_eq,List.map_append,List.map_cons,List.map_nil] at c
 have k:Owns j j [(10,G.length,oG)] oG:=ZhZ hG hH hap
 obtain ⟨v,g,k,d⟩:=k.append (P:=Tryz.prog) Z8 (by rw [U4];rfl) (by decide) 1 w.2.2.1 w.2.2.2
 replace d:=fun (ys:List AV) B L o2=>d (G.map Dn) ys B L o2 Fh
 replace d:=fun (y:AV) B L o2=>d [y] B L o2 Fh ev
 try simp only [List.mem_singleton,List.mem_cons,List.not_mem_nil,or_false,forall_eq_or_imp,forall_eq,List.map_append,List.map_cons,List.map_nil] at d
 refine MI (B':=B.set la (Nb s a b (.list (F.map F3) oF) (.list (G.map Dn) oG))) (by simp only [Bd hla]) ?_
 apply Am;intro K1 t
 apply As 1 [0,3,5,6]
 rw [An];simp +decide only [go_sem,Nat.reduceAdd]
 refine t _ _ ?_
 clear t
 apply Am;intro K2 u
 apply JG G6 [11,14] [4] [0,6] kr (fun l=>∃ (X:Ao) (n:Ap) (p:AV),l=⟨(B.set la (Nb s a b p (.list (G.map Dn) oG)))++([(Xm nd).cells,Ak m.stamp.1 :: .list (m.stamp.2.map Ci) .none::Ak m.mass :: .list (m.origins.map Ci) .none::m.body.cs]++X),n,L⟩) 3 (B.length+2)
 ·simp +decide only [go_sem,Nat.reduceAdd]
 ·refine ⟨2,?_⟩
  rw [An];simp +decide only [go_sem,Nat.reduceAdd,Bh,e,c]
  have hs:=Ad c e
  (repeat' apply Ad)<;>first | refine Av _ (LG w0 _ _ _ m nd.name tx f H) (hv hs) ?_ | exact cl
  rw [An];simp +decide only [go_sem,Nat.reduceAdd,e,c]
  (repeat' apply Ad)<;>first | rfl | exact cl
 ·rintro l ⟨X,n,p,rfl⟩
  refine ⟨2,?_⟩
  rw [An];simp +decide only [go_sem,Nat.reduceAdd,Bh,List.append_eq,List.cons_append,List.nil_append,e,c]
  have hs:=Ad c e
  (repeat' apply Ad)<;>first | refine Av _ (LG w0 _ _ _ m nd.name tx f H) (hv hs) ?_ | exact cl
  rw [An];simp +decide only [go_sem,Nat.reduceAdd,e,c]
  (repeat' apply Ad)<;>first | rfl | ((repeat (first | exact .nil | refine .cons (ef hs) ?_));done) | exact cl
 ·exact gd (tg (a:=(11,14,([0,6]:List Nat)))) (Ad c e)
 simp +decide only [go_sem,Nat.reduceAdd,e,c]
 refine u _ _ ?_
 clear u
 apply JG G6 [7,10] [4] [] kr (fun l=>∃ (X:Ao) (n:Ap) (p:AV),l=⟨(B.set la (Nb s a b (.list (F.map F3++[F3 f]) o) p))++([(Xm nd).cells,Ak m.stamp.1 :: .list (m.stamp.2.map Ci) .none::Ak m.mass :: .list (m.origins.map Ci) .none::m.body.cs]++X),n,L⟩) 3 (B.length+2)
 ·simp +decide only [go_sem,Nat.reduceAdd]
 ·refine ⟨1,?_⟩
  rw [An];simp +decide only [go_sem,Nat.reduceAdd,Bh,e,d]
  have hs:=Ad d e
  (repeat' apply Ad)<;>first | rfl | exact cl
 ·rintro l ⟨X,n,p,rfl⟩
  refine ⟨1,?_⟩
  rw [An];simp +decide only [go_sem,Nat.reduceAdd,Bh,List.append_eq,List.cons_append,List.nil_append,e,d]
  have hs:=Ad d e
  (repeat' apply Ad)<;>first | rfl | ((repeat (first | exact .nil | refine .cons (ef hs) ?_));done) | exact cl
 ·exact gd (tg (a:=(7,10,([]:List Nat)))) (Ad d e)
 simp +decide only [go_sem,Nat.reduceAdd,e,d]
 (repeat' with_reducible apply Ad)<;>first | exact cl | skip
 have U:=hG.len
 have D:=k.len
 have K:o.under g.length:=Zc1 D (hG.unders _ (List.mem_singleton.2 rfl))
 have Q:v.under g.length:=k.unders _ (List.mem_singleton.2 rfl)
 have E:Under B.length g.length L.length a/\Under B.length g.length L.length b:=by
  have O:=i.boxes _ (List.mem_of_getElem? hla)
  have q:∀ y∈(Nb s a b (.list (F.map F3) oF) (.list (G.map Dn) oG)),Under B.length Rw.length L.length y:=O
  rw [ZgC] at q
  exact ⟨BP (Nat.le_refl _) (by omega) (Nat.le_refl _) (q a (by simp)),BP (Nat.le_refl _) (by omega) (Nat.le_refl _) (q b (by simp))⟩
 refine Zew (by omega) ⟨k.rowsCalm (Nat.le_refl _) (hG.rowsCalm (Nat.le_refl _) i.rows),?_,(DY i (by omega)).loops⟩ (by simp only [List.length_set]) (by simp +decide only [go_sem,Nat.reduceAdd]) ⟨rfl,j,g,o,v,rfl,?_,?_⟩
 ·refine (AK (DY i (show Rw.length<=g.length by omega)) ?_).boxes
  simp +decide only [go_sem,Nat.reduceAdd]
  (repeat' apply Ad)<;>first | exact E.1 | exact E.2 | exact K | exact Q | trivial
 ·first | exact hG | exact hG.len1 (by simp only [List.length_append,List.length_cons,List.length_nil])
 ·first | exact k | exact k.len1 (by simp only [List.length_append,List.length_cons,List.length_nil])
end Go.Proofs.YtbfenpeblbonlaaGreatDoor
namespace Go.Ev
open Go Go.RowKit
theorem Zeu {W:World} {v u:Value} {x y:AV} (h:R W Mem.start W v x) (k:R W Mem.start W u y):RowR W Mem.start W #[v,u] [x,y]:=⟨rfl,fun i b a=>by
 have:i=0\/i=1:=by simp at a;omega
 rcases this with rfl | rfl
 ·exact h
 ·exact k⟩
end Go.Ev
namespace Go.Proofs.YtbfenpeblbonlaaGreatDoor
open Go Go.Shelf Go.ChangeShapes Go.WideShapes Go.ChangeAt Go.RowKit Go.Lib Go.Ev
open Go.ChangeMaps (open_string shut_string)
set_option maxRecDepth 100000
end Go.Proofs.YtbfenpeblbonlaaGreatDoor
namespace Go.Proofs.YtbfenpeblbonlaaGreatDoor
open Go Go.RowKit Go.Ev
theorem ZaR:∀ a b:List UInt8,Lib.compareBytes a b=0->a=b
 | [],[],_=>rfl
 | [],_::_,h=>absurd (show (-1:Int)=0 from h) (by decide)
 | _::_,[],h=>absurd (show (1:Int)=0 from h) (by decide)
 | x::a,y::b,h=>by
  simp only [Lib.compareBytes] at h
  by_cases h1:x<y
  ·simp [h1] at h
  ·by_cases h2:y<x
   ·simp [h1,h2] at h
   ·simp only [h1,h2,if_false] at h
    rw [ZaR a b h]
    have:x=y:=by
     rw [UInt8.lt_iff_toNat_lt] at h1 h2
     exact UInt8.toNat_inj.1 (by omega)
    rw [this]
theorem VY (a b:ByteArray):VV a b=0<->a=b:=by
 unfold VV
 constructor
 ·intro h;exact ZL (ZaR _ _ h)
 ·rintro rfl;exact W5 _
theorem Zgp (x y:ByteArray):MY x y=true<->x=y:=by
 unfold MY
 rw [beq_iff_eq]
 exact ⟨ZL,fun h=>by rw [h]⟩
theorem U7 (x:ByteArray):MY x x=true:=(Zgp x x).2 rfl
theorem OX {α:Type} (l m:List α) (i:Nat) (h1:i<l.length) (h2:i<m.length):l.drop i=m.drop i<->l[i]=m[i]/\l.drop (i+1)=m.drop (i+1):=by
 rw [List.drop_eq_getElem_cons h1,List.drop_eq_getElem_cons h2,List.cons.injEq]
def GW (n:Nat)  : Option Bool :=
 some (true)
def BZ (n:Nat) (q:List Vl) (a1:List Vl) (a2:Vl->Vl->Option Bool):Nat->Int->Option Bool
 | 0,_=>none
 | m+1,b =>
  if decide (b<(q.length:Int)) then
   (Dw q b).bind fun g =>
   (Dw a1 b).bind fun h =>
   (a2 g h).bind fun y =>
   if !y then
    some (false)
   else
    if BN (b+1) then
     (BZ n q a1 a2 m) (b+1)
    else none
  else
   GW n 
def Ef (n:Nat) (g:List Vl) (b:List Vl) (h:Vl->Vl->Option Bool):Option Bool :=
 if !(decide ((g.length:Int)=(b.length:Int))) then
  some (false)
 else
  BZ n g b h n 0
theorem Oa (w0:World) (n:Nat) (B:Ao) (Rw:Ap) (L:Aq) (a0:List Vl) (a1:List Vl) (fa2:FuncId) (ca2:List AV) (a2:Vl->Vl->Option Bool) (ha2:∀ (x0:Vl) (x1:Vl) r,a2 x0 x1=some r->∀ B' rows,B <+: B'->Rw <+: rows->ACalls Tryz.prog w0 fa2 ([.agg (x0.cs),.agg (x1.cs)]++ca2) ⟨B',rows,L⟩ fun v s=>v = .val (.bool r)/\s=⟨B',rows,L⟩) (r:Bool) (h:Ef n a0 a1 a2=some r) :
  ACalls Tryz.prog w0 73 [.list (a0.map En) .none,.list (a1.map En) .none,.clo fa2 ca2] ⟨B,Rw,L⟩ fun x st=>x = .val (.bool r)/\st=⟨B,Rw,L⟩:=by
 rw [Ef] at h
 refine hd [.tmp 6] Tryz.func73 Tryz.ntmps73 fun M0 W0 k g i c o f hs=>?_
 simp only [Ax]
 have d:=Cc (o (.clo fa2 ca2) (by simp))
 refine rg [0,1,2] hs ?_
 apply Am;intro K2 j
 refine rg [0,1,2,14] hs ?_
 refine B6 h hs ?_ ?_<;>intro hs h
 ·refine rg [6] hs ?_
  exact rt h hs c f
 refine sk [0,1,2] hs j ?_
 clear j
 refine AD (fun e st=>Ck e st B Rw L [] [] [] (GW n  = some r)) ?_ ?_
 ·intro K8 l
  refine rg [1,2,15,16,17] hs ?_
  apply Ar
  refine AA (fun m e st=>∃ (b:Int),Ck e st B Rw L [(1,true,.list (a1.map En) .none),(2,true,.clo fa2 ca2),(15,true,.list (a0.map En) .none),(16,true,Ak (a0.length:Int)),(17,true,Ak b)] [] [] (BZ n a0 a1 a2 m b=some r)) n ⟨0,([]),Rw,ef hs,ef hs,f,h⟩ ?_
  rintro ml10 e st ⟨b,Xl10,Rl10,rfl,rfl,f,h⟩ Ul10 Vl10
  cases ml10 with
  | zero=>cases h
  | succ ml10 =>
  rw [BZ] at h
  refine AO k g i rfl c f (H8 d f) (H8 d f) ?_
  exact go (tg (a:=([1,2,15,16,17,18],([1,2,15,16,17],[1,2,7,8,15,16,17],[1,2,8,9,15,16,17],[1,2,15,16,17,30],([6],()),[1,2,15,16,17],[1,2,15,16,17],()),[],()))) h hs k g i c f (q1 ha2) (q2 l (fun e s=>Vl10 ml10 e s (Nat.lt_succ_self _)))
 ·clear h;rintro e st ⟨Xk7,Rk7,rfl,rfl,f,h⟩
  rw [GW] at h
  refine AO k g i rfl c f (H8 d f) (H8 d f) ?_
  refine rg [6] hs ?_
  exact rt h hs c f
def DT (n:Nat) (g:Vl) (b:Vl):Option Bool :=
 (CB n g b).bind fun h =>
 some (decide (h=0))
theorem KB (w0:World) (n:Nat) (B:Ao) (Rw:Ap) (L:Aq) (a0:Vl) (a1:Vl) (r:Bool) (h:DT n a0 a1=some r) :
  ACalls Tryz.prog w0 43 [.agg (a0.cs),.agg (a1.cs)] ⟨B,Rw,L⟩ fun x st=>x = .val (.bool r)/\st=⟨B,Rw,L⟩:=by
 rw [DT] at h
 refine hd [.tmp 4] Tryz.func43 Tryz.ntmps43 fun M0 W0 e c d b g f hs=>?_
 simp only [Ax]
 exact go (tg (a:=([2,3],[4],()))) h hs e c d b f (q1 (Nr w0 n)) trivial
theorem ZM {a b:Nat}:decide ((a:Int)<=(b:Int))=decide (a<=b):=decide_eq_decide.2 ⟨fun h=>by omega,fun h=>by omega⟩
theorem UF (n:Nat) (a b:List (Vl)) (f:Vl->Vl->Option Int) (hl:a.length<=1000000000)
  (hr:∀ p∈a,∀ q∈b,∃ c,f p q=some c/\(c=0<->p=q)):∀ (k m i:Nat),i+k=a.length->k<m->∃ c,BR n a b f m i=some c/\(c=0<->a.drop i=b.drop i)
 | k,0,i,_,h=>absurd h (Nat.not_lt_zero _)
 | 0,m+1,i,hi,_=>by
  rw [BR,A4,Ac]
  simp only [Bool.false_eq_true,if_false]
  rw [Ew,A4,List.drop_eq_nil_of_le (show a.length<=i by omega)]
  by_cases h:a.length<b.length
  ·rw [Ag h]
   simp only [if_true]
   exact ⟨-1,rfl,⟨fun h=>absurd h (by decide),fun e=>by have:=List.drop_eq_nil_iff.1 e.symm;omega⟩⟩
  ·rw [Af h]
   simp only [Bool.false_eq_true,if_false]
   exact ⟨0,rfl,⟨fun _=>(List.drop_eq_nil_of_le (by omega)).symm,fun _=>rfl⟩⟩
 | k+1,m+1,i,hi,hm=>by
  have g:i<a.length:=by omega
  rw [BR,A4,Ag g]
  simp only [if_true,Bj g,Ae,ZM]
  by_cases d:i<b.length
  ·rw [Af (show ¬ b.length<=i by omega)]
   simp only [Bool.false_eq_true,if_false,Bj d,Ae]
   obtain ⟨c,e,j⟩:=hr _ (List.getElem_mem g) _ (List.getElem_mem d)
   rw [e,OX _ _ i g d]
   simp only [Ae]
   by_cases h0:c=0
   ·rw [Ag h0]
    simp only [Bool.not_true,Bool.false_eq_true,if_false]
    rw [Ah (A8 (by omega))]
    obtain ⟨l,o,d⟩:=UF n a b f hl hr k m (i+1) (by omega) (by omega)
    exact ⟨l,o,d.trans ⟨fun h=>⟨j.1 h0,h⟩,fun h=>h.2⟩⟩
   ·rw [Af h0]
    simp only [Bool.not_false,if_true]
    exact ⟨c,rfl,⟨fun h=>absurd h h0,fun h=>absurd (j.2 h.1) h0⟩⟩
  ·rw [Ag (show b.length<=i by omega)]
   simp only [if_true]
   refine ⟨1,rfl,⟨fun h=>absurd h (by decide),fun e=>?_⟩⟩
   rw [List.drop_eq_nil_of_le (show b.length<=i by omega)] at e
   have:=List.drop_eq_nil_iff.1 e
   omega
theorem Zm (n:Nat) (a b:List (Vl)) (f:Vl->Vl->Option Int) (hl:a.length<=1000000000) (hn:a.length<n)
  (hr:∀ p∈a,∀ q∈b,∃ c,f p q=some c/\(c=0<->p=q)):∃ c,DD n a b f=some c/\(c=0<->a=b) :=
 UF n a b f hl hr a.length n 0 (by omega) hn
theorem U5 (n:Nat) (a b:List (ByteArray × Vl)) (f:ByteArray × Vl->ByteArray × Vl->Option Int) (hl:a.length<=1000000000)
  (hr:∀ p∈a,∀ q∈b,∃ c,f p q=some c/\(c=0<->p=q)):∀ (k m i:Nat),i+k=a.length->k<m->∃ c,BQ n a b f m i=some c/\(c=0<->a.drop i=b.drop i)
 | k,0,i,_,h=>absurd h (Nat.not_lt_zero _)
 | 0,m+1,i,hi,_=>by
  rw [BQ,A4,Ac]
  simp only [Bool.false_eq_true,if_false]
  rw [Et,A4,List.drop_eq_nil_of_le (show a.length<=i by omega)]
  by_cases h:a.length<b.length
  ·rw [Ag h]
   simp only [if_true]
   exact ⟨-1,rfl,⟨fun h=>absurd h (by decide),fun e=>by have:=List.drop_eq_nil_iff.1 e.symm;omega⟩⟩
  ·rw [Af h]
   simp only [Bool.false_eq_true,if_false]
   exact ⟨0,rfl,⟨fun _=>(List.drop_eq_nil_of_le (by omega)).symm,fun _=>rfl⟩⟩
 | k+1,m+1,i,hi,hm=>by
  have g:i<a.length:=by omega
  rw [BQ,A4,Ag g]
  simp only [if_true,Bj g,Ae,ZM]
  by_cases d:i<b.length
  ·rw [Af (show ¬ b.length<=i by omega)]
   simp only [Bool.false_eq_true,if_false,Bj d,Ae]
   obtain ⟨c,e,j⟩:=hr _ (List.getElem_mem g) _ (List.getElem_mem d)
   rw [e,OX _ _ i g d]
   simp only [Ae]
   by_cases h0:c=0
   ·rw [Ag h0]
    simp only [Bool.not_true,Bool.false_eq_true,if_false]
    rw [Ah (A8 (by omega))]
    obtain ⟨l,o,d⟩:=U5 n a b f hl hr k m (i+1) (by omega) (by omega)
    exact ⟨l,o,d.trans ⟨fun h=>⟨j.1 h0,h⟩,fun h=>h.2⟩⟩
   ·rw [Af h0]
    simp only [Bool.not_false,if_true]
    exact ⟨c,rfl,⟨fun h=>absurd h h0,fun h=>absurd (j.2 h.1) h0⟩⟩
  ·rw [Ag (show b.length<=i by omega)]
   simp only [if_true]
   refine ⟨1,rfl,⟨fun h=>absurd h (by decide),fun e=>?_⟩⟩
   rw [List.drop_eq_nil_of_le (show b.length<=i by omega)] at e
   have:=List.drop_eq_nil_iff.1 e
   omega
theorem ZE (n:Nat) (a b:List (ByteArray × Vl)) (f:ByteArray × Vl->ByteArray × Vl->Option Int) (hl:a.length<=1000000000) (hn:a.length<n)
  (hr:∀ p∈a,∀ q∈b,∃ c,f p q=some c/\(c=0<->p=q)):∃ c,DL n a b f=some c/\(c=0<->a=b) :=
 U5 n a b f hl hr a.length n 0 (by omega) hn
theorem ZhL (n:Nat) (l:List Int) (hl:l.length<=1000000000):∀ (k m i:Nat),i+k=l.length->k<m->∃ c,Ec n l m i=some c/\(c=0<->∀ x∈l.drop i,x=0)
 | k,0,i,_,h=>absurd h (Nat.not_lt_zero _)
 | 0,m+1,i,hi,_=>by
  rw [Ec,A4,Ac]
  simp only [Bool.false_eq_true,if_false]
  exact ⟨0,rfl,by rw [List.drop_eq_nil_of_le (by omega)];simp⟩
 | k+1,m+1,i,hi,hm=>by
  have a:i<l.length:=by omega
  rw [Ec,A4,Ag a]
  simp only [if_true,Bj a,Ae]
  rw [List.drop_eq_getElem_cons a]
  by_cases h0:l[i]=0
  ·rw [Ag h0]
   simp only [Bool.not_true,Bool.false_eq_true,if_false]
   rw [Ah (A8 (by omega))]
   obtain ⟨b,e,d⟩:=ZhL n l hl k m (i+1) (by omega) (by omega)
   exact ⟨b,e,d.trans ⟨fun h x hx=>by rcases List.mem_cons.1 hx with rfl | hx;exact h0;exact h x hx,fun h x hx=>h x (List.mem_cons_of_mem _ hx)⟩⟩
  ·rw [Af h0]
   simp only [Bool.not_false,if_true]
   exact ⟨_,rfl,⟨fun h=>absurd h h0,fun h=>absurd (h _ (List.mem_cons_self ..)) h0⟩⟩
theorem ZdQ (n:Nat) (l:List Int) (hl:l.length<n) (h2:l.length<=1000000000):∃ c,EJ n l=some c/\(c=0<->∀ x∈l,x=0):=ZhL n l h2 l.length n 0 (by omega) hl
theorem Sr (a b:Int):(if a<b then (-1:Int) else if a=b then 0 else 1)=0<->a=b:=by
 by_cases h1:a<b
 ·rw [Ah h1];omega
 ·rw [Ai h1]
  by_cases h2:a=b
  ·simp [h2]
  ·simp [h2]
theorem Vl.lens' (v:Vl):v.list.length<v.size/\v.fields.length<v.size:=by have:=P8 v.list;have:=P1 v.fields;have:=v.size_eq;omega
theorem Oi:∀ (n:Nat) (a b:Vl),a.size+10<=n->a.size<=1000000000->∃ c,CB n a b=some c/\(c=0<->a=b)
 | 0,a,b,h,_=>by omega
 | n+1,a,b,h,hs=>by
  have w:=a.lens'
  rw [CB,Ip]
  obtain ⟨u,v,o⟩:=Zm n a.list b.list (fun x y=>CB n x y) (by omega) (by omega) (fun p d q _=>Oi n p q (by have:=a.list_size p d;omega) (by have:=a.list_size p d;omega))
  obtain ⟨f,j,g⟩:=ZE n a.fields b.fields (fun x y=>FX (CB n) n x y) (by omega) (by omega) (fun p d q _=>by
   obtain ⟨c,e,i⟩:=Oi n p.2 q.2 (by have:=a.field_size p d;omega) (by have:=a.field_size p d;omega)
   obtain ⟨f,j,g⟩:=ZdQ n [VV p.1 q.1,c] (by simp;omega) (by simp)
   refine ⟨f,by rw [FX,e,Ae,j];rfl,g.trans ?_⟩
   simp only [List.mem_cons,List.not_mem_nil,or_false,forall_eq_or_imp,forall_eq,VY,i]
   exact ⟨fun h=>Prod.ext h.1 h.2,fun h=>by rw [h];exact ⟨rfl,rfl⟩⟩)
  rw [v,Ae,j,Ae]
  obtain ⟨c,e,i⟩:=ZdQ n [if a.kind<b.kind then -1 else if a.kind=b.kind then 0 else 1,if a.int<b.int then -1 else if a.int=b.int then 0 else 1,if a.scale<b.scale then -1 else if a.scale=b.scale then 0 else 1,VV a.text b.text,u,f] (by simp;omega) (by simp)
  refine ⟨c,by rw [e];rfl,i.trans ?_⟩
  simp only [List.mem_cons,List.not_mem_nil,or_false,forall_eq_or_imp,forall_eq,VY,Sr,o,g]
  exact ⟨fun ⟨k,m,r,s,l,t⟩=>Vl.ext' k m r s l t,fun h=>by rw [h];exact ⟨rfl,rfl,rfl,rfl,rfl,rfl⟩⟩
theorem Zby (n:Nat) (a b:Vl) (h:a.size+10<=n) (hs:a.size<=1000000000):∃ c,DT n a b=some c/\(c=true<->a=b):=by
 obtain ⟨c,e,d⟩:=Oi n a b h hs
 exact ⟨decide (c=0),by rw [DT,e];rfl,by rw [decide_eq_true_eq];exact d⟩
def G9 (n:Nat)  : Option Bool :=
 some (true)
def Cb (n:Nat) (q:List Slt) (a1:List Slt) (a2:Slt->Slt->Option Bool):Nat->Int->Option Bool
 | 0,_=>none
 | m+1,b =>
  if decide (b<(q.length:Int)) then
   (Dw q b).bind fun g =>
   (Dw a1 b).bind fun h =>
   (a2 g h).bind fun y =>
   if !y then
    some (false)
   else
    if BN (b+1) then
     (Cb n q a1 a2 m) (b+1)
    else none
  else
   G9 n 
def EG (n:Nat) (g:List Slt) (b:List Slt) (h:Slt->Slt->Option Bool):Option Bool :=
 if !(decide ((g.length:Int)=(b.length:Int))) then
  some (false)
 else
  Cb n g b h n 0
theorem OL (w0:World) (n:Nat) (B:Ao) (Rw:Ap) (L:Aq) (a0:List Slt) (a1:List Slt) (fa2:FuncId) (ca2:List AV) (a2:Slt->Slt->Option Bool) (ha2:∀ (x0:Slt) (x1:Slt) r,a2 x0 x1=some r->∀ B' rows,B <+: B'->Rw <+: rows->ACalls Tryz.prog w0 fa2 ([.agg (O4 x0),.agg (O4 x1)]++ca2) ⟨B',rows,L⟩ fun v s=>v = .val (.bool r)/\s=⟨B',rows,L⟩) (r:Bool) (h:EG n a0 a1 a2=some r) :
  ACalls Tryz.prog w0 41 [.list (a0.map AZ) .none,.list (a1.map AZ) .none,.clo fa2 ca2] ⟨B,Rw,L⟩ fun x st=>x = .val (.bool r)/\st=⟨B,Rw,L⟩:=by
 rw [EG] at h
 refine hd [.tmp 6] Tryz.func41 Tryz.ntmps41 fun M0 W0 k g i c o f hs=>?_
 simp only [Ax]
 have d:=Cc (o (.clo fa2 ca2) (by simp))
 refine rg [0,1,2] hs ?_
 apply Am;intro K2 j
 refine rg [0,1,2,14] hs ?_
 refine B6 h hs ?_ ?_<;>intro hs h
 ·refine rg [6] hs ?_
  exact rt h hs c f
 refine sk [0,1,2] hs j ?_
 clear j
 refine AD (fun e st=>Ck e st B Rw L [] [] [] (G9 n  = some r)) ?_ ?_
 ·intro K8 l
  refine rg [1,2,15,16,17] hs ?_
  apply Ar
  refine AA (fun m e st=>∃ (b:Int),Ck e st B Rw L [(1,true,.list (a1.map AZ) .none),(2,true,.clo fa2 ca2),(15,true,.list (a0.map AZ) .none),(16,true,Ak (a0.length:Int)),(17,true,Ak b)] [] [] (Cb n a0 a1 a2 m b=some r)) n ⟨0,([]),Rw,ef hs,ef hs,f,h⟩ ?_
  rintro ml10 e st ⟨b,Xl10,Rl10,rfl,rfl,f,h⟩ Ul10 Vl10
  cases ml10 with
  | zero=>cases h
  | succ ml10 =>
  rw [Cb] at h
  refine AO k g i rfl c f (H8 d f) (H8 d f) ?_
  exact go (tg (a:=([1,2,15,16,17,18],([1,2,15,16,17],[1,2,7,8,15,16,17],[1,2,8,9,15,16,17],[1,2,15,16,17,30],([6],()),[1,2,15,16,17],[1,2,15,16,17],()),[],()))) h hs k g i c f (q1 ha2) (q2 l (fun e s=>Vl10 ml10 e s (Nat.lt_succ_self _)))
 ·clear h;rintro e st ⟨Xk7,Rk7,rfl,rfl,f,h⟩
  rw [G9] at h
  refine AO k g i rfl c f (H8 d f) (H8 d f) ?_
  refine rg [6] hs ?_
  exact rt h hs c f
def JQ (n:Nat)  : Option Bool :=
 some (true)
def D5 (n:Nat) (q:List Int) (y:List Int):Nat->Int->Option Bool
 | 0,_=>none
 | m+1,b =>
  if decide (b<(q.length:Int)) then
   (Dw q b).bind fun h =>
   (Dw y b).bind fun g =>
   if !(decide (h=g)) then
    some (false)
   else
    if BN (b+1) then
     (D5 n q y m) (b+1)
    else none
  else
   JQ n 
def Hh (n:Nat) (g:List Int) (b:List Int):Option Bool :=
 if !(decide ((g.length:Int)=(b.length:Int))) then
  some (false)
 else
  D5 n g b n 0
theorem Tu (w0:World) (n:Nat) (B:Ao) (Rw:Ap) (L:Aq) (a0:List Int) (a1:List Int) (r:Bool) (h:Hh n a0 a1=some r) :
  ACalls Tryz.prog w0 75 [.list (a0.map Ci) .none,.list (a1.map Ci) .none] ⟨B,Rw,L⟩ fun x st=>x = .val (.bool r)/\st=⟨B,Rw,L⟩:=by
 rw [Hh] at h
 refine hd [.tmp 4] Tryz.func75 Tryz.ntmps75 fun M0 W0 k g i c l d hs=>?_
 simp only [Ax]
 refine rg [0,1] hs ?_
 apply Am;intro K2 f
 refine rg [0,1,10] hs ?_
 refine B6 h hs ?_ ?_<;>intro hs h
 ·refine rg [4] hs ?_
  exact rt h hs c d
 refine sk [0,1] hs f ?_
 clear f
 refine AD (fun e st=>Ck e st B Rw L [] [] [] (JQ n  = some r)) ?_ ?_
 ·intro K8 j
  refine rg [0,1,12,13] hs ?_
  apply Ar
  refine AA (fun m e st=>∃ (b:Int),Ck e st B Rw L [(0,true,.list (a0.map Ci) .none),(1,true,.list (a1.map Ci) .none),(12,true,Ak (a0.length:Int)),(13,true,Ak b)] [] [] (D5 n a0 a1 m b=some r)) n ⟨0,([]),Rw,ef hs,ef hs,d,h⟩ ?_
  rintro ml10 e st ⟨b,Xl10,Rl10,rfl,rfl,d,h⟩ Ul10 Vl10
  cases ml10 with
  | zero=>cases h
  | succ ml10 =>
  rw [D5] at h
  exact go (tg (a:=([0,1,12,13,14],([0,1,12,13],[0,1,5,12,13],[9,0,1,12,13,24],([4],()),[0,1,12,13],[0,1,12,13],()),[],()))) h hs k g i c d trivial (q2 j (fun e s=>Vl10 ml10 e s (Nat.lt_succ_self _)))
 ·clear h;rintro e st ⟨Xk7,Rk7,rfl,rfl,d,h⟩
  rw [JQ] at h
  refine Go.Ev.td k g i c d ?_
  refine rg [4] hs ?_
  exact rt h hs c d
def EY (n:Nat) (g:List Int) (b:List Int):Option Int :=
 if decide ((g.length:Int)<(b.length:Int)) then
  some ((-1))
 else
  some (0)
def BL (n:Nat) (q:List Int) (h:List Int) (a2:Int->Int->Option Int):Nat->Int->Option Int
 | 0,_=>none
 | m+1,b =>
  if decide (b<(q.length:Int)) then
   (Dw q b).bind fun x12 =>
   if decide ((h.length:Int)<=b) then
    some (1)
   else
    (Dw h b).bind fun y =>
    (a2 x12 y).bind fun g =>
    if !(decide (g=0)) then
     some (g)
    else
     if BN (b+1) then
      (BL n q h a2 m) (b+1)
     else none
  else
   EY n q h 
def FC (n:Nat) (h:List Int) (g:List Int) (b:Int->Int->Option Int):Option Int :=
 BL n h g b n 0
theorem Og (w0:World) (n:Nat) (B:Ao) (Rw:Ap) (L:Aq) (a0:List Int) (a1:List Int) (fa2:FuncId) (ca2:List AV) (a2:Int->Int->Option Int) (ha2:∀ (x0:Int) (x1:Int) r,a2 x0 x1=some r->∀ B' rows,B <+: B'->Rw <+: rows->ACalls Tryz.prog w0 fa2 ([Ak x0,Ak x1]++ca2) ⟨B',rows,L⟩ fun v s=>v=Ak r/\s=⟨B',rows,L⟩) (r:Int) (h:FC n a0 a1 a2=some r) :
  ACalls Tryz.prog w0 54 [.list (a0.map Ci) .none,.list (a1.map Ci) .none,.clo fa2 ca2] ⟨B,Rw,L⟩ fun x st=>x=Ak r/\st=⟨B,Rw,L⟩:=by
 rw [FC] at h
 refine hd [.tmp 6] Tryz.func54 Tryz.ntmps54 fun M0 W0 j g i c l f hs=>?_
 simp only [Ax]
 have d:=Cc (l (.clo fa2 ca2) (by simp))
 refine rg [0,1,2] hs ?_
 refine AD (fun e st=>Ck e st B Rw L [(0,true,.list (a0.map Ci) .none),(1,true,.list (a1.map Ci) .none)] [] [] (EY n a0 a1  = some r)) ?_ ?_
 ·intro K4 k
  refine rg [0,1,2,11,12,13] hs ?_
  apply Ar
  refine AA (fun m e st=>∃ (b:Int),Ck e st B Rw L [(0,true,.list (a0.map Ci) .none),(1,true,.list (a1.map Ci) .none),(2,true,.clo fa2 ca2),(11,true,.list (a0.map Ci) .none),(12,true,Ak (a0.length:Int)),(13,true,Ak b)] [] [] (BL n a0 a1 a2 m b=some r)) n ⟨0,([]),Rw,ef hs,ef hs,f,h⟩ ?_
  rintro ml6 e st ⟨b,Xl6,Rl6,rfl,rfl,f,h⟩ Ul6 Vl6
  cases ml6 with
  | zero=>cases h
  | succ ml6 =>
  rw [BL] at h
  refine AO j g i rfl c f (H8 d f) (H8 d f) ?_
  exact go (tg (a:=([0,1,2,11,12,13,14],([0,1,2,11,12,13],[0,1,2,7,8,11,12,13],[0,1,2,7,8,11,12,13,21],([6],()),[0,1,2,7,8,11,12,13],[0,1,2,8,9,11,12,13],[0,1,2,10,11,12,13],[0,1,2,10,11,12,13,31],([6],()),[0,1,2,11,12,13],[0,1,2,11,12,13],()),[0,1],()))) h hs j g i c f (q1 ha2) (q2 k (fun e s=>Vl6 ml6 e s (Nat.lt_succ_self _)))
 ·clear h;rintro e st ⟨Xk3,Rk3,rfl,rfl,f,h⟩
  rw [EY] at h
  refine AO j g i rfl c f (H8 d f) (H8 d f) ?_
  exact go (tg (a:=([38],([6],()),[],[6],()))) h hs j g i c f trivial trivial
def C7 (g:Int) (b:Int):Int :=
 if g<b then -1 else if g=b then 0 else 1
theorem Qb (w0:World) (B:Ao) (Rw:Ap) (L:Aq) (a0:Int) (a1:Int) (r:Int) (h:C7 a0 a1=r) :
  ACalls Tryz.prog w0 55 [Ak a0,Ak a1] ⟨B,Rw,L⟩ fun x st=>x=Ak r/\st=⟨B,Rw,L⟩:=by
 rw [C7] at h
 refine hd [.tmp 4] Tryz.func55 Tryz.ntmps55 fun M0 W0 e c d b g f hs=>?_
 simp only [Ax]
 exact go (tg (a:=([0,1],[4],()))) h hs e c d b f (q1 (I7 w0)) trivial
theorem PC (w0:World) (B:Ao) (Rw:Ap) (L:Aq) (a0:Int) (a1:Int) :
  ACalls Tryz.prog w0 55 [Ak a0,Ak a1] ⟨B,Rw,L⟩ fun x st=>x=Ak (C7 a0 a1)/\st=⟨B,Rw,L⟩:=Qb w0 B Rw L a0 a1 _ rfl
def H6 (n:Nat) (g:Int × List Int) (b:Int × List Int):Option Int :=
 (FC n g.2 b.2 (fun (x0:Int) (h:Int)=>some (C7 x0 h))).bind fun q =>
 (EJ n ([if g.1<b.1 then -1 else if g.1=b.1 then 0 else 1,q])).bind fun y =>
 some (y)
theorem Rr (w0:World) (n:Nat) (B:Ao) (Rw:Ap) (L:Aq) (a0:Int × List Int) (a1:Int × List Int) (r:Int) (h:H6 n a0 a1=some r) :
  ACalls Tryz.prog w0 31 [.agg (Ak a0.1::([.list (a0.2.map Ci) .none])),.agg (Ak a1.1::([.list (a1.2.map Ci) .none]))] ⟨B,Rw,L⟩ fun x st=>x=Ak r/\st=⟨B,Rw,L⟩:=by
 rw [H6] at h
 refine hd [.tmp 4] Tryz.func31 Tryz.ntmps31 fun M0 W0 f d e b m k hs=>?_
 simp only [Ax]
 refine rg [2,3] hs ?_
 obtain ⟨o,hy3,h⟩:=bind_some h
 obtain ⟨p,g,h⟩:=bind_some h
 apply Am;intro K2 c
 refine dk 13 4 1 [4] hs G6 ?_
 refine Av _ (I7 w0 _ _ _ a0.1 a1.1) (hv hs) ?_
 refine nc hs ?_
 refine Av _ (Og w0 n _ _ _ a0.2 a1.2 55 [] (fun (x0:Int) (x1:Int)=>some (C7 x0 x1)) (fun x0 x1 r hx l rows' i j=>by cases hx;exact PC w0 _ _ _ x0 x1) _ hy3) (hv hs) ?_
 exact go (tg (a:=((),()))) h hs f d e b k (q1 (Md w0 n)) (q1 c)
def Ed (n:Nat) (g:Int × List Int) (b:Int × List Int):Option Bool :=
 (H6 n g b).bind fun h =>
 some (decide (h=0))
theorem KH (w0:World) (n:Nat) (B:Ao) (Rw:Ap) (L:Aq) (a0:Int × List Int) (a1:Int × List Int) (r:Bool) (h:Ed n a0 a1=some r) :
  ACalls Tryz.prog w0 14 [.agg (Ak a0.1::([.list (a0.2.map Ci) .none])),.agg (Ak a1.1::([.list (a1.2.map Ci) .none]))] ⟨B,Rw,L⟩ fun x st=>x = .val (.bool r)/\st=⟨B,Rw,L⟩:=by
 rw [Ed] at h
 refine hd [.tmp 4] Tryz.func14 Tryz.ntmps14 fun M0 W0 e c d b g f hs=>?_
 simp only [Ax]
 exact go (tg (a:=([2,3],[4],()))) h hs e c d b f (q1 (Rr w0 n)) trivial
def Dj (n:Nat) (g:Msg) (b:Msg):Option Bool :=
 (Ed n g.stamp b.stamp).bind fun h =>
 if h&&(decide (g.mass=b.mass)) then
  (Hh n g.origins b.origins).bind fun y =>
  if y then
   (DT n g.body b.body).bind fun q =>
   some (q)
  else
   AM
 else
  AM
theorem Jm (w0:World) (n:Nat) (B:Ao) (Rw:Ap) (L:Aq) (a0:Msg) (a1:Msg) (r:Bool) (h:Dj n a0 a1=some r) :
  ACalls Tryz.prog w0 44 [.agg (Qu a0),.agg (Qu a1)] ⟨B,Rw,L⟩ fun x st=>x = .val (.bool r)/\st=⟨B,Rw,L⟩:=by
 rw [Dj] at h
 refine hd [.tmp 4] Tryz.func44 Tryz.ntmps44 fun M0 W0 e c d b g f hs=>?_
 simp only [Ax]
 exact go (tg (a:=([2,3],(([4],()),((),())),((),())))) h hs e c d b f (q3 (KH w0 n) (Tu w0 n) (KB w0 n)) trivial
def Gp (n:Nat)  : Option Bool :=
 some (true)
def BG (n:Nat) (q:List Msg) (a1:List Msg) (a2:Msg->Msg->Option Bool):Nat->Int->Option Bool
 | 0,_=>none
 | m+1,b =>
  if decide (b<(q.length:Int)) then
   (Dw q b).bind fun g =>
   (Dw a1 b).bind fun h =>
   (a2 g h).bind fun y =>
   if !y then
    some (false)
   else
    if BN (b+1) then
     (BG n q a1 a2 m) (b+1)
    else none
  else
   Gp n 
def DF (n:Nat) (g:List Msg) (b:List Msg) (h:Msg->Msg->Option Bool):Option Bool :=
 if !(decide ((g.length:Int)=(b.length:Int))) then
  some (false)
 else
  BG n g b h n 0
theorem MF (w0:World) (n:Nat) (B:Ao) (Rw:Ap) (L:Aq) (a0:List Msg) (a1:List Msg) (fa2:FuncId) (ca2:List AV) (a2:Msg->Msg->Option Bool) (ha2:∀ (x0:Msg) (x1:Msg) r,a2 x0 x1=some r->∀ B' rows,B <+: B'->Rw <+: rows->ACalls Tryz.prog w0 fa2 ([.agg (Qu x0),.agg (Qu x1)]++ca2) ⟨B',rows,L⟩ fun v s=>v = .val (.bool r)/\s=⟨B',rows,L⟩) (r:Bool) (h:DF n a0 a1 a2=some r) :
  ACalls Tryz.prog w0 72 [.list (a0.map Dn) .none,.list (a1.map Dn) .none,.clo fa2 ca2] ⟨B,Rw,L⟩ fun x st=>x = .val (.bool r)/\st=⟨B,Rw,L⟩:=by
 rw [DF] at h
 refine hd [.tmp 6] Tryz.func72 Tryz.ntmps72 fun M0 W0 k g i c o f hs=>?_
 simp only [Ax]
 have d:=Cc (o (.clo fa2 ca2) (by simp))
 refine rg [0,1,2] hs ?_
 apply Am;intro K2 j
 refine rg [0,1,2,14] hs ?_
 refine B6 h hs ?_ ?_<;>intro hs h
 ·refine rg [6] hs ?_
  exact rt h hs c f
 refine sk [0,1,2] hs j ?_
 clear j
 refine AD (fun e st=>Ck e st B Rw L [] [] [] (Gp n  = some r)) ?_ ?_
 ·intro K8 l
  refine rg [1,2,15,16,17] hs ?_
  apply Ar
  refine AA (fun m e st=>∃ (b:Int),Ck e st B Rw L [(1,true,.list (a1.map Dn) .none),(2,true,.clo fa2 ca2),(15,true,.list (a0.map Dn) .none),(16,true,Ak (a0.length:Int)),(17,true,Ak b)] [] [] (BG n a0 a1 a2 m b=some r)) n ⟨0,([]),Rw,ef hs,ef hs,f,h⟩ ?_
  rintro ml10 e st ⟨b,Xl10,Rl10,rfl,rfl,f,h⟩ Ul10 Vl10
  cases ml10 with
  | zero=>cases h
  | succ ml10 =>
  rw [BG] at h
  refine AO k g i rfl c f (H8 d f) (H8 d f) ?_
  exact go (tg (a:=([1,2,15,16,17,18],([1,2,15,16,17],[1,2,7,8,15,16,17],[1,2,8,9,15,16,17],[1,2,15,16,17,30],([6],()),[1,2,15,16,17],[1,2,15,16,17],()),[],()))) h hs k g i c f (q1 ha2) (q2 l (fun e s=>Vl10 ml10 e s (Nat.lt_succ_self _)))
 ·clear h;rintro e st ⟨Xk7,Rk7,rfl,rfl,f,h⟩
  rw [Gp] at h
  refine AO k g i rfl c f (H8 d f) (H8 d f) ?_
  refine rg [6] hs ?_
  exact rt h hs c f
def Dy (n:Nat) (g:Slt) (b:Slt):Option Bool :=
 (DT n g.key b.key).bind fun y =>
 if (y&&(decide (g.number=b.number)))&&(decide (g.time=b.time)) then
  (DF n g.items b.items (fun (q:Msg) (h:Msg)=>Dj n q h)).bind fun y5 =>
  if y5 then
   (Ef n g.values b.values (fun (q:Vl) (h:Vl)=>DT n q h)).bind fun y7 =>
   some (y7)
  else
   AM
 else
  AM
theorem P9 (w0:World) (n:Nat) (B:Ao) (Rw:Ap) (L:Aq) (a0:Slt) (a1:Slt) (r:Bool) (h:Dy n a0 a1=some r) :
  ACalls Tryz.prog w0 42 [.agg (O4 a0),.agg (O4 a1)] ⟨B,Rw,L⟩ fun x st=>x = .val (.bool r)/\st=⟨B,Rw,L⟩:=by
 rw [Dy] at h
 refine hd [.tmp 4] Tryz.func42 Tryz.ntmps42 fun M0 W0 u s o c v m hs=>?_
 simp only [Ax]
 refine rg [2,3] hs ?_
 apply Am;intro K2 d
 obtain ⟨p,k,h⟩:=bind_some h
 rcases Bool.eq_false_or_eq_true ((p&&(decide (a0.number=a1.number)))&&(decide (a0.time=a1.time))) with hf4 | hf4
 ·replace h:=Cj h hf4
  obtain ⟨q,g,h⟩:=bind_some h
  rcases Bool.eq_false_or_eq_true (q) with hf6 | hf6
  ·replace h:=Cj h hf6
   obtain ⟨t,i,h⟩:=bind_some h
   have hs:=Ad hf4 hs
   have hs:=Ad hf6 hs
   refine rk 4 [4] (al hs) ?_
   refine Av _ (KB w0 n _ _ _ a0.key a1.key _ k) (hv (al hs)) ?_
   refine nc (al hs) ?_
   refine Av _ (MF w0 n _ _ _ a0.items a1.items 44 [] (fun (b:Msg) (a:Msg)=>Dj n b a) (fun b a r f l rows' j e=>by exact Jm w0 n _ _ _ b a _ f) _ g) (hv (al hs)) ?_
   refine nc (al hs) ?_
   refine Av _ (Oa w0 n _ _ _ a0.values a1.values 43 [] (fun (b:Vl) (a:Vl)=>DT n b a) (fun b a r f l rows' j e=>by exact KB w0 n _ _ _ b a _ f) _ i) (hv (al hs)) ?_
   refine ne (al hs) d ?_
   clear d
   exact rt h hs c m
  ·replace h:=Cm h hf6
   exact nS h
 ·replace h:=Cm h hf4
  exact nS h
def HZ (n:Nat) (g:Stt) (b:Stt):Option Bool :=
 if (decide (g.number=b.number))&&(decide (g.time=b.time)) then
  (EG n g.slots b.slots (fun (y:Slt) (h:Slt)=>Dy n y h)).bind fun q =>
  some (q)
 else
  AM
theorem Uh (w0:World) (n:Nat) (B:Ao) (Rw:Ap) (L:Aq) (a0:Stt) (a1:Stt) (r:Bool) (h:HZ n a0 a1=some r) :
  ACalls Tryz.prog w0 20 [.agg (Dx a0),.agg (Dx a1)] ⟨B,Rw,L⟩ fun x st=>x = .val (.bool r)/\st=⟨B,Rw,L⟩:=by
 rw [HZ] at h
 refine hd [.tmp 4] Tryz.func20 Tryz.ntmps20 fun M0 W0 m k l a p j hs=>?_
 simp only [Ax]
 refine rg [2,3] hs ?_
 apply Am;intro K2 b
 rcases Bool.eq_false_or_eq_true ((decide (a0.number=a1.number))&&(decide (a0.time=a1.time))) with hf3 | hf3
 ·replace h:=Cj h hf3
  obtain ⟨q,d,h⟩:=bind_some h
  have hs:=Ad hf3 hs
  refine rk 2 [4] hs ?_
  refine Av _ (OL w0 n _ _ _ a0.slots a1.slots 42 [] (fun (e:Slt) (c:Slt)=>Dy n e c) (fun e c r i o rows' f g=>by exact P9 w0 n _ _ _ e c _ i) _ d) (hv hs) ?_
  refine ne hs b ?_
  clear b
  exact rt h hs a j
 ·replace h:=Cm h hf3
  exact nS h
theorem Zcy (n:Nat) (a b:List Int) (f:Int->Int->Option Int) (hl:a.length<=1000000000)
  (hr:∀ p q,∃ c,f p q=some c/\(c=0<->p=q)):∀ (k m i:Nat),i+k=a.length->k<m->∃ c,BL n a b f m i=some c/\(c=0<->a.drop i=b.drop i)
 | k,0,i,_,h=>absurd h (Nat.not_lt_zero _)
 | 0,m+1,i,hi,_=>by
  rw [BL,A4,Ac]
  simp only [Bool.false_eq_true,if_false]
  rw [EY,A4,List.drop_eq_nil_of_le (show a.length<=i by omega)]
  by_cases h:a.length<b.length
  ·rw [Ag h]
   simp only [if_true]
   exact ⟨-1,rfl,⟨fun h=>absurd h (by decide),fun e=>by have:=List.drop_eq_nil_iff.1 e.symm;omega⟩⟩
  ·rw [Af h]
   simp only [Bool.false_eq_true,if_false]
   exact ⟨0,rfl,⟨fun _=>(List.drop_eq_nil_of_le (by omega)).symm,fun _=>rfl⟩⟩
 | k+1,m+1,i,hi,hm=>by
  have g:i<a.length:=by omega
  rw [BL,A4,Ag g]
  simp only [if_true,Bj g,Ae,ZM]
  by_cases d:i<b.length
  ·rw [Af (show ¬ b.length<=i by omega)]
   simp only [Bool.false_eq_true,if_false,Bj d,Ae]
   obtain ⟨c,e,j⟩:=hr a[i] b[i]
   rw [e,OX _ _ i g d]
   simp only [Ae]
   by_cases h0:c=0
   ·rw [Ag h0]
    simp only [Bool.not_true,Bool.false_eq_true,if_false]
    rw [Ah (A8 (by omega))]
    obtain ⟨l,o,d⟩:=Zcy n a b f hl hr k m (i+1) (by omega) (by omega)
    exact ⟨l,o,d.trans ⟨fun h=>⟨j.1 h0,h⟩,fun h=>h.2⟩⟩
   ·rw [Af h0]
    simp only [Bool.not_false,if_true]
    exact ⟨c,rfl,⟨fun h=>absurd h h0,fun h=>absurd (j.2 h.1) h0⟩⟩
  ·rw [Ag (show b.length<=i by omega)]
   simp only [if_true]
   refine ⟨1,rfl,⟨fun h=>absurd h (by decide),fun e=>?_⟩⟩
   rw [List.drop_eq_nil_of_le (show b.length<=i by omega)] at e
   have:=List.drop_eq_nil_iff.1 e
   omega
theorem Xg (n:Nat) (hn:10000<=n) (a b:Int × List Int) (ha:a.2.length<=1000):Ed n a b=some (decide (a=b)):=by
 obtain ⟨c,e,h⟩:=Zcy n a.2 b.2 (fun (x0:Int) (x1:Int)=>some (C7 x0 x1)) (by omega) (fun p q=>⟨_,rfl,by rw [C7];exact Sr p q⟩) a.2.length n 0 (by omega) (by omega)
 have e:BL n a.2 b.2 (fun (x0:Int) (x1:Int)=>some (C7 x0 x1)) n 0=some c:=e
 rw [List.drop_zero,List.drop_zero] at h
 obtain ⟨d,g,f⟩:=ZdQ n [if a.1<b.1 then -1 else if a.1=b.1 then 0 else 1,c] (by simp only [List.length_cons,List.length_nil];omega) (by simp only [List.length_cons,List.length_nil];omega)
 rw [Ed,H6,FC,e,Ae,g,Ae,Ae]
 congr 1
 rw [decide_eq_decide,f]
 simp only [List.mem_cons,List.not_mem_nil,or_false,forall_eq_or_imp,forall_eq,Sr,h]
 exact ⟨fun q=>Prod.ext q.1 q.2,fun q=>by rw [q];exact ⟨rfl,rfl⟩⟩
theorem Zaa (n:Nat) (a:List Int) (hl:a.length<=1000):∀ (k m i:Nat),i+k=a.length->k<m->D5 n a a m i=some true
 | k,0,i,_,h=>absurd h (Nat.not_lt_zero _)
 | 0,m+1,i,hi,_=>by rw [D5,A4,Ac];rfl
 | k+1,m+1,i,hi,hm=>by
  have b:i<a.length:=by omega
  rw [D5,A4,Ag b,Ah rfl,Bj b,Ae,Ae,Ag rfl,Ai (by decide),Ah (A8 (by omega))]
  exact Zaa n a hl k m (i+1) (by omega) (by omega)
theorem Zed (n:Nat) (hn:10000<=n) (a:List Int) (hl:a.length<=1000):Hh n a a=some true:=by
 rw [Hh,Ag rfl,Ai (by decide)]
 exact Zaa n a hl a.length n 0 (by omega) (by omega)
theorem Rk (n:Nat) (hn:100000<=n) (v:Vl) (h:v.size<=1000):DT n v v=some true:=by
 obtain ⟨c,e,q⟩:=Zby n v v (by omega) (by omega)
 rw [e,q.2 rfl]
theorem Qs (n:Nat) (hn:100000<=n) (m:Msg) (h:SY m):Dj n m m=some true:=by
 rw [Dj,Xg n (by omega) _ _ (by have:=h.1;omega),Ae,Ag rfl,Ag rfl,Bool.and_self,Ah rfl,Zed n (by omega) _ (by have:=h.2.1;omega),Ae,Ah rfl,Rk n hn _ h.2.2]
 rfl
theorem Zah (n:Nat) (a:List Vl) (f:Vl->Vl->Option Bool) (hf:∀ x∈a,f x x=some true) (hl:a.length<=1000):∀ (k m i:Nat),i+k=a.length->k<m->BZ n a a f m i=some true
 | k,0,i,_,h=>absurd h (Nat.not_lt_zero _)
 | 0,m+1,i,hi,_=>by rw [BZ,A4,Ac];rfl
 | k+1,m+1,i,hi,hm=>by
  have b:i<a.length:=by omega
  rw [BZ,A4,Ag b,Ah rfl,Bj b,Ae,Ae,hf _ (List.getElem_mem b),Ae,Ai (by decide),Ah (A8 (by omega))]
  exact Zah n a f hf hl k m (i+1) (by omega) (by omega)
theorem Zao (n:Nat) (a:List Msg) (f:Msg->Msg->Option Bool) (hf:∀ x∈a,f x x=some true) (hl:a.length<=1000):∀ (k m i:Nat),i+k=a.length->k<m->BG n a a f m i=some true
 | k,0,i,_,h=>absurd h (Nat.not_lt_zero _)
 | 0,m+1,i,hi,_=>by rw [BG,A4,Ac];rfl
 | k+1,m+1,i,hi,hm=>by
  have b:i<a.length:=by omega
  rw [BG,A4,Ag b,Ah rfl,Bj b,Ae,Ae,hf _ (List.getElem_mem b),Ae,Ai (by decide),Ah (A8 (by omega))]
  exact Zao n a f hf hl k m (i+1) (by omega) (by omega)
theorem Zau (n:Nat) (a:List Slt) (f:Slt->Slt->Option Bool) (hf:∀ x∈a,f x x=some true) (hl:a.length<=1000):∀ (k m i:Nat),i+k=a.length->k<m->Cb n a a f m i=some true
 | k,0,i,_,h=>absurd h (Nat.not_lt_zero _)
 | 0,m+1,i,hi,_=>by rw [Cb,A4,Ac];rfl
 | k+1,m+1,i,hi,hm=>by
  have b:i<a.length:=by omega
  rw [Cb,A4,Ag b,Ah rfl,Bj b,Ae,Ae,hf _ (List.getElem_mem b),Ae,Ai (by decide),Ah (A8 (by omega))]
  exact Zau n a f hf hl k m (i+1) (by omega) (by omega)
theorem X5 (n:Nat) (hn:100000<=n) (x:Slt) (h:Wc x):Dy n x x=some true:=by
 obtain ⟨f,⟨g,b⟩,i,c⟩:=h
 have e:DF n x.items x.items (fun (x0:Msg) (x1:Msg)=>Dj n x0 x1)=some true:=by
  rw [DF,Ag rfl,Ai (by decide)]
  exact Zao n _ _ (fun m a=>Qs n hn m (b m a)) (by omega) x.items.length n 0 (by omega) (by omega)
 have d:Ef n x.values x.values (fun (x0:Vl) (x1:Vl)=>DT n x0 x1)=some true:=by
  rw [Ef,Ag rfl,Ai (by decide)]
  exact Zah n _ _ (fun m a=>Rk n hn m (c m a)) (by omega) x.values.length n 0 (by omega) (by omega)
 rw [Dy,Rk n hn _ f,Ae,Ag rfl,Ag rfl,Bool.and_self,Bool.and_self,Ah rfl,e,Ae,Ah rfl,d]
 rfl
theorem WS (n:Nat) (hn:100000<=n) (s:Stt) (h:T8 s):HZ n s s=some true:=by
 have c:=h.1
 have a:EG n s.slots s.slots (fun (x0:Slt) (x1:Slt)=>Dy n x0 x1)=some true:=by
  rw [EG,Ag rfl,Ai (by decide)]
  exact Zau n _ _ (fun m b=>X5 n hn m (h.2 m b)) (by omega) s.slots.length n 0 (by omega) (by omega)
 rw [HZ,Ag rfl,Ag rfl,Bool.and_self,Ah rfl,a]
 rfl
theorem Zix (n:Nat) (hn:1000<=n) (a b:Int):DT n (iV a) (iV b)=some (decide (a=b)):=by
 rw [DT,Zc n hn,Ae]
 congr 1
 by_cases h:a=b
 ·subst h;simp
 ·by_cases h2:a<b<;>simp [h,h2]
def D7 (b:Nod):Bool :=
 (decide ((b.calls.length:Int)=0))||(decide ((b.types.length:Int)<2))
theorem Qw (w0:World) (B:Ao) (Rw:Ap) (L:Aq) (a0:Nod) (r:Bool) (h:D7 a0=r) :
  ACalls Tryz.prog w0 76 [.agg (PD a0)] ⟨B,Rw,L⟩ fun x st=>x = .val (.bool r)/\st=⟨B,Rw,L⟩:=by
 rw [D7] at h
 refine hd [.tmp 2] Tryz.func76 Tryz.ntmps76 fun M0 W0 e c d a f b hs=>?_
 simp only [Ax]
 refine rg [1] hs ?_
 refine rg [2] hs ?_
 exact rT h hs a b
theorem Ii (w0:World) (B:Ao) (Rw:Ap) (L:Aq) (a0:Nod) :
  ACalls Tryz.prog w0 76 [.agg (PD a0)] ⟨B,Rw,L⟩ fun x st=>x = .val (.bool (D7 a0))/\st=⟨B,Rw,L⟩:=Qw w0 B Rw L a0 _ rfl
def Ir (n:Nat) (b:Stt) (a2:Inp) (q:ByteArray × List (ByteArray × Ex)) (y:(Vl × Int)) (b7_k50_7:Int):Option Otc :=
 (Gt n b (Slt.mk ((AB (b.number+1))) 0 b7_k50_7 ([a2.message]) ([]))).bind fun g =>
 if BN (b.number+1) then
  (BM a2.stamp 0).bind fun h =>
  if BN (b.number+1) then
   if (0+1)*152<=140737488355328/\0+1<=4611686018427387904 then
    some (Otc.mk (Stt.mk (b.number+1) g.1.time g.1.slots) ([]) ([Rqs.mk h q.1 (b.number+1) false y.1]) ([]) ([]))
   else none
  else none
 else none
def MH (n:Nat) (g:Nod) (b:Stt) (q:Inp):Option Otc :=
 if D7 g then
  (CN 4).bind fun y8 =>
  (GE n b ([]) ([]) g q.message y8).bind fun y11 =>
  some (Otc.mk b ([]) ([]) y11.1 y11.2)
 else
  if ((decide (g.limit<=(b.slots.length:Int)))||(decide (256<=(b.slots.length:Int))))||(decide (1099511627776<=b.number)) then
   (GE n b ([]) ([]) g q.message ((⟨#[102,117,108,108]⟩:ByteArray))).bind fun y23 =>
   some (Otc.mk b ([]) ([]) y23.1 y23.2)
  else
   (Dw g.calls 0).bind fun y =>
   (FQ n q.message.body).bind fun y31 =>
   (Dw g.types 0).bind fun x32 =>
   (BO n y.2 y31 x32).bind fun h =>
   if !(decide (h.2=0)) then
    (CN h.2).bind fun y38 =>
    (GE n b ([]) ([]) g q.message y38).bind fun y41 =>
    some (Otc.mk b ([]) ([]) y41.1 y41.2)
   else
    if BN (b.number+1) then
     if decide (0<g.time) then
      if BN (q.time+g.time) then
       Ir n b q y h ((if 17592186044416<q.time+g.time then 17592186044416 else q.time+g.time))
      else none
     else
      Ir n b q y h 0
    else none
theorem Y2 (w0:World) (hE:QU w0) (hM:Qx w0) (hP:Pow10 w0) (hT:Lib.Utf8Tabs 1 2 w0) (n:Nat) (B:Ao) (Rw:Ap) (L:Aq) (a0:Nod) (a1:Stt) (a2:Inp) (r:Otc) (h:MH n a0 a1 a2=some r) :
  ACalls Tryz.prog w0 45 [.agg (PD a0),.agg (Dx a1),.agg (Vw a2)] ⟨B,Rw,L⟩ fun x st=>x = .agg (TE r)/\st=⟨B,Rw,L⟩:=by
 rw [MH] at h
 refine hd [.cell 6 62] Tryz.func45 Tryz.ntmps45 fun M0 W0 hN Q O o hu l hs=>?_
 simp only [Ax]
 refine rg [3,4,5,6] hs ?_
 refine rg [3,4,5,6,7] hs ?_
 refine rg [3,4,5,6,7,8] hs ?_
 apply Am;intro K4 ad
 refine rc 2 [3,4,5,6,7,8,17] hs ?_;intro K5 Z
 refine Av _ (Ii w0 _ _ _ a0) (hv hs) ?_
 refine ne hs Z ?_
 clear Z
 refine B6 h hs ?_ ?_<;>intro hs h
 ·have j:=hs.1
  apply Am;intro K7 ae
  obtain ⟨y8,am,h⟩:=bind_some h
  have l:=l.full 10 0
  have l:=l.full 6 0
  obtain ⟨ba,U,h⟩:=bind_some h
  apply JF G6 [3] [6,7] kr (fun s=>∃ (X:Ao) (rows:Ap) (c4:List AV),s=⟨B++([PD a0,Dx a1,Vw a2,[Ak 0,Ak 0,.list ([]) .full,.list ([]) .full,.list ([]) .full,.list ([]) .full,.list ([]) .full],c4,Qu a2.message]++X),rows,L⟩) 2 (B.length+6)
  ·simp +decide only [go_sem,Nat.reduceAdd]
  ·rintro s ⟨X,rows,c4,rfl⟩
   refine ⟨2,?_⟩
   rw [An];simp +decide only [go_sem,Nat.reduceAdd,Bh,j]
   (repeat' apply Ad)<;>first | refine Av _ (Es w0 _ _ _ 4 _ am) (hv hs) ?_ | exact cl
   rw [An];simp +decide only [go_sem,Nat.reduceAdd,j]
   (repeat' apply Ad)<;>first | rfl | exact cl
  ·refine Good.mk [3] kr ⟨[],_,_,by first | rfl | simp only [List.append_nil,List.nil_append]⟩ ?_ ?_
   ·intro h;exact absurd h (by decide)
   ·intro i hi;simp only [List.mem_cons,List.not_mem_nil,or_false] at hi
    subst hi
    ·apply Ib rfl rfl ev rfl
     ·simp +decide only [go_sem,Nat.reduceAdd,j]
     ·simp +decide only [go_sem,Nat.reduceAdd,j]
     ·simp +decide only [go_sem,Nat.reduceAdd,j]
      exact (Ls w0 n _ _ _ (B.length+4) a1 (.list ([]) .full) (.list ([]) .full) ([]) ([]) .full .full (ef hs) l.enter2a l.enter2b l.apart2 a0 a2.message y8 _ U).pub (hv hs)
     ·rintro _ _ ⟨rfl,Rg12,Rh13,a3,ay,rfl,t,w⟩
      have l:=l.call2 t w
      simp +decide only [go_sem,Nat.reduceAdd,j]
      refine Good.mk [] kr ⟨[],_,_,by first | rfl | simp only [List.append_nil,List.nil_append]⟩ ?_ ?_
      ·intro _;refine ⟨_,_,EB [6,7] (by first | (simp +decide only [go_sem,Nat.reduceAdd,j];done) | (simp +decide only [go_sem,Nat.reduceAdd,j];rfl)),?_⟩
       simp +decide only [go_sem,Nat.reduceAdd,j]
       (repeat' apply Ad)<;>first | refine ae _ _ ?_ | exact cl
       clear ae
       refine rg [6] hs ?_
       exact rt h hs o l
      ·intro i hi;cases hi
 have j:=hs.1
 refine sk [3,4,5,6,7,8] hs ad ?_
 clear ad
 apply Am;intro K17 F
 refine rg [3,4,5,6,7,8,39] hs ?_
 refine B6 h hs ?_ ?_<;>intro hs h
 ·have g:=hs.1
  have l:=l.full 10 0
  have l:=l.full 6 0
  obtain ⟨bc,ab,h⟩:=bind_some h
  refine rc 2 [6,7] hs ?_;intro K20 H
  refine BE _ (Ls w0 n _ _ _ (B.length+4) a1 (.list ([]) .full) (.list ([]) .full) ([]) ([]) .full .full (ef hs) l.enter2a l.enter2b l.apart2 a0 a2.message ((⟨#[102,117,108,108]⟩:ByteArray)) _ ab) (hv hs) ?_;rintro _ _ ⟨rfl,Rg24,Rh25,a7,a4,rfl,C,v⟩
  have l:=l.call2 C v
  refine ne hs H ?_
  clear H
  refine rg [6] hs ?_
  exact rt h hs o l
 have g:=hs.1
 refine sk [3,4,5,6,7,8] hs F ?_
 clear F
 apply Am;intro K29 G
 obtain ⟨V,ap,av,b,h⟩:=ix Ob h
 have f:(a0.calls.map Ob).getD 0 .junk=_:=b
 obtain ⟨ar,af,h⟩:=bind_some h
 obtain ⟨ao,au,aq,c,h⟩:=ix Rm h
 have d:(a0.types.map Rm).getD 0 .junk=_:=c
 obtain ⟨q,ai,h⟩:=bind_some h
 apply D9 G6 [16,17] [3,4,5,6,7,8,9,10] kr (fun s=>∃ (X:Ao) (rows:Ap),s=⟨B++([PD a0,Dx a1,Vw a2,[Ak 0,Ak 0,.list ([]) .full,.list ([]) .full,.list ([]) .full,.list ([]) .full,.list ([]) .full],Nb a1 (.list ([]) .full) (.list ([]) .full) (.list ([]) .full) (.list ([]) .full),Qu a2.message]++X),rows,L⟩) 3 (B.length+6)
 ·simp +decide only [go_sem,Nat.reduceAdd]
 ·rintro s ⟨X,rows,rfl⟩
  refine ⟨3,?_⟩
  rw [An];simp +decide only [go_sem,Nat.reduceAdd,Bh,j,g,b,f,c,d]
  have hs:=Ad b hs
  have hs:=Ad f hs
  have hs:=Ad c hs
  have hs:=Ad d hs
  (repeat' apply Ad)<;>first | refine Av _ (OD w0 n _ _ _ a2.message.body _ af) (hv hs) ?_ | exact cl
  rw [An];simp +decide only [go_sem,Nat.reduceAdd,j,g,b,f,c,d]
  (repeat' apply Ad)<;>first | refine Av _ (HG w0 hE hM hP hT n _ _ _ V.2 ar ao _ ai) (hv hs) ?_ | exact cl
  rw [An];simp +decide only [go_sem,Nat.reduceAdd,j,g,b,f,c,d]
  (repeat' apply Ad)<;>first | rfl | exact cl
 ·exact gd (tg (a:=(16,17,[3,4,5,6,7,8,9,10]))) (Ad d (Ad c (Ad f (Ad b hs))))
 simp +decide only [go_sem,Nat.reduceAdd,j,g,b,f,c,d]
 (repeat' apply Ad)<;>first | refine G _ _ ?_ | exact cl
 clear G
 apply Am;intro K34 E
 have hs:=Ad b hs
 have hs:=Ad f hs
 have hs:=Ad c hs
 have hs:=Ad d hs
 refine rg [3,4,5,6,7,8,9,10,61] hs ?_
 refine B6 h hs ?_ ?_<;>intro hs h
 ·have k:=hs.1
  apply Am;intro K37 J
  obtain ⟨ak,ah,h⟩:=bind_some h
  have l:=l.full 10 0
  have l:=l.full 6 0
  obtain ⟨a9,ag,h⟩:=bind_some h
  apply JF G6 [4] [6,7] kr (fun s=>∃ (X:Ao) (rows:Ap) (c4:List AV),s=⟨B++([PD a0,Dx a1,Vw a2,[Ak 0,Ak 0,.list ([]) .full,.list ([]) .full,.list ([]) .full,.list ([]) .full,.list ([]) .full],c4,Qu a2.message,q.1.cs]++X),rows,L⟩) 2 (B.length+7)
  ·simp +decide only [go_sem,Nat.reduceAdd]
  ·rintro s ⟨X,rows,c4,rfl⟩
   refine ⟨2,?_⟩
   rw [An];simp +decide only [go_sem,Nat.reduceAdd,Bh,j,g,b,f,c,d,k]
   (repeat' apply Ad)<;>first | refine Av _ (Es w0 _ _ _ q.2 _ ah) (hv hs) ?_ | exact cl
   rw [An];simp +decide only [go_sem,Nat.reduceAdd,j,g,b,f,c,d,k]
   (repeat' apply Ad)<;>first | rfl | exact cl
  ·refine Good.mk [4] kr ⟨[],_,_,by first | rfl | simp only [List.append_nil,List.nil_append]⟩ ?_ ?_
   ·intro h;exact absurd h (by decide)
   ·intro i hi;simp only [List.mem_cons,List.not_mem_nil,or_false] at hi
    subst hi
    ·apply Ib rfl rfl ev rfl
     ·simp +decide only [go_sem,Nat.reduceAdd,j,g,b,f,c,d,k]
     ·simp +decide only [go_sem,Nat.reduceAdd,j,g,b,f,c,d,k]
     ·simp +decide only [go_sem,Nat.reduceAdd,j,g,b,f,c,d,k]
      exact (Ls w0 n _ _ _ (B.length+4) a1 (.list ([]) .full) (.list ([]) .full) ([]) ([]) .full .full (ef hs) l.enter2a l.enter2b l.apart2 a0 a2.message ak _ ag).pub (hv hs)
     ·rintro _ _ ⟨rfl,Rg42,Rh43,aw,a5,rfl,z,u⟩
      have l:=l.call2 z u
      simp +decide only [go_sem,Nat.reduceAdd,j,g,b,f,c,d,k]
      refine Good.mk [] kr ⟨[],_,_,by first | rfl | simp only [List.append_nil,List.nil_append]⟩ ?_ ?_
      ·intro _;refine ⟨_,_,EB [6,7] (by first | (simp +decide only [go_sem,Nat.reduceAdd,j,g,b,f,c,d,k];done) | (simp +decide only [go_sem,Nat.reduceAdd,j,g,b,f,c,d,k];rfl)),?_⟩
       simp +decide only [go_sem,Nat.reduceAdd,j,g,b,f,c,d,k]
       (repeat' apply Ad)<;>first | refine J _ _ ?_ | exact cl
       clear J
       refine rg [6] hs ?_
       exact rt h hs o l
      ·intro i hi;cases hi
 have k:=hs.1
 refine sk [3,4,5,6,7,8,9] hs E ?_
 clear E
 apply Am;intro K47 D
 obtain ⟨a8,h⟩:=Au h
 apply D9 G6 [7,8] [3,4,5,6,7,9,11] kr (fun s=>∃ (X:Ao) (rows:Ap),s=⟨B++([PD a0,Dx a1,Vw a2,[Ak 0,Ak 0,.list ([]) .full,.list ([]) .full,.list ([]) .full,.list ([]) .full,.list ([]) .full],Nb a1 (.list ([]) .full) (.list ([]) .full) (.list ([]) .full) (.list ([]) .full),Qu a2.message,q.1.cs]++X),rows,L⟩) 3 (B.length+7)
 ·simp +decide only [go_sem,Nat.reduceAdd]
 ·rintro s ⟨X,rows,rfl⟩
  refine ⟨2,?_⟩
  rw [An];simp +decide only [go_sem,Nat.reduceAdd,Bh,j,g,b,f,c,d,k,Vl.cs_eqs (AB (a1.number+1))]
  have hs:=Ad (Vl.cs_eqs (AB (a1.number+1))) hs
  (repeat' apply Ad)<;>first | refine Av _ (Im w0 _ _ _ (a1.number+1)) (hv hs) ?_ | exact cl
  rw [An];simp +decide only [go_sem,Nat.reduceAdd,j,g,b,f,c,d,k,Vl.cs_eqs (AB (a1.number+1))]
  (repeat' apply Ad)<;>first | rfl | exact cl
 ·exact gd (tg (a:=(7,8,[3,4,5,6,7,9,11]))) (Ad (Vl.cs_eqs (AB (a1.number+1))) (Ad d (Ad c (Ad f (Ad b hs)))))
 simp +decide only [go_sem,Nat.reduceAdd,j,g,b,f,c,d,k,Vl.cs_eqs (AB (a1.number+1))]
 (repeat' apply Ad)<;>first | refine D _ _ ?_ | exact cl
 clear D
 refine AD (fun e st=>∃ (m:Int),Ck e st B Rw L [(3,true,.box B.length 0),(4,true,.box (B.length+1) 0),(5,true,.box (B.length+2) 0),(6,true,.box (B.length+3) 0),(7,true,.box (B.length+4) 0),(9,true,.box (B.length+6) 0),(11,true,.box (B.length+7) 0)] [PD a0,Dx a1,Vw a2,[Ak 0,Ak 0,.list ([]) .full,.list ([]) .full,.list ([]) .full,.list ([]) .full,.list ([]) .full],Nb a1 (.list ([]) .full) (.list ([]) .full) (.list ([]) .full) (.list ([]) .full),Qu a2.message,q.1.cs,[Ak ((AB (a1.number+1)).kind),Ak ((AB (a1.number+1)).int),Ak ((AB (a1.number+1)).scale),.val (.string ((AB (a1.number+1)).text)),.list (((AB (a1.number+1)).list).map En) .none,.list (((AB (a1.number+1)).fields).map Di) .none,Ak 0,Ak m,.list (([a2.message]).map Dn) .full,.list ([]) .full]] [] (Ir n a1 a2 V q m=some r)) ?_ ?_
 ·intro K51 Y
  have hs:=Ad (Vl.cs_eqs (AB (a1.number+1))) hs
  exact go (tg (a:=([3,4,5,6,7,9,11,77],([3,4,5,6,7,9,11],()),[3,4,5,6,7,9,11],()))) h hs hN Q O o l trivial (q1 Y)
 ·clear h;rintro e st ⟨m,Xk50,Rk50,rfl,rfl,l,h⟩
  rw [Ir] at h
  refine Go.Ev.td hN Q O o l ?_
  obtain ⟨be,aa,h⟩:=bind_some h
  have hs:=Ad (Vl.cs_eqs (AB (a1.number+1))) hs
  refine rc 2 [3,4,5,6,7,9] hs ?_;intro K55 N
  refine Av _ (QL w0 n _ _ _ a1 (Slt.mk ((AB (a1.number+1))) 0 m ([a2.message]) ([])) _ aa) (hv hs) ?_
  refine ne hs N ?_
  clear N
  obtain ⟨ax,h⟩:=Au h
  refine rg [3,4,5,6,7,9] hs ?_
  obtain ⟨bb,az,h⟩:=bind_some h
  obtain ⟨a6,h⟩:=Au h
  obtain ⟨K,h⟩:=Au h
  have l:=l.full 11 0
  obtain ⟨bd,aj,l,p⟩:=l.append (P:=Tryz.prog) ZiT (by rw [ZcD];rfl) (by decide) 1 K.1 K.2
  simp only [Nat.zero_add] at l
  replace p:=fun (ys:List AV) B L o2=>p ([]) ys B L o2 Fh
  replace p:=fun (y:AV) B L o2=>p [y] B L o2 Fh (by simp +decide only [go_sem,Nat.reduceAdd])
  try simp only [List.mem_singleton,List.mem_cons,List.not_mem_nil,or_false,forall_eq_or_imp,forall_eq,List.map_append,List.map_cons,List.map_nil,Fe,E6,E9,E8,Fb,EP,D2,D4,E3,CJ,CL,D1,DX,DZ,Fa,DW,E5] at p
  have hs:=Ad (Vl.cs_eqs q.1) hs
  exact go (tg (a:=([16,6,7],[6],()))) h (Ad p hs) hN Q O o l (q1 (HL w0)) trivial
def GU (b:Stt) (g:Int):Option Stt :=
 if 0<=0/\0<=g/\g<=(b.slots.length:Int) then
  if (0+(b.slots.take g.toNat).length)*152<=140737488355328/\0+(b.slots.take g.toNat).length<=4611686018427387904 then
   if BN (g+1) then
    if 0<=g+1/\g+1<=(b.slots.length:Int)/\(b.slots.length:Int)<=(b.slots.length:Int) then
     if ((b.slots.take g.toNat).length+(b.slots.drop (g+1).toNat).length)*152<=140737488355328/\(b.slots.take g.toNat).length+(b.slots.drop (g+1).toNat).length<=4611686018427387904 then
      some (Stt.mk b.number b.time ((b.slots.take g.toNat)++(b.slots.drop (g+1).toNat)))
     else none
    else none
   else none
  else none
 else none
theorem OC (w0:World) (B:Ao) (Rw:Ap) (L:Aq) (a0:Stt) (a1:Int) (r:Stt) (h:GU a0 a1=some r) :
  ACalls Tryz.prog w0 47 [.agg (Dx a0),Ak a1] ⟨B,Rw,L⟩ fun x st=>x = .agg (Dx r)/\st=⟨B,Rw,L⟩:=by
 rw [GU] at h
 refine hd [.cell 4 56] Tryz.func47 Tryz.ntmps47 fun M0 W0 v t p f w d hs=>?_
 simp only [Ax]
 refine rg [1,2,4] hs ?_
 refine rg [1,2,4,5] hs ?_
 apply Am;intro K3 i
 obtain ⟨q,h⟩:=Au h
 obtain ⟨g,h⟩:=Au h
 have d:=d.full 10 0
 obtain ⟨u,k,d,c⟩:=d.append (P:=Tryz.prog) RY (by rw [MS];rfl) (by decide) ((a0.slots.take a1.toNat).length) g.1 g.2
 simp only [Nat.zero_add] at d
 replace c:=fun (ys:List AV) B L o2=>c ([]) ys B L o2 Fh
 replace c:=fun B L o2=>c ((a0.slots.take a1.toNat).map AZ) B L o2 Fh ev
 try simp only [List.mem_singleton,List.mem_cons,List.not_mem_nil,or_false,forall_eq_or_imp,forall_eq,List.map_append,List.map_cons,List.map_nil,Fe,E6,E9,E8,Fb,EP,D2,D4,E3,CJ,CL,D1,DX,DZ,Fa,DW,E5] at c
 obtain ⟨n,h⟩:=Au h
 obtain ⟨l,h⟩:=Au h
 obtain ⟨e,h⟩:=Au h
 obtain ⟨o,j,d,b⟩:=d.append (P:=Tryz.prog) RY (by rw [MS];rfl) (by decide) ((a0.slots.drop (a1+1).toNat).length) e.1 e.2
 replace b:=fun (ys:List AV) B L o2=>b ((a0.slots.take a1.toNat).map AZ) ys B L o2 Fh
 replace b:=fun B L o2=>b ((a0.slots.drop (a1+1).toNat).map AZ) B L o2 Fh ev
 try simp only [List.mem_singleton,List.mem_cons,List.not_mem_nil,or_false,forall_eq_or_imp,forall_eq,List.map_append,List.map_cons,List.map_nil,Fe,E6,E9,E8,Fb,EP,D2,D4,E3,CJ,CL,D1,DX,DZ,Fa,DW,E5] at b
 apply D9 G6 [5,11,13] [4,5] kr (fun s=>∃ (X:Ao) (rows:Ap) (m:List AV),s=⟨B++([Dx a0,[Ak 0,Ak 0,.list ([]) .full],m]++X),rows,L⟩) 4 (B.length+3)
 ·simp +decide only [go_sem,Nat.reduceAdd]
 ·rintro s ⟨X,rows,m,rfl⟩
  refine ⟨1,?_⟩
  rw [An];simp +decide only [go_sem,Nat.reduceAdd,Bh,c,b]
  (repeat' apply Ad)<;>first | rfl | exact cl
 ·exact gd (tg (a:=(5,11,13,[4,5]))) (Ad b (Ad c hs))
 simp +decide only [go_sem,Nat.reduceAdd,c,b]
 (repeat' apply Ad)<;>first | refine i _ _ ?_ | exact cl
 clear i
 have hs:=Ad c hs
 have hs:=Ad b hs
 refine rg [4] hs ?_
 exact rt h hs f d
def FY (n:Nat) (b:Int->Int->Option Otc) (g:Int) (h:Int):Option Otc :=
 if BN (g+1) then
  b h (g+1)
 else none
def GH (n:Nat) (q:Nod) (a1:Stt) (a2:Inp) (g:Int):Option Otc :=
 if a2.undo||(decide (g<0)) then
  some (Otc.mk a1 ([]) ([]) ([]) ([]))
 else
  (Dw a1.slots g).bind fun x27 =>
  (Dw x27.items 0).bind fun h =>
  (GU a1 g).bind fun b =>
  if !a2.done then
   (GE n b ([]) ([]) q h ((⟨#[114,101,102,117,115,101,100]⟩:ByteArray))).bind fun y37 =>
   some (Otc.mk b ([]) ([]) y37.1 y37.2)
  else
   if D7 q then
    (GE n b ([]) ([]) q h ((⟨#[116,121,112,101]⟩:ByteArray))).bind fun y50 =>
    some (Otc.mk b ([]) ([]) y50.1 y50.2)
   else
    (Dw q.types 1).bind fun x56 =>
    (Gz n x56 a2.body).bind fun y57 =>
    if !y57 then
     (GE n b ([]) ([]) q h ((⟨#[116,121,112,101]⟩:ByteArray))).bind fun y62 =>
     some (Otc.mk b ([]) ([]) y62.1 y62.2)
    else
     (FU n ([((⟨#[98,111,100,121]⟩:ByteArray),h.body),((⟨#[114,101,112,108,121]⟩:ByteArray),a2.body)])).bind fun y69 =>
     (BO n q.mapping y69 q.type).bind fun y =>
     if !(decide (y.2=0)) then
      (CN y.2).bind fun y76 =>
      (GE n b ([]) ([]) q h y76).bind fun y79 =>
      some (Otc.mk b ([]) ([]) y79.1 y79.2)
     else
      (BM a2.stamp 0).bind fun y86 =>
      (Gj n h y86).bind fun y88 =>
      (Dh n y88 y.1).bind fun y89 =>
      if (0+1)*160<=140737488355328/\0+1<=4611686018427387904 then
       (CC n h q.name ([y86])).bind fun y96 =>
       if (0+1)*96<=140737488355328/\0+1<=4611686018427387904 then
        some (Otc.mk b ([(0,y89)]) ([]) ([y96]) ([]))
       else none
      else none
def B2 (n:Nat) (a0:Nod) (h:Stt) (y:Inp):Nat->Int->Int->Option Otc
 | 0,_,_=>none
 | m+1,g,b =>
  if decide (b<(h.slots.length:Int)) then
   (Dw h.slots b).bind fun q =>
   (DT n q.key (AB y.call)).bind fun y17 =>
   if y17 then
    if decide ((q.items.length:Int)=1) then
     FY n (B2 n a0 h y m) b b
    else
     FY n (B2 n a0 h y m) b g
   else
    FY n (B2 n a0 h y m) b g
  else
   GH n a0 h y g
def Ju (n:Nat) (h:Nod) (g:Stt) (b:Inp):Option Otc :=
 B2 n h g b n ((-1)) 0
theorem W9 (w0:World) (hE:QU w0) (hM:Qx w0) (hP:Pow10 w0) (hT:Lib.Utf8Tabs 1 2 w0) (n:Nat) (B:Ao) (Rw:Ap) (L:Aq) (a0:Nod) (a1:Stt) (a2:Inp) (r:Otc) (h:Ju n a0 a1 a2=some r) :
  ACalls Tryz.prog w0 46 [.agg (PD a0),.agg (Dx a1),.agg (Vw a2)] ⟨B,Rw,L⟩ fun x st=>x = .agg (TE r)/\st=⟨B,Rw,L⟩:=by
 rw [Ju] at h
 refine hd [.cell 6 62] Tryz.func46 Tryz.ntmps46 fun M0 W0 hN E D g hu b hs=>?_
 simp only [Ax]
 refine rg [3,4,5,6] hs ?_
 refine rg [3,4,5,6,7] hs ?_
 refine rg [3,4,5,6,7,8] hs ?_
 refine AD (fun e st=>∃ (w:Int),Ck e st B Rw L [(3,true,.box B.length 0),(4,true,.box (B.length+1) 0),(5,true,.box (B.length+2) 0),(6,true,.box (B.length+3) 0),(7,true,.box (B.length+4) 0),(8,true,Ak w)] [PD a0,Dx a1,Vw a2,[Ak 0,Ak 0,.list ([]) .full,.list ([]) .full,.list ([]) .full,.list ([]) .full,.list ([]) .full],Nb a1 (.list ([]) .full) (.list ([]) .full) (.list ([]) .full) (.list ([]) .full)] [] (GH n a0 a1 a2 w=some r)) ?_ ?_
 ·intro K6 be
  refine rg [3,4,5,6,7,8,9] hs ?_
  apply Ar
  refine AA (fun m e st=>∃ (y:Int) (u:Int),Ck e st B Rw L [(3,true,.box B.length 0),(4,true,.box (B.length+1) 0),(5,true,.box (B.length+2) 0),(6,true,.box (B.length+3) 0),(7,true,.box (B.length+4) 0),(8,true,Ak y),(9,true,Ak u)] [PD a0,Dx a1,Vw a2,[Ak 0,Ak 0,.list ([]) .full,.list ([]) .full,.list ([]) .full,.list ([]) .full,.list ([]) .full],Nb a1 (.list ([]) .full) (.list ([]) .full) (.list ([]) .full) (.list ([]) .full)] [] (B2 n a0 a1 a2 m y u=some r)) n ⟨((-1)),0,([]),Rw,ef hs,ef hs,b,h⟩ ?_
  rintro ml8 e st ⟨y,u,Xl8,Rl8,rfl,rfl,b,h⟩ Ul8 Vl8
  cases ml8 with
  | zero=>cases h
  | succ ml8 =>
  rw [B2] at h
  refine Go.Ev.td hN E D g b ?_
  apply Am;intro K9 az
  refine rg [3,4,5,6,7,8,9,21] hs ?_
  refine B6 h hs ?_ ?_<;>intro hs h
  rotate_left
  ·refine sx [3,4,5,6,7,8] hs be ?_
   exact ⟨y,([]),Rl8,ef hs,ef hs,b,h⟩
  refine sk [3,4,5,6,7,8,9] hs az ?_
  clear az
  refine AD (fun e st=>∃ (v:Int),Ck e st B Rw L [(3,true,.box B.length 0),(4,true,.box (B.length+1) 0),(5,true,.box (B.length+2) 0),(6,true,.box (B.length+3) 0),(7,true,.box (B.length+4) 0),(8,true,Ak v),(9,true,Ak u)] [PD a0,Dx a1,Vw a2,[Ak 0,Ak 0,.list ([]) .full,.list ([]) .full,.list ([]) .full,.list ([]) .full,.list ([]) .full],Nb a1 (.list ([]) .full) (.list ([]) .full) (.list ([]) .full) (.list ([]) .full)] [] (FY n (B2 n a0 a1 a2 ml8) u v=some r)) ?_ ?_
  ·intro K14 ap
   exact go (tg (a:=(([20,3,4,5,6,7,8,9,43],([3,4,5,6,7,8,9],()),[3,4,5,6,7,8,9],()),[20,3,4,5,6,7,8,9,43],[3,4,5,6,7,8,9],()))) h hs hN E D g b (q2 (Im w0) (KB w0 n)) (q1 ap)
  ·clear h;rintro e st ⟨v,Xk13,Rk13,rfl,rfl,b,h⟩
   rw [FY] at h
   exact go (tg (a:=([3,4,5,6,7,8,9],()))) h hs hN E D g b trivial (q1 (fun e s=>Vl8 ml8 e s (Nat.lt_succ_self _)))
 ·clear h;rintro e st ⟨w,Xk5,Rk5,rfl,rfl,b,h⟩
  rw [GH] at h
  refine Go.Ev.td hN E D g b ?_
  apply Am;intro K22 aa
  refine rg [3,4,5,6,7,8,50] hs ?_
  refine B6 h hs ?_ ?_<;>intro hs h
  ·have t:=hs.1
   refine rg [6] hs ?_
   exact rt h hs g b
  have t:=hs.1
  refine sk [3,4,5,6,7,8] hs aa ?_
  clear aa
  obtain ⟨bh,a6,h⟩:=bind_some h
  obtain ⟨bb,ba,aj⟩:=Bo a6
  have k:=Bz (f:=AZ) aj
  obtain ⟨C,ay,h⟩:=bind_some h
  obtain ⟨a8,a9,ak⟩:=Bo ay
  have c:=Bz (f:=Dn) ak
  have l:(bh.items.map Dn).getD 0 .junk=_:=c
  have hs:=Ad k hs
  have hs:=Ad c hs
  have hs:=Ad l hs
  refine rg [3,4,5,6,7,8,10] hs ?_
  obtain ⟨J,ax,h⟩:=bind_some h
  refine rc 2 [3,5,6,7,10] hs ?_;intro K29 af
  refine Av _ (OC w0 _ _ _ a1 w _ ax) (hv hs) ?_
  refine ne hs af ?_
  clear af
  apply Am;intro K31 ad
  refine rg [3,5,6,7,10,66] hs ?_
  refine B6 h hs ?_ ?_<;>intro hs h
  ·have p:=hs.1
   have b:=b.full 10 0
   have b:=b.full 6 0
   obtain ⟨bu,ar,h⟩:=bind_some h
   refine rc 2 [6,7] hs ?_;intro K34 Z
   refine BE _ (Ls w0 n _ _ _ (B.length+4) J (.list ([]) .full) (.list ([]) .full) ([]) ([]) .full .full (ef hs) b.enter2a b.enter2b b.apart2 a0 C ((⟨#[114,101,102,117,115,101,100]⟩:ByteArray)) _ ar) (hv hs) ?_;rintro _ _ ⟨rfl,Rg38,Rh39,bp,bn,rfl,O,H⟩
   have b:=b.call2 O H
   refine ne hs Z ?_
   clear Z
   refine rg [6] hs ?_
   exact rt h hs g b
  have p:=hs.1
  refine sk [3,5,6,7,10] hs ad ?_
  clear ad
  apply Am;intro K43 ai
  apply Am;intro K44 z
  rcases Bool.eq_false_or_eq_true (D7 a0) with hf45 | hf45
  ·replace h:=Cj h hf45
   have hs:=Ad hf45 hs
   refine dk 12 3 1 [3,5,6,7,10,82] hs G6 ?_
   refine Av _ (Ii w0 _ _ _ a0) (hv hs) ?_
   refine nc hs ?_
   refine La ?_
   refine dn hs z ?_
   clear z
   refine A7 true ev (ef hs) (fun hb46=>?_) (fun hb46=>by cases hb46)
   have b:=b.full 10 0
   have b:=b.full 6 0
   obtain ⟨bt,a3,h⟩:=bind_some h
   refine rc 2 [6,7] hs ?_;intro K47 ah
   refine BE _ (Ls w0 n _ _ _ (B.length+4) J (.list ([]) .full) (.list ([]) .full) ([]) ([]) .full .full (ef hs) b.enter2a b.enter2b b.apart2 a0 C ((⟨#[116,121,112,101]⟩:ByteArray)) _ a3) (hv hs) ?_;rintro _ _ ⟨rfl,Rg51,Rh52,bk,bj,rfl,K,Q⟩
   have b:=b.call2 K Q
   refine ne hs ah ?_
   clear ah
   refine rg [6] hs ?_
   exact rt h hs g b
  ·replace h:=Cm h hf45
   obtain ⟨bd,bf,bc,d,h⟩:=ix Rm h
   have j:(a0.types.map Rm).getD 1 .junk=_:=d
   obtain ⟨br,a4,h⟩:=bind_some h
   have hs:=Ad hf45 hs
   have hs:=Ad d hs
   have hs:=Ad j hs
   refine dk 12 3 1 [3,5,6,7,10,82] hs G6 ?_
   refine Av _ (Ii w0 _ _ _ a0) (hv hs) ?_
   refine nc hs ?_
   refine Av _ (Ol w0 n _ _ _ bd a2.body _ a4) (hv hs) ?_
   refine dn hs z ?_
   clear z
   refine B6 h hs ?_ ?_<;>intro hs h
   ·have o:=hs.1
    have b:=b.full 10 0
    have b:=b.full 6 0
    obtain ⟨bq,av,h⟩:=bind_some h
    refine rc 2 [6,7] hs ?_;intro K59 Y
    refine BE _ (Ls w0 n _ _ _ (B.length+4) J (.list ([]) .full) (.list ([]) .full) ([]) ([]) .full .full (ef hs) b.enter2a b.enter2b b.apart2 a0 C ((⟨#[116,121,112,101]⟩:ByteArray)) _ av) (hv hs) ?_;rintro _ _ ⟨rfl,Rg63,Rh64,bo,bi,rfl,N,G⟩
    have b:=b.call2 N G
    refine ne hs Y ?_
    clear Y
    refine rg [6] hs ?_
    exact rt h hs g b
   have o:=hs.1
   refine sk [3,5,6,7,10] hs ai ?_
   clear ai
   obtain ⟨ao,am,h⟩:=bind_some h
   refine rc 2 [3,5,6,7,10,11] hs ?_;intro K68 ab
   refine Av _ (LE w0 n _ _ _ ([((⟨#[98,111,100,121]⟩:ByteArray),C.body),((⟨#[114,101,112,108,121]⟩:ByteArray),a2.body)]) _ am) (hv hs) ?_
   refine ne hs ab ?_
   clear ab
   obtain ⟨a7,a5,h⟩:=bind_some h
   refine rc 2 [3,5,6,7,10,12,13] hs ?_;intro K70 ag
   refine Av _ (HG w0 hE hM hP hT n _ _ _ a0.mapping ao a0.type _ a5) (hv hs) ?_
   refine ne hs ag ?_
   clear ag
   apply Am;intro K72 au
   refine rg [3,5,6,7,10,12,13,105] hs ?_
   refine B6 h hs ?_ ?_<;>intro hs h
   ·have q:=hs.1
    apply Am;intro K75 V
    obtain ⟨bg,aw,h⟩:=bind_some h
    have b:=b.full 10 0
    have b:=b.full 6 0
    obtain ⟨bs,aq,h⟩:=bind_some h
    apply JF G6 [4] [6,7] kr (fun s=>∃ (X:Ao) (rows:Ap) (c4:List AV),s=⟨B++([PD a0,Dx a1,Vw a2,[Ak 0,Ak 0,.list ([]) .full,.list ([]) .full,.list ([]) .full,.list ([]) .full,.list ([]) .full],c4,Qu C,ao.cs,a7.1.cs]++X),rows,L⟩) 2 (B.length+8)
    ·simp +decide only [go_sem,Nat.reduceAdd]
    ·rintro s ⟨X,rows,c4,rfl⟩
     refine ⟨2,?_⟩
     rw [An];simp +decide only [go_sem,Nat.reduceAdd,Bh,t,k,c,l,p,hf45,d,j,o,q]
     (repeat' apply Ad)<;>first | refine Av _ (Es w0 _ _ _ a7.2 _ aw) (hv hs) ?_ | exact cl
     rw [An];simp +decide only [go_sem,Nat.reduceAdd,t,k,c,l,p,hf45,d,j,o,q]
     (repeat' apply Ad)<;>first | rfl | exact cl
    ·refine Good.mk [4] kr ⟨[],_,_,by first | rfl | simp only [List.append_nil,List.nil_append]⟩ ?_ ?_
     ·intro h;exact absurd h (by decide)
     ·intro i hi;simp only [List.mem_cons,List.not_mem_nil,or_false] at hi
      subst hi
      ·apply Ib rfl rfl ev rfl
       ·simp +decide only [go_sem,Nat.reduceAdd,t,k,c,l,p,hf45,d,j,o,q]
       ·simp +decide only [go_sem,Nat.reduceAdd,t,k,c,l,p,hf45,d,j,o,q]
       ·simp +decide only [go_sem,Nat.reduceAdd,t,k,c,l,p,hf45,d,j,o,q]
        exact (Ls w0 n _ _ _ (B.length+4) J (.list ([]) .full) (.list ([]) .full) ([]) ([]) .full .full (ef hs) b.enter2a b.enter2b b.apart2 a0 C bg _ aq).pub (hv hs)
       ·rintro _ _ ⟨rfl,Rg80,Rh81,bm,bl,rfl,U,F⟩
        have b:=b.call2 U F
        simp +decide only [go_sem,Nat.reduceAdd,t,k,c,l,p,hf45,d,j,o,q]
        refine Good.mk [] kr ⟨[],_,_,by first | rfl | simp only [List.append_nil,List.nil_append]⟩ ?_ ?_
        ·intro _;refine ⟨_,_,EB [6,7] (by first | (simp +decide only [go_sem,Nat.reduceAdd,t,k,c,l,p,hf45,d,j,o,q];done) | (simp +decide only [go_sem,Nat.reduceAdd,t,k,c,l,p,hf45,d,j,o,q];rfl)),?_⟩
         simp +decide only [go_sem,Nat.reduceAdd,t,k,c,l,p,hf45,d,j,o,q]
         (repeat' apply Ad)<;>first | refine V _ _ ?_ | exact cl
         clear V
         refine rg [6] hs ?_
         exact rt h hs g b
        ·intro i hi;cases hi
   have q:=hs.1
   exact go (tg (a:=([3,5,6,7,10,12],[3,6,7,10,12,14],[9,3,6,7,10,14],[9,6,7],[6],()))) h hs hN E D g b (Ad (HL w0) (Ad (ae ZiV Zdj) (Ad (NT w0 n) (q3 (NP w0 n) (ae WU QI) (HS w0 n))))) (q1 au)
def EH (n:Nat) (b:Int->Int->(List Fte)->(List Msg)->Option Otc) (g:Int) (h:Int) (b4_k30_5:List Fte) (b4_k30_6:List Msg):Option Otc :=
 if BN (g+1) then
  b h (g+1) b4_k30_5 b4_k30_6
 else none
def GG (n:Nat) (g:Stt->(List Fte)->(List Msg)->Option Otc) (a0:Nod) (q:Slt) (h:Stt):Nat->Int->(List Fte)->(List Msg)->Option Otc
 | 0,_,_,_=>none
 | m+1,b,b4_l51_5,b4_l51_6 =>
  if decide (b<(q.items.length:Int)) then
   (Dw q.items b).bind fun x56 =>
   (GE n h b4_l51_5 b4_l51_6 a0 x56 ((⟨#[116,105,109,101,111,117,116]⟩:ByteArray))).bind fun y =>
   if BN (b+1) then
    (GG n g a0 q h m) (b+1) y.1 y.2
   else none
  else
   g h b4_l51_5 b4_l51_6
def M4 (n:Nat)  (b4_k14_0:Stt) (b4_k14_5:List Fte) (b4_k14_6:List Msg):Option Otc :=
 some (Otc.mk b4_k14_0 ([]) ([]) b4_k14_5 b4_k14_6)
def Hw (n:Nat) (g:Stt->(List Fte)->(List Msg)->Option Otc) (y:Nod) (b4_l16_0:Stt) (b:Int) (b4_k22_5:List Fte) (b4_k22_6:List Msg):Option Otc :=
 if decide (b<0) then
  some (Otc.mk b4_l16_0 ([]) ([]) b4_k22_5 b4_k22_6)
 else
  (Dw b4_l16_0.slots b).bind fun q =>
  (GU b4_l16_0 b).bind fun h =>
  GG n g y q h n 0 b4_k22_5 b4_k22_6
def Br (n:Nat) (b:Stt->(List Fte)->(List Msg)->Option Otc) (a0:Nod) (y:Inp) (b4_l16_0:Stt):Nat->Int->Int->(List Fte)->(List Msg)->Option Otc
 | 0,_,_,_,_=>none
 | m+1,h,g,b4_l25_5,b4_l25_6 =>
  if decide (g<(b4_l16_0.slots.length:Int)) then
   (Dw b4_l16_0.slots g).bind fun q =>
   if (decide (0<q.time))&&(decide (q.time<=y.time)) then
    if decide (h<0) then
     EH n (Br n b a0 y b4_l16_0 m) g g b4_l25_5 b4_l25_6
    else
     (Dw b4_l16_0.slots h).bind fun x38 =>
     if decide (q.time<x38.time) then
      EH n (Br n b a0 y b4_l16_0 m) g g b4_l25_5 b4_l25_6
     else
      EH n (Br n b a0 y b4_l16_0 m) g h b4_l25_5 b4_l25_6
   else
    EH n (Br n b a0 y b4_l16_0 m) g h b4_l25_5 b4_l25_6
  else
   Hw n b a0 b4_l16_0 h b4_l25_5 b4_l25_6
def BC (n:Nat) (g:Nod) (b:Inp):Nat->Stt->(List Fte)->(List Msg)->Option Otc
 | 0,_,_,_=>none
 | m+1,b4_l16_0,b4_l16_5,b4_l16_6 =>
  if decide (b.kind=2) then
   Br n (BC n g b m) g b b4_l16_0 n ((-1)) 0 b4_l16_5 b4_l16_6
  else
   M4 n b4_l16_0 b4_l16_5 b4_l16_6
def Ig (n:Nat) (h:Nod) (g:Stt) (b:Inp):Option Otc :=
 if decide (b.kind=1) then
  (MH n h g b).bind fun y =>
  some (y)
 else
  if decide (b.kind=3) then
   (Ju n h g b).bind fun q =>
   some (q)
  else
   BC n h b n g ([]) ([])
theorem YN (w0:World) (hE:QU w0) (hM:Qx w0) (hP:Pow10 w0) (hT:Lib.Utf8Tabs 1 2 w0) (n:Nat) (B:Ao) (Rw:Ap) (L:Aq) (a0:Nod) (a1:Stt) (a2:Inp) (r:Otc) (h:Ig n a0 a1 a2=some r) :
  ACalls Tryz.prog w0 22 [.agg (PD a0),.agg (Dx a1),.agg (Vw a2)] ⟨B,Rw,L⟩ fun x st=>x = .agg (TE r)/\st=⟨B,Rw,L⟩:=by
 rw [Ig] at h
 refine hd [.cell 6 62] Tryz.func22 Tryz.ntmps22 fun M0 W0 hN aq ao H hu C hs=>?_
 simp only [Ax]
 refine rg [3,4,5,6] hs ?_
 apply Am;intro K2 bn
 refine rg [3,4,5,6,15] hs ?_
 refine B6 h hs ?_ ?_<;>intro hs h
 ·have ak:=hs.1
  obtain ⟨y6,bx,h⟩:=bind_some h
  refine rc 2 [6] hs ?_;intro K5 bm
  refine Av _ (Y2 w0 hE hM hP hT n _ _ _ a0 a1 a2 _ bx) (hv hs) ?_
  refine ne hs bm ?_
  clear bm
  exact rt h hs H C
 have ak:=hs.1
 refine sk [3,4,5,6] hs bn ?_
 clear bn
 apply Am;intro K7 bc
 refine rg [3,4,5,6,22] hs ?_
 refine B6 h hs ?_ ?_<;>intro hs h
 ·have aj:=hs.1
  obtain ⟨b4,bk,h⟩:=bind_some h
  refine rc 2 [6] hs ?_;intro K10 ay
  refine Av _ (W9 w0 hE hM hP hT n _ _ _ a0 a1 a2 _ bk) (hv hs) ?_
  refine ne hs ay ?_
  clear ay
  exact rt h hs H C
 have aj:=hs.1
 refine sk [3,4,5,6] hs bc ?_
 clear bc
 refine rg [3,5,6,7] hs ?_
 refine AD (fun e st=>∃ (af:Stt) (V:List Fte) (U:List Msg) (Z:Ev.Own) (Y:Ev.Own),Ck e st B Rw L [(6,true,.box (B.length+3) 0),(7,true,.box (B.length+4) 0)] [PD a0,Dx a1,Vw a2,[Ak 0,Ak 0,.list ([]) .full,.list ([]) .full,.list ([]) .full,.list ([]) .full,.list ([]) .full],Nb af (.list ([]) .full) (.list ([]) .full) (.list (V.map F3) Z) (.list (U.map Dn) Y)] [(6,V.length,Z),(10,U.length,Y)] (M4 n af V U=some r)) ?_ ?_
 ·intro K15 bo
  apply Ar
  refine AA (fun m e st=>∃ (b:Stt) (k:List Fte) (o:List Msg) (u:Ev.Own) (q:Ev.Own),Ck e st B Rw L [(3,true,.box B.length 0),(5,true,.box (B.length+2) 0),(6,true,.box (B.length+3) 0),(7,true,.box (B.length+4) 0)] [PD a0,Dx a1,Vw a2,[Ak 0,Ak 0,.list ([]) .full,.list ([]) .full,.list ([]) .full,.list ([]) .full,.list ([]) .full],Nb b (.list ([]) .full) (.list ([]) .full) (.list (k.map F3) u) (.list (o.map Dn) q)] [(6,k.length,u),(10,o.length,q)] (BC n a0 a2 m b k o=some r)) n ⟨a1,([]),([]),.full,.full,([]),Rw,ef hs,ef hs,Owns.of_eq (((C).full 10 0).full 6 0) Fh,h⟩ ?_
  rintro ml16 e st ⟨b,k,o,u,q,Xl16,Rl16,rfl,rfl,C,h⟩ Ul16 Vl16
  cases ml16 with
  | zero=>cases h
  | succ ml16 =>
  rw [BC] at h
  have hU:=C.unders
  simp only [List.mem_cons,List.not_mem_nil,or_false,forall_eq_or_imp,forall_eq] at hU
  obtain ⟨av,au⟩:=hU
  refine Go.Ev.td hN aq ao H C ?_
  apply Am;intro K17 az
  refine rg [3,5,6,7,31] hs ?_
  refine B6 h hs ?_ ?_<;>intro hs h
  rotate_left
  ·have ab:=hs.1
   refine sx [6,7] hs bo ?_
   exact ⟨b,k,o,u,q,([]),Rl16,ef hs,ef hs,Owns.of_eq (((C).swap (List.Perm.swap _ _ _)).swap (List.Perm.swap _ _ _)) Fh,h⟩
  have ab:=hs.1
  refine sk [3,5,6,7] hs az ?_
  clear az
  apply Ar
  refine rg [3,5,6,7,8] hs ?_
  refine AD (fun e st=>∃ (ah:Int) (F:List Fte) (E:List Msg) (Q:Ev.Own) (O:Ev.Own),Ck e st B Rw L [(3,true,.box B.length 0),(5,true,.box (B.length+2) 0),(6,true,.box (B.length+3) 0),(7,true,.box (B.length+4) 0),(8,true,Ak ah)] [PD a0,Dx a1,Vw a2,[Ak 0,Ak 0,.list ([]) .full,.list ([]) .full,.list ([]) .full,.list ([]) .full,.list ([]) .full],Nb b (.list ([]) .full) (.list ([]) .full) (.list (F.map F3) Q) (.list (E.map Dn) O)] [(6,F.length,Q),(10,E.length,O)] (Hw n (BC n a0 a2 ml16) a0 b ah F E=some r)) ?_ ?_
  ·intro K23 bi
   refine rg [3,5,6,7,8,9] hs ?_
   apply Ar
   refine AA (fun m e st=>∃ (N:Int) (w:Int) (j:List Fte) (g:List Msg) (c:Ev.Own) (d:Ev.Own),Ck e st B Rw L [(3,true,.box B.length 0),(5,true,.box (B.length+2) 0),(6,true,.box (B.length+3) 0),(7,true,.box (B.length+4) 0),(8,true,Ak N),(9,true,Ak w)] [PD a0,Dx a1,Vw a2,[Ak 0,Ak 0,.list ([]) .full,.list ([]) .full,.list ([]) .full,.list ([]) .full,.list ([]) .full],Nb b (.list ([]) .full) (.list ([]) .full) (.list (j.map F3) c) (.list (g.map Dn) d)] [(6,j.length,c),(10,g.length,d)] (Br n (BC n a0 a2 ml16) a0 a2 b m N w j g=some r)) n ⟨((-1)),0,k,o,u,q,([]),Rl16,ef hs,ef hs,Owns.of_eq (((C).swap (List.Perm.swap _ _ _)).swap (List.Perm.swap _ _ _)) Fh,h⟩ ?_
   rintro ml25 e st ⟨N,w,j,g,c,d,Xl25,Rl25,rfl,rfl,C,h⟩ Ul25 Vl25
   cases ml25 with
   | zero=>cases h
   | succ ml25 =>
   rw [Br] at h
   have hU:=C.unders
   simp only [List.mem_cons,List.not_mem_nil,or_false,forall_eq_or_imp,forall_eq] at hU
   obtain ⟨av,au⟩:=hU
   refine Go.Ev.td hN aq ao H C ?_
   apply Am;intro K26 a5
   refine rg [3,5,6,7,8,9,37] hs ?_
   refine B6 h hs ?_ ?_<;>intro hs h
   rotate_left
   ·refine sx [3,5,6,7,8] hs bi ?_
    exact ⟨N,j,g,c,d,([]),Rl25,ef hs,ef hs,Owns.of_eq (((C).swap (List.Perm.swap _ _ _)).swap (List.Perm.swap _ _ _)) Fh,h⟩
   refine sk [3,5,6,7,8,9] hs a5 ?_
   clear a5
   refine AD (fun e st=>∃ (ag:Int) (D:List Fte) (z:List Msg) (J:Ev.Own) (G:Ev.Own),Ck e st B Rw L [(3,true,.box B.length 0),(5,true,.box (B.length+2) 0),(6,true,.box (B.length+3) 0),(7,true,.box (B.length+4) 0),(8,true,Ak ag),(9,true,Ak w)] [PD a0,Dx a1,Vw a2,[Ak 0,Ak 0,.list ([]) .full,.list ([]) .full,.list ([]) .full,.list ([]) .full,.list ([]) .full],Nb b (.list ([]) .full) (.list ([]) .full) (.list (D.map F3) J) (.list (z.map Dn) G)] [(6,D.length,J),(10,z.length,G)] (EH n (Br n (BC n a0 a2 ml16) a0 a2 b ml25) w ag D z=some r)) ?_ ?_
   ·intro K31 am
    apply Ar
    obtain ⟨ap,bg,h⟩:=bind_some h
    obtain ⟨bz,bw,bb⟩:=Bo bg
    have a8:=Bz (f:=AZ) bb
    have hs:=Ad a8 hs
    refine rg [3,5,6,7,8,9,10] hs ?_
    apply Am;intro K34 ai
    rcases Bool.eq_false_or_eq_true ((decide (0<ap.time))&&(decide (ap.time<=a2.time))) with hf35 | hf35
    ·replace h:=Cj h hf35
     rcases Bool.eq_false_or_eq_true (decide (N<0)) with hf36 | hf36
     ·replace h:=Cj h hf36
      have hs:=Ad hf35 hs
      have hs:=Ad hf36 hs
      refine dl 26 1 1 [3,5,6,7,8,9,71] hs G6 ai ?_
      clear ai
      refine A7 true ev (ef hs) (fun hb37=>?_) (fun hb37=>by cases hb37)
      refine rl [3,5,6,7,8,9] hs am ?_
      exact ⟨w,j,g,c,d,([O4 ap]),Rl25,ef hs,ef hs,Owns.of_eq (((C).swap (List.Perm.swap _ _ _)).swap (List.Perm.swap _ _ _)) Fh,h⟩
     ·replace h:=Cm h hf36
      obtain ⟨b3,b0,br,ba,h⟩:=ix AZ h
      have hs:=Ad hf35 hs
      have hs:=Ad hf36 hs
      have hs:=Ad ba hs
      refine dl 26 1 1 [3,5,6,7,8,9,71] hs G6 ai ?_
      clear ai
      refine B6 h hs ?_ ?_<;>intro hs h
      ·refine rl [3,5,6,7,8,9] hs am ?_
       exact ⟨w,j,g,c,d,([O4 ap]),Rl25,ef hs,ef hs,Owns.of_eq (((C).swap (List.Perm.swap _ _ _)).swap (List.Perm.swap _ _ _)) Fh,h⟩
      refine sk [3,5,6,7,8,9] hs am ?_
      exact ⟨N,j,g,c,d,([O4 ap]),Rl25,ef hs,ef hs,Owns.of_eq (((C).swap (List.Perm.swap _ _ _)).swap (List.Perm.swap _ _ _)) Fh,h⟩
    ·replace h:=Cm h hf35
     have hs:=Ad hf35 hs
     refine dl 26 1 1 [3,5,6,7,8,9,71] hs G6 ai ?_
     clear ai
     refine A7 false ev (ef hs) (fun hb40=>by cases hb40) (fun hb40=>?_)
     refine sk [3,5,6,7,8,9] hs am ?_
     exact ⟨N,j,g,c,d,([O4 ap]),Rl25,ef hs,ef hs,Owns.of_eq (((C).swap (List.Perm.swap _ _ _)).swap (List.Perm.swap _ _ _)) Fh,h⟩
   ·clear h;rintro e st ⟨ag,D,z,J,G,Xk30,Rk30,rfl,rfl,C,h⟩
    rw [EH] at h
    have hU:=C.unders
    simp only [List.mem_cons,List.not_mem_nil,or_false,forall_eq_or_imp,forall_eq] at hU
    obtain ⟨av,au⟩:=hU
    refine Go.Ev.td hN aq ao H C ?_
    obtain ⟨b2,h⟩:=Au h
    refine rl [3,5,6,7,8,9] hs (fun e s=>Vl25 ml25 e s (Nat.lt_succ_self _)) ?_
    exact ⟨ag,(w+1),D,z,J,G,([]),Rk30,ef hs,ef hs,Owns.of_eq (((C).swap (List.Perm.swap _ _ _)).swap (List.Perm.swap _ _ _)) Fh,h⟩
  ·clear h;rintro e st ⟨ah,F,E,Q,O,Xk22,Rk22,rfl,rfl,C,h⟩
   rw [Hw] at h
   have hU:=C.unders
   simp only [List.mem_cons,List.not_mem_nil,or_false,forall_eq_or_imp,forall_eq] at hU
   obtain ⟨av,au⟩:=hU
   refine Go.Ev.td hN aq ao H C ?_
   apply Am;intro K42 a6
   refine rg [3,5,6,7,8,74] hs ?_
   refine B6 h hs ?_ ?_<;>intro hs h
   ·have ae:=hs.1
    refine rg [6] hs ?_
    exact rt h hs H C
   have ae:=hs.1
   refine sk [3,5,6,7,8] hs a6 ?_
   clear a6
   obtain ⟨bp,bd,h⟩:=bind_some h
   obtain ⟨bu,bq,a9⟩:=Bo bd
   have K:=Bz (f:=AZ) a9
   have hs:=Ad K hs
   refine rg [3,5,6,7,8,11] hs ?_
   obtain ⟨ar,bf,h⟩:=bind_some h
   refine rc 2 [3,5,6,7,11] hs ?_;intro K48 a4
   refine Av _ (OC w0 _ _ _ b ah _ bf) (hv hs) ?_
   refine ne hs a4 ?_
   clear a4
   refine rg [3,5,6,7,11,12] hs ?_
   apply Ar
   refine AA (fun m e st=>∃ (ad:Int) (p:List Fte) (l:List Msg) (v:Ev.Own) (t:Ev.Own),Ck e st B Rw L [(3,true,.box B.length 0),(5,true,.box (B.length+2) 0),(6,true,.box (B.length+3) 0),(7,true,.box (B.length+4) 0),(11,true,.list (bp.items.map Dn) .none),(12,true,Ak ad)] [PD a0,Dx a1,Vw a2,[Ak 0,Ak 0,.list ([]) .full,.list ([]) .full,.list ([]) .full,.list ([]) .full,.list ([]) .full],Nb ar (.list ([]) .full) (.list ([]) .full) (.list (p.map F3) v) (.list (l.map Dn) t)] [(6,p.length,v),(10,l.length,t)] (GG n (BC n a0 a2 ml16) a0 bp ar m ad p l=some r)) n ⟨0,F,E,Q,O,([]),Rk22,ef hs,ef hs,Owns.of_eq (((C).swap (List.Perm.swap _ _ _)).swap (List.Perm.swap _ _ _)) Fh,h⟩ ?_
   rintro ml51 e st ⟨ad,p,l,v,t,Xl51,Rl51,rfl,rfl,C,h⟩ Ul51 Vl51
   cases ml51 with
   | zero=>cases h
   | succ ml51 =>
   rw [GG] at h
   have hU:=C.unders
   simp only [List.mem_cons,List.not_mem_nil,or_false,forall_eq_or_imp,forall_eq] at hU
   obtain ⟨av,au⟩:=hU
   refine Go.Ev.td hN aq ao H C ?_
   apply Am;intro K52 a3
   refine rg [3,5,6,7,11,12,91] hs ?_
   refine B6 h hs ?_ ?_<;>intro hs h
   rotate_left
   ·have aa:=hs.1
    refine sx [3,5,6,7] hs (fun e s=>Vl16 ml16 e s (Nat.lt_succ_self _)) ?_
    exact ⟨ar,p,l,v,t,([]),Rl51,ef hs,ef hs,Owns.of_eq (((C).swap (List.Perm.swap _ _ _)).swap (List.Perm.swap _ _ _)) Fh,h⟩
   have aa:=hs.1
   refine sk [3,5,6,7,11,12] hs a3 ?_
   clear a3
   apply Am;intro K55 a7
   apply Ar
   obtain ⟨bt,bv,bs,y,h⟩:=ix Dn h
   have C:=C.swap (List.Perm.swap _ _ _)
   have C:=C.swap (List.Perm.swap _ _ _)
   obtain ⟨bh,bl,h⟩:=bind_some h
   apply JF G6 [5] [3,5,6,7,11,12] kr (fun s=>∃ (X:Ao) (rows:Ap) (c4:List AV),s=⟨B++([PD a0,Dx a1,Vw a2,[Ak 0,Ak 0,.list ([]) .full,.list ([]) .full,.list ([]) .full,.list ([]) .full,.list ([]) .full],c4]++X),rows,L⟩) 2 (B.length+5)
   ·simp +decide only [go_sem,Nat.reduceAdd]
   ·rintro s ⟨X,rows,c4,rfl⟩
    refine ⟨1,?_⟩
    rw [An];simp +decide only [go_sem,Nat.reduceAdd,Bh,ak,aj,ab,ae,K,aa,y]
    (repeat' apply Ad)<;>first | rfl | exact cl
   ·refine Good.mk [5] kr ⟨[],_,_,by first | rfl | simp only [List.append_nil,List.nil_append]⟩ ?_ ?_
    ·intro h;exact absurd h (by decide)
    ·intro i hi;simp only [List.mem_cons,List.not_mem_nil,or_false] at hi
     subst hi
     ·apply Ib rfl rfl ev rfl
      ·simp +decide only [go_sem,Nat.reduceAdd,ak,aj,ab,ae,K,aa,y]
      ·simp +decide only [go_sem,Nat.reduceAdd,ak,aj,ab,ae,K,aa,y]
      ·simp +decide only [go_sem,Nat.reduceAdd,ak,aj,ab,ae,K,aa,y]
       have hs:=Ad y hs
       exact (Ls w0 n _ _ _ (B.length+4) ar (.list ([]) .full) (.list ([]) .full) p l v t (ef hs) C.enter2a C.enter2b C.apart2 a0 bt ((⟨#[116,105,109,101,111,117,116]⟩:ByteArray)) _ bl).pub (hv hs)
      ·rintro _ _ ⟨rfl,Rg58,Rh59,be,bj,rfl,aw,ax⟩
       have C:=C.call2 aw ax
       simp +decide only [go_sem,Nat.reduceAdd,ak,aj,ab,ae,K,aa,y]
       refine Good.mk [] kr ⟨[],_,_,by first | rfl | simp only [List.append_nil,List.nil_append]⟩ ?_ ?_
       ·intro _;refine ⟨_,_,EB [3,5,6,7,11,12] (by first | (simp +decide only [go_sem,Nat.reduceAdd,ak,aj,ab,ae,K,aa,y];done) | (simp +decide only [go_sem,Nat.reduceAdd,ak,aj,ab,ae,K,aa,y];rfl)),?_⟩
        simp +decide only [go_sem,Nat.reduceAdd,ak,aj,ab,ae,K,aa,y]
        (repeat' apply Ad)<;>first | refine a7 _ _ ?_ | exact cl
        clear a7
        obtain ⟨b1,h⟩:=Au h
        have hs:=Ad y hs
        refine rl [3,5,6,7,11,12] hs (fun e s=>Vl51 ml51 e s (Nat.lt_succ_self _)) ?_
        exact ⟨(ad+1),bh.1,bh.2,be,bj,([]),Rh59,ef hs,ef hs,Owns.of_eq (((C).swap (List.Perm.swap _ _ _)).swap (List.Perm.swap _ _ _)) Fh,h⟩
       ·intro i hi;cases hi
 ·clear h;rintro e st ⟨af,V,U,Z,Y,Xk14,Rk14,rfl,rfl,C,h⟩
  rw [M4] at h
  exact go (tg (a:=([6],()))) h hs hN aq ao H C trivial trivial
theorem Yk (n:Nat) (s:Stt) (nd:Nod) (hnd:nd.name=MN) (l:List (CM × CR)) (hl:l.length<=1000) (m:CM) (w:CR) :
  GE n s (l.map HU) (l.map fun r=>B5 r.1) nd (B5 m) (Tz w)=some ((l++[(m,w)]).map HU,(l++[(m,w)]).map fun r=>B5 r.1):=by
 rw [GE,Ah (by simp only [List.length_map];omega),hnd,SI,Ae,List.map_append,List.map_append]
 rfl
theorem ZaO (n:Nat) (s:Stt) (nd:Nod) (hnd:nd.name=MN) (m:CM) (w:CR):GE n s [] [] nd (B5 m) (Tz w)=some ([HU (m,w)],[B5 m]):=Yk n s nd hnd [] (by simp) m w
theorem QR (p:CP):D7 (Be p)=false:=rfl
theorem Zbg (n:Nat) (hn:100000<=n) (p:CP) (hp:p.ok) (s:CS) {now0:Int} {k0:Nat} (hs:s.ok p now0 k0) (hk0:k0<=1000) (m:CM) (now:Int) (hm:m.k<6/\m.v<4) (h0:0<=now) (h1:now<=100000) :
  MH n (Be p) (Aw s) (B9 (.msg m now))=some (Hi (Du p s (.msg m now))):=by
 have C:=hs.len
 have j:=hp.lim
 have l:=hs.num
 have b:((Aw s).slots.length:Int)=(s.es.length:Int):=by simp [Aw]
 rw [MH,QR,Ai (by decide)]
 by_cases c1:p.lim<=s.es.length
 ·have e:(((decide ((Be p).limit<=(((Aw s).slots.length:Int))))||(decide (256<=(((Aw s).slots.length:Int)))))||(decide (1099511627776<=(Aw s).number)))=true:=by
   have:decide ((Be p).limit<=(((Aw s).slots.length:Int)))=true:=Ag (by rw [b];show (p.lim:Int)<=_;omega)
   rw [this];rfl
  rw [Ah e]
  have f:GE n (Aw s) [] [] (Be p) (B9 (.msg m now)).message (⟨#[102,117,108,108]⟩:ByteArray)=some ([HU (m,.full)],[B5 m]):=ZaO n _ (Be p) rfl m .full
  rw [f,Ae]
  simp only [Du,Ah c1]
  rfl
 ·have e:¬ (((decide ((Be p).limit<=(((Aw s).slots.length:Int))))||(decide (256<=(((Aw s).slots.length:Int)))))||(decide (1099511627776<=(Aw s).number)))=true:=by
   have a1:decide ((Be p).limit<=(((Aw s).slots.length:Int)))=false:=Af (by rw [b];show ¬ (p.lim:Int)<=_;omega)
   have a2:decide ((256:Int)<=(((Aw s).slots.length:Int)))=false:=Af (by rw [b];omega)
   have a3:decide (1099511627776<=(Aw s).number)=false:=Af (by show ¬ 1099511627776<=(s.num:Int);omega)
   rw [a1,a2,a3];decide
  rw [Ai e]
  have r:Dw (Be p).calls 0=some (MA,Xy):=rfl
  have q:Dw (Be p).types 0=some (OU Yz p.req):=rfl
  have z:FQ n (B9 (.msg m now)).message.body=some (Zee m.k m.v):=Zay n (by omega) m.k m.v
  have u:=Zc2 n (by omega) m.k m.v p.req hm.1 hm.2 hp.req
  rw [r,Ae,z,Ae,q,Ae,u,Ae]
  by_cases c2:m.k<=p.req
  ·rw [Ah c2]
   have d:(!(decide ((rV [(Yz,iV m.k)],(0:Int)).2=0)))=false:=rfl
   have c:BN ((Aw s).number+1):=A8 (show s.num<1000000000000 by omega)
   rw [d,Ai (by decide),Ah c]
   have a:∀ t:Int,Ir n (Aw s) (B9 (.msg m now)) (MA,Xy) (rV [(Yz,iV m.k)],0) t=some (Otc.mk (Aw ⟨s.num+1,s.es++[⟨s.num+1,t,m⟩]⟩) [] [Rqs.mk ((m.i:Int)+1,[1,0]) MA ((s.num+1:Nat):Int) false (rV [(Yz,iV m.k)])] [] []):=by
    intro t
    have q1:=Zaw n hn s (by omega) hs.inc ⟨s.num+1,t,m⟩ (fun x y=>by have:=(hs.rng x y).2;simp only;omega)
    have q1:Gt n (Aw s) (Slt.mk (AB ((Aw s).number+1)) 0 t [(B9 (.msg m now)).message] [])=some (Aw ⟨s.num,s.es++[⟨s.num+1,t,m⟩]⟩,0):=q1
    have o:BM (B9 (.msg m now)).stamp 0=some ((m.i:Int)+1,[1,0]):=QO m.i
    rw [Ir,q1,Ae,Ah c,o,Ae,Ah c,Ah (by decide)]
    rfl
   simp only [Du,Ai c1]
   rw [Ai (show ¬ p.req<m.k by omega)]
   by_cases c3:0<p.T
   ·have h:decide (0<(Be p).time)=true:=Ag c3
    have:=hp.T1
    have w:(if 17592186044416<(B9 (.msg m now)).time+(Be p).time then (17592186044416:Int) else (B9 (.msg m now)).time+(Be p).time)=now+p.T:=Ai (show ¬ 17592186044416<now+p.T by omega)
    have g:BN ((B9 (.msg m now)).time+(Be p).time):=show BN (now+p.T) by unfold BN;omega
    rw [h,Ah rfl,Ah g,w,a,Ah c3]
    rfl
   ·have h:decide (0<(Be p).time)=false:=Af c3
    rw [h,Ai (by decide),a,Ai c3]
    rfl
  ·rw [Ai c2]
   have d:(!(decide ((zV,(18:Int)).2=0)))=true:=rfl
   have f:GE n (Aw s) [] [] (Be p) (B9 (.msg m now)).message (Tz .type)=some ([HU (m,.type)],[B5 m]):=ZaO n _ (Be p) rfl m .type
   rw [d,Ah rfl,Rb,Ae,f,Ae]
   simp only [Du,Ai c1]
   rw [Ah (show p.req<m.k by omega)]
   rfl
theorem UU (s:CS) (hl:s.es.length<=900) (q:Nat) (hq:q<s.es.length):GU (Aw s) (q:Int)=some (Aw ⟨s.num,s.es.take q++s.es.drop (q+1)⟩):=by
 have c:(Aw s).slots.length=s.es.length:=by simp [Aw]
 have a:(q:Int).toNat=q:=Int.toNat_natCast q
 have b:((q:Int)+1).toNat=q+1:=by omega
 rw [GU,a,b]
 rw [Ab,Ah (by rw [List.length_take];omega),Ah (A8 (by omega)),Ab,Ah (by rw [List.length_take,List.length_drop];omega)]
 congr 1
 simp only [Aw,Stt.mk.injEq,true_and]
 rw [List.map_append,List.map_take,List.map_drop]
theorem QC (n : Nat) (hn : 100000 ≤ n) (nd : Nod) (s : CS) (hl : s.es.length ≤ 900) (inp : Inp) (c : Nat) (hc : inp.call = c) (x8 : Int) (q : Nat) (hq : q ≤ s.es.length) : ∀ (k m i : Nat), i + k = q → (∀ j (hj : j < s.es.length), i ≤ j → j < q → s.es[j].num ≠ c) →
    B2 n nd (Aw s) inp (m + k) x8 (i : Int) = B2 n nd (Aw s) inp m x8 (q : Int)
  | 0, m, i, hi, _ => by obtain rfl : i = q := by omega
                         rfl
  | k + 1, m, i, hi, h => by
    have hlt : i < s.es.length := by omega
    have hln : (Aw s).slots.length = s.es.length := by simp [Aw]
    have hlt2 : i < (Aw s).slots.length := by omega
    have hx : (Aw s).slots[i] = BS s.es[i] := by simp [Aw]
    have he : DT n (BS s.es[i]).key (AB inp.call) = some (decide ((s.es[i].num : Int) = (c : Int))) := by rw [hc]; exact Zix n (by omega) _ _
    have hne := h i hlt (Nat.le_refl _) (by omega)
    rw [← Nat.add_assoc, B2, hln, A4, Ag hlt, Ah rfl, Bj hlt2, Ae, hx, he, Ae, Af (show ¬ (s.es[i].num : Int) = (c : Int) by omega), Ai (by decide), FY, Ah (A8 (by omega))]
    exact QC n hn nd s hl inp c hc x8 q hq k m (i + 1) (by omega) fun j hj h1 h2 => h j hj (by omega) h2
theorem Zav (n:Nat) (nd:Nod) (s:CS) (inp:Inp) (x8:Int) (m:Nat):B2 n nd (Aw s) inp (m+1) x8 (s.es.length:Int)=GH n nd (Aw s) inp x8:=by
 have a:(Aw s).slots.length=s.es.length:=by simp [Aw]
 rw [B2,a,Af (Int.lt_irrefl _)]
 rfl
theorem ZhH (n:Nat) (hn:100000<=n) (nd:Nod) (s:CS) (hl:s.es.length<=900) (inp:Inp) (c:Nat) (hc:inp.call=c) (x8:Int) (q:Nat) (hq:q<s.es.length) (he:s.es[q].num=c) (m:Nat) :
  B2 n nd (Aw s) inp (m+1) x8 (q:Int)=B2 n nd (Aw s) inp m (q:Int) ((q+1:Nat):Int):=by
 have b:(Aw s).slots.length=s.es.length:=by simp [Aw]
 have a:q<(Aw s).slots.length:=by omega
 have d:(Aw s).slots[q]=BS s.es[q]:=by simp [Aw]
 have he:DT n (BS s.es[q]).key (AB inp.call)=some (decide ((s.es[q].num:Int)=(c:Int))):=by rw [hc];exact Zix n (by omega) _ _
 rw [B2,b,A4,Ag hq,Ah rfl,Bj a,Ae,d,he,Ae,Ag (show (s.es[q].num:Int)=(c:Int) by omega),Ah rfl]
 rw [Ah (show decide (((BS s.es[q]).items.length:Int)=1)=true from rfl),FY,Ah (A8 (by omega))]
 rfl
theorem ZaY (n:Nat) (hn:100000<=n) (p:CP) (hp:p.ok) (s:CS) {now0:Int} {k0:Nat} (hs:s.ok p now0 k0) (i:Nat) (now:Int) (c:Nat) (done undo:Bool) (w:Nat) (hw:w<12) :
  Ju n (Be p) (Aw s) (B9 (.rep i now c done undo w))=some (Hi (Du p s (.rep i now c done undo w))):=by
 have hl:=hs.len
 have N:=hp.lim
 rw [Ju]
 cases hf:LC c s.es with
 | none =>
  have G:∀ j (a:j<s.es.length),s.es[j].num≠c:=fun j a e=>by
   have:=List.find?_eq_none.1 hf s.es[j] (List.getElem_mem a)
   simp [e] at this
  obtain ⟨m,f⟩:∃ m,n=m+1+s.es.length:=⟨n-1-s.es.length,by omega⟩
  have r:=QC n hn (Be p) s (by omega) (B9 (.rep i now c done undo w)) c rfl (-1) s.es.length (Nat.le_refl _) s.es.length (m+1) 0 (by omega) fun j a _ _=>G j a
  rw [<-f] at r
  rw [show (0:Int)=((0:Nat):Int) from rfl,r,Zav,GH,Ah (by simp)]
  have:(if undo=true then none else LC c s.es)=none:=by rw [hf];split<;>rfl
  simp only [Du,this]
  rfl
 | some e =>
  obtain ⟨t,h⟩:=KG hf
  obtain ⟨q,o,rfl⟩:=List.mem_iff_getElem.1 t
  have b:=List.pairwise_iff_getElem.1 hs.inc
  obtain ⟨m,f⟩:∃ m,n=((m+1)+(s.es.length-(q+1))+1)+q:=⟨n-1-s.es.length,by omega⟩
  have r:=QC n hn (Be p) s (by omega) (B9 (.rep i now c done undo w)) c rfl (-1) q (by omega) q ((m+1)+(s.es.length-(q+1))+1) 0 (by omega) fun j a _ y=>by have:=b j q a o y;omega
  rw [<-f] at r
  have y:=QC n hn (Be p) s (by omega) (B9 (.rep i now c done undo w)) c rfl (q:Int) s.es.length (Nat.le_refl _) (s.es.length-(q+1)) (m+1) (q+1) (by omega) fun j a y _=>by have:=b q j o a y;omega
  rw [show (0:Int)=((0:Nat):Int) from rfl,r,ZhH n hn _ s (by omega) _ c rfl _ q o h,y,Zav]
  cases hu:undo with
  | true =>
   rw [GH,Ah (by simp [B9])]
   simp only [Du]
   rfl
  | false =>
   have Y:(Aw s).slots.length=s.es.length:=by simp [Aw]
   have g:q<(Aw s).slots.length:=by omega
   have V:(Aw s).slots[q]=BS s.es[q]:=by simp [Aw]
   have O:Dw (BS s.es[q]).items 0=some (B5 s.es[q].m):=rfl
   have hd:¬ ((B9 (.rep i now c done false w)).undo||decide ((q:Int)<0))=true:=by
    rw [Af (show ¬ (q:Int)<0 by omega)];simp [B9]
   have u:=Wn hs.inc o
   rw [h] at u
   rw [GH,Ai hd,Bj g,Ae,V,O,Ae,UU s (by omega) q o,Ae,<-u]
   have f:=hs.msg _ t
   generalize s.es[q]=e at *
   have D:Du p s (.rep i now c done false w)=(if done=false then ⟨⟨s.num,s.es.filter fun x=>x.num != c⟩,none,none,[(e.m,.refused)]⟩ else if 9<w\/p.res<e.m.v+w then ⟨⟨s.num,s.es.filter fun x=>x.num != c⟩,none,none,[(e.m,.type)]⟩ else ⟨⟨s.num,s.es.filter fun x=>x.num != c⟩,some (i,e.m,w),none,[]⟩:CO):=by
    simp only [Du,Bool.false_eq_true,if_false,hf]
   rw [D]
   generalize hS:(⟨s.num,s.es.filter fun x=>x.num != c⟩:CS)=S
   cases hd:done with
   | false =>
    have z:GE n (Aw S) [] [] (Be p) (B5 e.m) (⟨#[114,101,102,117,115,101,100]⟩:ByteArray)=some ([HU (e.m,.refused)],[B5 e.m]):=ZaO n _ (Be p) rfl e.m .refused
    have d:(!(B9 (.rep i now c false false w)).done)=true:=rfl
    rw [d,Ah rfl,z]
    rfl
   | true =>
    have d:(!(B9 (.rep i now c true false w)).done)=false:=rfl
    rw [d,Ai (by decide),QR,Ai (by decide)]
    have Q:Dw (Be p).types 1=some (OU nV 9):=rfl
    have l:Gz n (OU nV 9) (B9 (.rep i now c true false w)).body=some (decide (w<=9)):=Zij n (by omega) w hw
    have z:GE n (Aw S) [] [] (Be p) (B5 e.m) (⟨#[116,121,112,101]⟩:ByteArray)=some ([HU (e.m,.type)],[B5 e.m]):=ZaO n _ (Be p) rfl e.m .type
    rw [Q,Ae,l,Ae,Ai (show ¬ (true=false) by decide)]
    by_cases c1:w<=9
    ·rw [Ag c1]
     simp only [Bool.not_true,Bool.false_eq_true,if_false]
     have E:FU n [((⟨#[98,111,100,121]⟩:ByteArray),(B5 e.m).body),((⟨#[114,101,112,108,121]⟩:ByteArray),(B9 (.rep i now c true false w)).body)]=some (XZ e.m.k e.m.v w):=ZaF n (by omega) e.m.k e.m.v w
     have U:BO n (Be p).mapping (XZ e.m.k e.m.v w) (Be p).type=_:=Zdq n (by omega) e.m.k e.m.v w p.res f.2.1 f.2.2 (by omega) hp.res
     rw [E,Ae,U,Ae]
     by_cases c2:e.m.v+w<=p.res
     ·rw [Ah c2,Ai (show ¬ (9<w\/p.res<e.m.v+w) by omega)]
      have J:(!(decide (((rV [(nK,iV e.m.k),(nV,iV ((e.m.v:Int)+(w:Int)))]),(0:Int)).2=0)))=false:=rfl
      have F:BM (B9 (.rep i now c true false w)).stamp 0=some ((i:Int)+1,[1,0]):=QO i
      have H:=ZaS n hn (B5 e.m) (KX e.m) ((i:Int)+1,[1,0]) (by simp)
      have C:Dh n (Msg.mk ((i:Int)+1,[1,0]) (B5 e.m).mass (B5 e.m).origins (B5 e.m).body) (QV e.m w)=_:=Zak n hn (Msg.mk ((i:Int)+1,[1,0]) (B5 e.m).mass (B5 e.m).origins (B5 e.m).body) ⟨show [1,0].length<=1000 by decide,(KX e.m).2.1,(KX e.m).2.2⟩ _ (Pi e.m w)
      have K:CC n (B5 e.m) (Be p).name [((i:Int)+1,[1,0])]=_:=S8 n hn e.m i
      rw [J,Ai (by decide),F,Ae,H,Ae]
      show (Dh n _ (QV e.m w)).bind _=_
      rw [C,Ae,Ah (by decide),K,Ae,Ah (by decide)]
      rfl
     ·rw [Ai c2,Ah (show (9<w\/p.res<e.m.v+w) by omega)]
      have J:(!(decide ((zV,(18:Int)).2=0)))=true:=rfl
      have Z:GE n (Aw S) [] [] (Be p) (B5 e.m) (Tz .type)=some ([HU (e.m,.type)],[B5 e.m]):=z
      rw [J,Ah rfl,Rb,Ae,Z]
      rfl
    ·rw [Af c1]
     simp only [Bool.not_false,if_true]
     rw [z,Ah (show (9<w\/p.res<e.m.v+w) by omega)]
     rfl
end Go.Proofs.YtbfenpeblbonlaaGreatDoor
