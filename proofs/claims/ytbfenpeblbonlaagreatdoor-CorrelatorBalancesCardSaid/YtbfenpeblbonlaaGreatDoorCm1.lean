/-
  Part 12 of the proof: rules and walks that the claim's last text uses.
-/
import Derived.Carry
import Derived.ChangeOld
import Derived.ChangeSlices
import Derived.Deep.DeepHandedRow
import Derived.Deep.DeepWitnessRowRef
import Derived.Lib.LaidIn
import Derived.Lib.LaidU8T
import Derived.PinnedBridge
import Derived.ProofKit
import Derived.SevenTiedAt
import Derived.SizedLaws
import Derived.Test.YtbfenpeblbonlaaGreatDoorCards
import Derived.Test.YtbfenpeblbonlaaGreatDoorTie
import Derived.Test.YtbfenpeblbonlaaGreatDoorCb1
import Derived.Test.YtbfenpeblbonlaaGreatDoorCb2
import Derived.Test.YtbfenpeblbonlaaGreatDoorCb3
import Derived.Test.YtbfenpeblbonlaaGreatDoorCb4
import Derived.Test.YtbfenpeblbonlaaGreatDoorCb5
import Derived.Test.YtbfenpeblbonlaaGreatDoorCb6
import Derived.Test.YtbfenpeblbonlaaGreatDoorCb7
import Derived.Test.YtbfenpeblbonlaaGreatDoorCb8
import Derived.Test.YtbfenpeblbonlaaGreatDoorCb9
import Derived.Test.YtbfenpeblbonlaaGreatDoorCb10
import Derived.Test.YtbfenpeblbonlaaGreatDoorCb11
set_option linter.unusedSimpArgs false
set_option linter.unusedVariables false
set_option maxRecDepth 100000
set_option maxHeartbeats 4000000
namespace Go.Ev
open Go Go.RowKit
theorem Zeu {W:World} {v u:Value} {x y:AV} (h:R W Mem.start W v x) (k:R W Mem.start W u y):RowR W Mem.start W #[v,u] [x,y]:=⟨rfl,fun i b a=>by
 have:i=0\/i=1:=by simp at a;omega
 rcases this with rfl | rfl
 ·exact h
 ·exact k⟩
end Go.Ev
namespace Go.Proofs.YtbfenpeblbonlaaGreatDoor
open Go Go.Shelf Go.ChangeShapes Go.WideShapes Go.ChangeAt Go.RowKit Go.Lib Go.Ev
open Go.ChangeMaps (open_string shut_string)
set_option maxRecDepth 100000
end Go.Proofs.YtbfenpeblbonlaaGreatDoor
namespace Go.Proofs.YtbfenpeblbonlaaGreatDoor
open Go Go.RowKit Go.Ev
theorem Zok {α:Type} {l:List α} {i:Nat} {x:α} {r:List α} (h:l.drop i=x::r):∃ hlt:i<l.length,l[i]=x/\l.drop (i+1)=r:=by
 have hlt:i<l.length:=by
  rcases Nat.lt_or_ge i l.length with q | q
  ·exact q
  ·rw [List.drop_eq_nil_of_le q] at h;cases h
 rw [List.drop_eq_getElem_cons hlt] at h
 exact ⟨hlt,(List.cons.inj h).1,(List.cons.inj h).2⟩
theorem Zoq {α:Type} {l:List α} {i:Nat} (h:l.drop i=[]) (hi:i<=l.length):i=l.length:=by
 have:=List.drop_eq_nil_iff.1 h;omega
theorem Zbl {p : CP} {s : CS} (h : s.es.length ≤ 900) (j : CI) : (Du p s j).rej.length ≤ 900 := by
  cases j with
  | msg m now => simp only [Du]; split; · simp
                 split <;> simp
  | rep i now c d u w => simp only [Du]; split; · simp
                         split; · simp
                         split <;> simp
  | clk i now =>
    have := List.length_filter_le (Hn now) s.es
    simp only [Du, List.length_map]; omega
def ZnP (b:Int):Bool :=
 (decide (b<0))||(decide (1099511627776<b))
theorem Zn6 (w0:World) (B:Ao) (Rw:Ap) (L:Aq) (a0:Int) (r:Bool) (h:ZnP a0=r) :
  ACalls Tryz.prog w0 36 [Ak a0] ⟨B,Rw,L⟩ fun x st=>x = .val (.bool r)/\st=⟨B,Rw,L⟩:=by
 rw [ZnP] at h
 refine hd [.tmp 2] Tryz.func36 Tryz.ntmps36 fun M0 W0 f c b a e d hs=>?_
 simp only [Ax]
 refine rg [0] hs ?_
 refine rg [2] hs ?_
 exact rT h hs a d
theorem Zn1 (w0:World) (B:Ao) (Rw:Ap) (L:Aq) (a0:Int) :
  ACalls Tryz.prog w0 36 [Ak a0] ⟨B,Rw,L⟩ fun x st=>x = .val (.bool (ZnP a0))/\st=⟨B,Rw,L⟩:=Zn6 w0 B Rw L a0 _ rfl
def ZiK (b:Msg):Bool :=
 ZnP b.mass
theorem Zn4 (w0:World) (B:Ao) (Rw:Ap) (L:Aq) (a0:Msg) (r:Bool) (h:ZiK a0=r) :
  ACalls Tryz.prog w0 35 [.agg (Qu a0)] ⟨B,Rw,L⟩ fun x st=>x = .val (.bool r)/\st=⟨B,Rw,L⟩:=by
 rw [ZiK] at h
 refine hd [.tmp 2] Tryz.func35 Tryz.ntmps35 fun M0 W0 e d c b g f hs=>?_
 simp only [Ax]
 exact go (tg (a:=([1],[2],()))) h hs e d c b f (q1 (Zn1 w0)) trivial
theorem ZnZ (w0:World) (B:Ao) (Rw:Ap) (L:Aq) (a0:Msg) :
  ACalls Tryz.prog w0 35 [.agg (Qu a0)] ⟨B,Rw,L⟩ fun x st=>x = .val (.bool (ZiK a0))/\st=⟨B,Rw,L⟩:=Zn4 w0 B Rw L a0 _ rfl
def ZnC (n:Nat)  : Option Int :=
 some ((-1))
def ZeU (n:Nat) (g:List Msg) (y:Msg->Option Bool):Nat->Int->Option Int
 | 0,_=>none
 | m+1,b =>
  if decide (b<(g.length:Int)) then
   (Dw g b).bind fun h =>
   (y h).bind fun q =>
   if q then
    AM
   else
    if BN (b+1) then
     (ZeU n g y m) (b+1)
    else none
  else
   ZnC n 
def ZmW (n:Nat) (b:List Msg) (g:Msg->Option Bool):Option Int :=
 ZeU n b g n 0
theorem ZnT (w0:World) (n:Nat) (B:Ao) (Rw:Ap) (L:Aq) (a0:List Msg) (fa1:FuncId) (ca1:List AV) (a1:Msg->Option Bool) (ha1:∀ (x0:Msg) r,a1 x0=some r->∀ B' rows,B <+: B'->Rw <+: rows->ACalls Tryz.prog w0 fa1 ([.agg (Qu x0)]++ca1) ⟨B',rows,L⟩ fun v s=>v = .val (.bool r)/\s=⟨B',rows,L⟩) (r:Int) (h:ZmW n a0 a1=some r) :
  ACalls Tryz.prog w0 58 [.list (a0.map Dn) .none,.clo fa1 ca1] ⟨B,Rw,L⟩ fun x st=>x=Ak r/\st=⟨B,Rw,L⟩:=by
 rw [ZmW] at h
 refine hd [.tmp 4] Tryz.func58 Tryz.ntmps58 fun M0 W0 k i g b l f hs=>?_
 simp only [Ax]
 have c:=Cc (l (.clo fa1 ca1) (by simp))
 refine rg [0,1] hs ?_
 refine AD (fun e st=>Ck e st B Rw L [] [] [] (ZnC n  = some r)) ?_ ?_
 ·intro K4 j
  refine rg [0,1,7,8] hs ?_
  apply Ar
  refine AA (fun m e st=>∃ (d:Int),Ck e st B Rw L [(0,true,.list (a0.map Dn) .none),(1,true,.clo fa1 ca1),(7,true,Ak (a0.length:Int)),(8,true,Ak d)] [] [] (ZeU n a0 a1 m d=some r)) n ⟨0,([]),Rw,ef hs,ef hs,f,h⟩ ?_
  rintro ml6 e st ⟨d,Xl6,Rl6,rfl,rfl,f,h⟩ Ul6 Vl6
  cases ml6 with
  | zero=>cases h
  | succ ml6 =>
  rw [ZeU] at h
  refine AO k i g rfl b f (H8 c f) (H8 c f) ?_
  exact go (tg (a:=([0,1,7,8,9],([0,1,7,8],[0,1,5,7,8],[0,1,5,7,8,16],((),()),[0,1,7,8],[0,1,7,8],()),[],()))) h hs k i g b f (q1 ha1) (q2 j (fun e s=>Vl6 ml6 e s (Nat.lt_succ_self _)))
 ·clear h;rintro e st ⟨Xk3,Rk3,rfl,rfl,f,h⟩
  rw [ZnC] at h
  refine AO k i g rfl b f (H8 c f) (H8 c f) ?_
  refine rg [4] hs ?_
  exact rt h hs b f
def Zgj (n:Nat) (b:List Msg) (h:Msg->Option Bool):Option Bool :=
 (ZmW n b h).bind fun g =>
 some (decide (0<=g))
theorem ZnR (w0:World) (n:Nat) (B:Ao) (Rw:Ap) (L:Aq) (a0:List Msg) (fa1:FuncId) (ca1:List AV) (a1:Msg->Option Bool) (ha1:∀ (x0:Msg) r,a1 x0=some r->∀ B' rows,B <+: B'->Rw <+: rows->ACalls Tryz.prog w0 fa1 ([.agg (Qu x0)]++ca1) ⟨B',rows,L⟩ fun v s=>v = .val (.bool r)/\s=⟨B',rows,L⟩) (r:Bool) (h:Zgj n a0 a1=some r) :
  ACalls Tryz.prog w0 34 [.list (a0.map Dn) .none,.clo fa1 ca1] ⟨B,Rw,L⟩ fun x st=>x = .val (.bool r)/\st=⟨B,Rw,L⟩:=by
 rw [Zgj] at h
 refine hd [.tmp 4] Tryz.func34 Tryz.ntmps34 fun M0 W0 o l k b j g hs=>?_
 simp only [Ax]
 have e:=Cc (j (.clo fa1 ca1) (by simp))
 refine rg [0,1] hs ?_
 obtain ⟨m,d,h⟩:=bind_some h
 refine rc 2 [4] hs ?_;intro K2 c
 refine Av _ (ZnT w0 n _ _ _ a0 fa1 ca1 a1 (fun x0 r i f a q1 q2=>ha1 x0 r i f a (List.IsPrefix.trans px q1) (g.pre.trans q2)) _ d) (hv hs) ?_
 refine ne hs c ?_
 clear c
 exact rt h hs b g
def ZnQ (n:Nat)  (b:Int):Option Int :=
 some (b)
def Zl0 (n:Nat) (q:List Msg):Nat->Int->Int->Option Int
 | 0,_,_=>none
 | m+1,g,b =>
  if decide (b<(q.length:Int)) then
   (Dw q b).bind fun h =>
   if BN (g+h.mass) then
    if BN (b+1) then
     (Zl0 n q m) (g+h.mass) (b+1)
    else none
   else none
  else
   ZnQ n g
def Zm2 (n:Nat) (b:List Msg):Option Int :=
 if decide (1024<(b.length:Int)) then
  AM
 else
  (Zgj n b (fun (g:Msg)=>some (ZiK g))).bind fun h =>
  if h then
   AM
  else
   Zl0 n b n 0 0
theorem ZnV (w0:World) (n:Nat) (B:Ao) (Rw:Ap) (L:Aq) (a0:List Msg) (r:Int) (h:Zm2 n a0=some r) :
  ACalls Tryz.prog w0 18 [.list (a0.map Dn) .none] ⟨B,Rw,L⟩ fun x st=>x=Ak r/\st=⟨B,Rw,L⟩:=by
 rw [Zm2] at h
 refine hd [.tmp 2] Tryz.func18 Tryz.ntmps18 fun M0 W0 p k j d v g hs=>?_
 simp only [Ax]
 refine rg [0] hs ?_
 apply Am;intro K2 i
 apply Am;intro K3 o
 rcases Bool.eq_false_or_eq_true (decide (1024<(a0.length:Int))) with hf4 | hf4
 ·replace h:=Cj h hf4
  exact nS h
 ·replace h:=Cm h hf4
  obtain ⟨u,hy5,h⟩:=bind_some h
  have hs:=Ad hf4 hs
  refine rk 2 [0,12] hs ?_
  refine Av _ (ZnR w0 n _ _ _ a0 35 [] (fun (x0:Msg)=>some (ZiK x0)) (fun x0 r hx w rows' t q=>by cases hx;exact ZnZ w0 _ _ _ x0) _ hy5) (hv hs) ?_
  refine ne hs o ?_
  clear o
  refine B6 h hs ?_ ?_<;>intro hs h
  ·exact nS h
  refine sk [0] hs i ?_
  clear i
  refine rg [0,3] hs ?_
  refine AD (fun e st=>∃ (f:Int),Ck e st B Rw L [(3,true,Ak f)] [] [] (ZnQ n f=some r)) ?_ ?_
  ·intro K10 l
   refine rg [3,13,14,15] hs ?_
   apply Ar
   refine AA (fun m e st=>∃ (c:Int) (b:Int),Ck e st B Rw L [(3,true,Ak c),(13,true,.list (a0.map Dn) .none),(14,true,Ak (a0.length:Int)),(15,true,Ak b)] [] [] (Zl0 n a0 m c b=some r)) n ⟨0,0,([]),Rw,ef hs,ef hs,g,h⟩ ?_
   rintro ml12 e st ⟨c,b,Xl12,Rl12,rfl,rfl,g,h⟩ Ul12 Vl12
   cases ml12 with
   | zero=>cases h
   | succ ml12 =>
   rw [Zl0] at h
   exact go (tg (a:=([3,13,14,15,16],([3,13,14,15],[3,5,13,14,15],[3,13,14,15],[3,13,14,15],()),[3],()))) h hs p k j d g trivial (q2 l (fun e s=>Vl12 ml12 e s (Nat.lt_succ_self _)))
  ·clear h;rintro e st ⟨f,Xk9,Rk9,rfl,rfl,g,h⟩
   rw [ZnQ] at h
   refine Go.Ev.td p k j d g ?_
   refine rg [2] hs ?_
   exact rt h hs d g
def Zny (n:Nat) (g:(List Msg)->Int->Option ((List Msg))) (b:Int) (h:List Msg):Option ((List Msg)) :=
 if BN (b+1) then
  g h (b+1)
 else none
def ZnD (n:Nat)  (b:List Msg):Option ((List Msg)) :=
 some (b)
def Zkn (n:Nat) (h:(List Msg)->Int->Option ((List Msg))) (q:Int) (y:Slt):Nat->(List Msg)->Int->Option ((List Msg))
 | 0,_,_=>none
 | m+1,g,b =>
  if decide (b<(y.items.length:Int)) then
   (Dw y.items b).bind fun x23 =>
   (DV n x23).bind fun y24 =>
   if (g.length+1)*152<=140737488355328/\g.length+1<=4611686018427387904 then
    if BN (b+1) then
     (Zkn n h q y m) (g++([y24])) (b+1)
    else none
   else none
  else
   Zny n h q g
def Zfi (n:Nat) (h:Stt):Nat->(List Msg)->Int->Option ((List Msg))
 | 0,_,_=>none
 | m+1,g,b =>
  if decide (b<(h.slots.length:Int)) then
   (Dw h.slots b).bind fun q =>
   Zkn n (Zfi n h m) b q n g 0
  else
   ZnD n g
def ZnO (n:Nat) (b:Stt):Option ((List Msg)) :=
 Zfi n b n ([]) 0
theorem Zn5 (w0:World) (n:Nat) (B:Ao) (Rw:Ap) (L:Aq) (a0:Stt) (r:(List Msg)) (h:ZnO n a0=some r) :
  ACalls Tryz.prog w0 16 [.agg (Dx a0)] ⟨B,Rw,L⟩ fun x st=>x = .list (r.map Dn) .none/\st=⟨B,Rw,L⟩:=by
 rw [ZnO] at h
 refine hd [.tmp 2] Tryz.func16 Tryz.ntmps16 fun M0 W0 F w v q N t hs=>?_
 simp only [Ax]
 refine rg [1] hs ?_
 refine rg [1,3] hs ?_
 refine AD (fun e st=>∃ (o:List Msg) (p:Ev.Own),Ck e st B Rw L [(3,true,.list (o.map Dn) p)] [Dx a0] [(10,o.length,p)] (ZnD n o=some r)) ?_ ?_
 ·intro K5 G
  refine rg [3,9,10,11] hs ?_
  apply Ar
  refine AA (fun m e st=>∃ (d:List Msg) (b:Int) (c:Ev.Own),Ck e st B Rw L [(3,true,.list (d.map Dn) c),(9,true,.list (a0.slots.map AZ) .none),(10,true,Ak (a0.slots.length:Int)),(11,true,Ak b)] [Dx a0] [(10,d.length,c)] (Zfi n a0 m d b=some r)) n ⟨([]),0,.full,([]),Rw,ef hs,ef hs,Owns.of_eq ((t).full 10 0) Fh,h⟩ ?_
  rintro ml7 e st ⟨d,b,c,Xl7,Rl7,rfl,rfl,t,h⟩ Ul7 Vl7
  cases ml7 with
  | zero=>cases h
  | succ ml7 =>
  rw [Zfi] at h
  have K:=t.unders
  simp only [List.mem_cons,List.not_mem_nil,or_false,forall_eq_or_imp,forall_eq] at K
  refine Go.Ev.td F w v q t ?_
  refine rg [3,9,10,11,12] hs ?_
  apply Am;intro K9 D
  refine B6 h hs ?_ ?_<;>intro hs h
  rotate_left
  ·refine sx [3] hs G ?_
   exact ⟨d,c,([]),Rl7,ef hs,ef hs,Owns.of_eq (t) Fh,h⟩
  refine sk [3,9,10,11] hs D ?_
  clear D
  refine AD (fun e st=>∃ (i:List Msg) (k:Ev.Own),Ck e st B Rw L [(3,true,.list (i.map Dn) k),(9,true,.list (a0.slots.map AZ) .none),(10,true,Ak (a0.slots.length:Int)),(11,true,Ak b)] [Dx a0] [(10,i.length,k)] (Zny n (Zfi n a0 ml7) b i=some r)) ?_ ?_
  ·intro K13 C
   apply Ar
   obtain ⟨u,E,h⟩:=bind_some h
   obtain ⟨J,H,z⟩:=Bo E
   have y:=Bz (f:=AZ) z
   have hs:=Ad y hs
   refine rg [3,5,9,10,11] hs ?_
   refine rg [3,9,10,11,16,17,18] hs ?_
   apply Ar
   refine AA (fun m e st=>∃ (g:List Msg) (l:Int) (j:Ev.Own),Ck e st B Rw L [(3,true,.list (g.map Dn) j),(9,true,.list (a0.slots.map AZ) .none),(10,true,Ak (a0.slots.length:Int)),(11,true,Ak b),(16,true,.list (u.items.map Dn) .none),(17,true,Ak (u.items.length:Int)),(18,true,Ak l)] [Dx a0,O4 u] [(10,g.length,j)] (Zkn n (Zfi n a0 ml7) b u m g l=some r)) n ⟨d,0,c,([]),Rl7,ef hs,ef hs,Owns.of_eq (t) Fh,h⟩ ?_
   rintro ml17 e st ⟨g,l,j,Xl17,Rl17,rfl,rfl,t,h⟩ Ul17 Vl17
   cases ml17 with
   | zero=>cases h
   | succ ml17 =>
   rw [Zkn] at h
   exact go (tg (a:=([3,9,10,11,16,17,18,19],([3,9,10,11,16,17,18],[3,7,9,10,11,16,17,18],[3,9,10,11,16,17,18],[3,9,10,11,16,17,18],()),[3,9,10,11],()))) h hs F w v q t (q2 (ae Z8 U4) (Gk w0 n)) (q2 C (fun e s=>Vl17 ml17 e s (Nat.lt_succ_self _)))
  ·clear h;rintro e st ⟨i,k,Xk12,Rk12,rfl,rfl,t,h⟩
   rw [Zny] at h
   exact go (tg (a:=([3,9,10,11],()))) h hs F w v q t trivial (q1 (fun e s=>Vl7 ml7 e s (Nat.lt_succ_self _)))
 ·clear h;rintro e st ⟨o,p,Xk4,Rk4,rfl,rfl,t,h⟩
  rw [ZnD] at h
  exact go (tg (a:=([2],()))) h hs F w v q t trivial trivial
def ZnF (n:Nat) (b:Stt):Option Int :=
 (ZnO n b).bind fun g =>
 (Zm2 n g).bind fun h =>
 some (h)
theorem Zof (w0:World) (n:Nat) (B:Ao) (Rw:Ap) (L:Aq) (a0:Stt) (r:Int) (h:ZnF n a0=some r) :
  ACalls Tryz.prog w0 17 [.agg (Dx a0)] ⟨B,Rw,L⟩ fun x st=>x=Ak r/\st=⟨B,Rw,L⟩:=by
 rw [ZnF] at h
 refine hd [.tmp 2] Tryz.func17 Tryz.ntmps17 fun M0 W0 e d c b g f hs=>?_
 simp only [Ax]
 exact go (tg (a:=([1],[2],()))) h hs e d c b f (q2 (Zn5 w0 n) (ZnV w0 n)) trivial
theorem ZoH (n:Nat) (hn:100000<=n) (again:List Msg->Int->Option (List Msg)) (x:Int) (e:CE) (acc:List Msg) (ha:acc.length<=1000) (m:Nat) :
  Zkn n again x (BS e) (m+2) acc 0=Zny n again x (acc++[B5 e.m]):=by
 have c:Dw (BS e).items 0=some (B5 e.m):=rfl
 have b:decide ((0:Int)<((BS e).items.length:Int))=true:=rfl
 have a:decide ((0:Int)+1<((BS e).items.length:Int))=false:=rfl
 rw [Zkn,b,Ah rfl,c,Ae,Qz n hn _ (KX _),Ae,Ab,Ah (by unfold BN;omega),Zkn,a,Ai (by decide)]
theorem ZoF (n:Nat) (hn:100000<=n) (s:CS) (hl:s.es.length<=900):∀ (k m i:Nat),i+k=s.es.length->k<m->Zfi n (Aw s) m ((s.es.take i).map fun e=>B5 e.m) (i:Int)=some (s.es.map fun e=>B5 e.m)
 | k,0,i,_,h=>absurd h (Nat.not_lt_zero _)
 | 0,m+1,i,hi,_=>by
  have a:(Aw s).slots.length=s.es.length:=by simp [Aw]
  rw [Zfi,a,A4,Ac,Ai (by decide),ZnD,List.take_of_length_le (by omega)]
 | k+1,m+1,i,hi,hm=>by
  have c:i<s.es.length:=by omega
  have a:(Aw s).slots.length=s.es.length:=by simp [Aw]
  have d:i<(Aw s).slots.length:=by omega
  have f:(Aw s).slots[i]=BS s.es[i]:=by simp [Aw]
  obtain ⟨q,hq⟩:∃ q,n=q+2:=⟨n-2,by omega⟩
  have b:=ZoH n hn (Zfi n (Aw s) m) (i:Int) s.es[i] ((s.es.take i).map fun e=>B5 e.m) (by rw [List.length_map,List.length_take];omega) q
  rw [<-hq] at b
  rw [Zfi,a,A4,Ag c,Ah rfl,Bj d,Ae,f,b,Zny,Ah (A8 (by omega))]
  have ih:=ZoF n hn s hl k m (i+1) (by omega) (by omega)
  rw [<-List.take_append_getElem c,List.map_append] at ih
  exact ih
theorem Zom (n:Nat) (hn:100000<=n) (s:CS) (hl:s.es.length<=900):ZnO n (Aw s)=some (s.es.map fun e=>B5 e.m) :=
 ZoF n hn s hl s.es.length n 0 (by omega) (by omega)
def ZdH:List CM->Int
 | []=>0
 | m::l=>100+(m.i:Int)+ZdH l
theorem ZnU:∀ a b:List CM,ZdH (a++b)=ZdH a+ZdH b
 | [],b=>(Int.zero_add _).symm
 | x::a,b=>by
  show 100+(x.i:Int)+ZdH (a++b)=100+(x.i:Int)+ZdH a+ZdH b
  rw [ZnU a b];omega
theorem ZnW:∀ l:List CM,(∀ m∈l,m.i<=900)->0<=ZdH l/\ZdH l<=1000*(l.length:Int)
 | [],_=>⟨Int.le_refl _,by simp [ZdH]⟩
 | x::l,h=>by
  have:=ZnW l fun m a=>h m (List.mem_cons_of_mem _ a)
  have:=h x (List.mem_cons_self ..)
  rw [ZdH,List.length_cons]
  omega
theorem Zor (m:CM) (h:m.i<=900):ZiK (B5 m)=false:=by
 have e:ZiK (B5 m)=(decide (100+(m.i:Int)<0)||decide (1099511627776<100+(m.i:Int))):=rfl
 rw [e,Ac,Ac];rfl
theorem Zoj (n:Nat) (l:List Msg) (f:Msg->Option Bool) (hf:∀ x∈l,f x=some false) (hl:l.length<=1000000000):∀ (k m i:Nat),i+k=l.length->k<m->ZeU n l f m i=some (-1)
 | k,0,i,_,h=>absurd h (Nat.not_lt_zero _)
 | 0,m+1,i,hi,_=>by
  rw [ZeU,A4,Ac,Ai (by decide)]
  rfl
 | k+1,m+1,i,hi,hm=>by
  have a:i<l.length:=by omega
  rw [ZeU,A4,Ag a,Ah rfl,Bj a,Ae,hf _ (List.getElem_mem a),Ae,Ai (by decide),Ah (A8 (by omega))]
  exact Zoj n l f hf hl k m (i+1) (by omega) (by omega)
theorem Zov (n:Nat) (hn:10000<=n) (l:List Msg) (f:Msg->Option Bool) (hf:∀ x∈l,f x=some false) (hl:l.length<=1000):Zgj n l f=some false:=by
 have e:ZeU n l f n 0=some (-1):=Zoj n l f hf (by omega) l.length n 0 (by omega) (by omega)
 rw [Zgj,ZmW,e]
 rfl
theorem Zol (n:Nat) (l:List CM) (hl:l.length<=900) (hi:∀ m∈l,m.i<=900):∀ (k m i:Nat),i+k=l.length->k<m->Zl0 n (l.map B5) m (ZdH (l.take i)) (i:Int)=some (ZdH l)
 | k,0,i,_,h=>absurd h (Nat.not_lt_zero _)
 | 0,m+1,i,hik,_=>by
  rw [Zl0,List.length_map,A4,Ac,Ai (by decide),ZnQ,List.take_of_length_le (by omega)]
 | k+1,m+1,i,hik,c=>by
  have a:i<l.length:=by omega
  have ih:=Zol n l hl hi k m (i+1) (by omega) (by omega)
  have b:=ZnW (l.take i) fun m c=>hi m (List.mem_of_mem_take c)
  rw [List.length_take] at b
  have d:=hi _ (List.getElem_mem a)
  rw [<-List.take_append_getElem a,ZnU] at ih
  have e:ZdH (l.take i)+ZdH [l[i]]=ZdH (l.take i)+(B5 l[i]).mass:=by
   show ZdH (l.take i)+(100+(l[i].i:Int)+0)=ZdH (l.take i)+(100+(l[i].i:Int));omega
  rw [e] at ih
  rw [Zl0,List.length_map,A4,Ag a,Ah rfl,Bj (by rw [List.length_map];exact a),Ae,List.getElem_map,Ah (by show BN (ZdH (l.take i)+(100+(l[i].i:Int)));unfold BN;omega),Ah (A8 (by omega))]
  exact ih
theorem Zoo (n:Nat) (hn:100000<=n) (l:List CM) (hl:l.length<=900) (hi:∀ m∈l,m.i<=900):Zm2 n (l.map B5)=some (ZdH l):=by
 have c:decide ((1024:Int)<(((l.map B5).length:Nat):Int))=false:=Af (by rw [List.length_map];omega)
 have d:=Zov n (by omega) (l.map B5) (fun (x0:Msg)=>some (ZiK x0)) (fun x b=>by
  obtain ⟨m,a,rfl⟩:=List.mem_map.1 b
  rw [Zor m (hi m a)]) (by rw [List.length_map];omega)
 rw [Zm2,c,Ai (by decide),d,Ae,Ai (by decide)]
 exact Zol n l hl hi l.length n 0 (by omega) (by omega)
theorem Zog (n:Nat) (hn:100000<=n) (s:CS) (hl:s.es.length<=900) (hi:∀ e∈s.es,e.m.i<=900):ZnF n (Aw s)=some (ZdH (s.es.map (·.m))):=by
 have h:=Zoo n hn (s.es.map (·.m)) (by rw [List.length_map];exact hl) (fun m a=>by
  obtain ⟨e,b,rfl⟩:=List.mem_map.1 a
  exact hi e b)
 rw [List.map_map] at h
 rw [ZnF,Zom n hn s hl,Ae]
 have h:Zm2 n (s.es.map fun e=>B5 e.m)=some (ZdH (s.es.map (·.m))):=h
 rw [h];rfl
def ZkM (n:Nat) (b:Int->Int->Option Bool) (g:Int) (h:Int):Option Bool :=
 if BN (g+1) then
  b h (g+1)
 else none
def ZmX (n:Nat)  : Option Bool :=
 some (true)
def Zgb (n:Nat) (g:Int->Int->Option Bool) (q:Int) (h:Int) (x32:Otc) (y33:Int) (b:Int):Option Bool :=
 (Zm2 n x32.letters).bind fun y =>
 if BN (b+y) then
  if !(decide (h=(b+y))) then
   AM
  else
   ZkM n g q y33
 else none
def Zde (n:Nat) (g:Int->Int->Option Bool) (y:Int) (q:Int) (x32:Otc) (y33:Int):Nat->Int->Int->Option Bool
 | 0,_,_=>none
 | m+1,h,b =>
  if decide (b<(x32.outputs.length:Int)) then
   (Dw x32.outputs b).bind fun x44 =>
   if BN (h+x44.2.mass) then
    if BN (b+1) then
     (Zde n g y q x32 y33 m) (h+x44.2.mass) (b+1)
    else none
   else none
  else
   Zgb n g y q x32 y33 h
def ZeX (n:Nat) (b:Int->Int->Option Bool) (y10:(List Otc)) (g:Int) (h:Int):Option Bool :=
 (Dw y10 g).bind fun y =>
 (ZnF n y.state).bind fun q =>
 Zde n b g h y q n q 0
def ZaJ (n:Nat) (y:(List Inp)) (h:(List Otc)):Nat->Int->Int->Option Bool
 | 0,_,_=>none
 | m+1,g,b =>
  if decide (b<(y.length:Int)) then
   (Dw y b).bind fun q =>
   if decide (q.kind=1) then
    if BN (g+q.message.mass) then
     ZeX n (ZaJ n y h m) h b (g+q.message.mass)
    else none
   else
    ZeX n (ZaJ n y h m) h b g
  else
   ZmX n 
def Zmr (n:Nat) (q:Int × Int × Int × Int) (a1:List (Int × Int × Int × Int)):Option Bool :=
 (Lq n ).bind fun h =>
 if !h then
  AM
 else
  (IP n a1).bind fun g =>
  (DK q).bind fun y =>
  (MQ n y g).bind fun b =>
  ZaJ n g b n 0 0
theorem ZnS (w0:World) (hE:QU w0) (hM:Qx w0) (hP:Pow10 w0) (hT:Lib.Utf8Tabs 1 2 w0) (n:Nat) (B:Ao) (Rw:Ap) (L:Aq) (a0:Int × Int × Int × Int) (a1:List (Int × Int × Int × Int)) (r:Bool) (h:Zmr n a0 a1=some r) :
  ACalls Tryz.prog w0 5 [.agg (.val (.int .u8 a0.1)::(.val (.int .u8 a0.2.1)::(.val (.int .u8 a0.2.2.1)::([.val (.int .u8 a0.2.2.2)])))),.list (a1.map QH) .none] ⟨B,Rw,L⟩ fun x st=>x = .val (.bool r)/\st=⟨B,Rw,L⟩:=by
 rw [Zmr] at h
 refine hd [.tmp 4] Tryz.func5 Tryz.ntmps5 fun M0 W0 E t q d hu p hs=>?_
 simp only [Ax]
 refine rg [1,2] hs ?_
 apply Am;intro K2 K
 obtain ⟨y4,ad,h⟩:=bind_some h
 refine rc 2 [1,2,13] hs ?_;intro K3 Y
 refine Av _ (Xt w0 hE hM hP hT n _ _ _  _ ad) (hv hs) ?_
 refine ne hs Y ?_
 clear Y
 refine B6 h hs ?_ ?_<;>intro hs h
 ·exact nS h
 refine sk [1,2] hs K ?_
 clear K
 obtain ⟨v,aa,h⟩:=bind_some h
 refine rc 2 [2,5] hs ?_;intro K6 H
 refine Av _ (PO w0 n _ _ _ a1 _ aa) (hv hs) ?_
 refine ne hs H ?_
 clear H
 obtain ⟨y9,ab,h⟩:=bind_some h
 obtain ⟨j,F,h⟩:=bind_some h
 refine rc 3 [5,6] hs ?_;intro K8 V
 refine Av _ (Ie w0 _ _ _ a0 _ ab) (hv hs) ?_
 refine nc hs ?_
 refine Av _ (U9 w0 hE hM hP hT n _ _ _ y9 v _ F) (hv hs) ?_
 refine ne hs V ?_
 clear V
 refine rg [5,6,7] hs ?_
 refine AD (fun e st=>Ck e st B Rw L [] [.val (.int .u8 a0.1)::(.val (.int .u8 a0.2.1)::(.val (.int .u8 a0.2.2.1)::([.val (.int .u8 a0.2.2.2)])))] [] (ZmX n  = some r)) ?_ ?_
 ·intro K14 J
  refine rg [5,6,7,8] hs ?_
  apply Ar
  refine AA (fun m e st=>∃ (o:Int) (b:Int),Ck e st B Rw L [(5,true,.list (v.map NA) .none),(6,true,.list (j.map NJ) .none),(7,true,Ak o),(8,true,Ak b)] [.val (.int .u8 a0.1)::(.val (.int .u8 a0.2.1)::(.val (.int .u8 a0.2.2.1)::([.val (.int .u8 a0.2.2.2)])))] [] (ZaJ n v j m o b=some r)) n ⟨0,0,([]),Rw,ef hs,ef hs,p,h⟩ ?_
  rintro ml16 e st ⟨o,b,Xl16,Rl16,rfl,rfl,p,h⟩ Ul16 Vl16
  cases ml16 with
  | zero=>cases h
  | succ ml16 =>
  rw [ZaJ] at h
  refine Go.Ev.td E t q d p ?_
  apply Am;intro K17 w
  refine rg [5,6,7,8,23] hs ?_
  refine B6 h hs ?_ ?_<;>intro hs h
  rotate_left
  ·refine sx [] hs J ?_
   exact ⟨([]),Rl16,ef hs,ef hs,p,h⟩
  refine sk [5,6,7,8] hs w ?_
  clear w
  refine AD (fun e st=>∃ (l:Int),Ck e st B Rw L [(5,true,.list (v.map NA) .none),(6,true,.list (j.map NJ) .none),(7,true,Ak l),(8,true,Ak b)] [.val (.int .u8 a0.1)::(.val (.int .u8 a0.2.1)::(.val (.int .u8 a0.2.2.1)::([.val (.int .u8 a0.2.2.2)])))] [] (ZkM n (ZaJ n v j ml16) b l=some r)) ?_ ?_
  ·intro K22 U
   apply Ar
   refine rg [5,6,8,9] hs ?_
   refine AD (fun e st=>∃ (c:Int),Ck e st B Rw L [(5,true,.list (v.map NA) .none),(6,true,.list (j.map NJ) .none),(8,true,Ak b),(9,true,Ak c)] [.val (.int .u8 a0.1)::(.val (.int .u8 a0.2.1)::(.val (.int .u8 a0.2.2.1)::([.val (.int .u8 a0.2.2.2)])))] [] (ZeX n (ZaJ n v j ml16) j b c=some r)) ?_ ?_
   ·intro K26 N
    exact go (tg (a:=([5,6,8,9,32],([5,6,8,9],()),[5,6,8,9],()))) h hs E t q d p trivial (q1 N)
   ·clear h;rintro e st ⟨c,Xk25,Rk25,rfl,rfl,p,h⟩
    rw [ZeX] at h
    refine Go.Ev.td E t q d p ?_
    obtain ⟨D,Q,h⟩:=bind_some h
    obtain ⟨Z,ae,z⟩:=Bo Q
    have C:=Bz (f:=NJ) z
    obtain ⟨u,O,h⟩:=bind_some h
    have hs:=Ad C hs
    refine rc 2 [5,6,8,9,10] hs ?_;intro K31 y
    refine Av _ (Zof w0 n _ _ _ D.state _ O) (hv hs) ?_
    refine ne hs y ?_
    clear y
    refine rg [5,6,7,8,9,10] hs ?_
    refine AD (fun e st=>∃ (g:Int),Ck e st B Rw L [(5,true,.list (v.map NA) .none),(6,true,.list (j.map NJ) .none),(7,true,Ak u),(8,true,Ak b),(9,true,Ak c),(10,true,Ak g)] [.val (.int .u8 a0.1)::(.val (.int .u8 a0.2.1)::(.val (.int .u8 a0.2.2.1)::([.val (.int .u8 a0.2.2.2)])))] [] (Zgb n (ZaJ n v j ml16) b c D u g=some r)) ?_ ?_
    ·intro K37 G
     refine rg [5,6,7,8,9,10,11] hs ?_
     apply Ar
     refine AA (fun m e st=>∃ (k:Int) (i:Int),Ck e st B Rw L [(5,true,.list (v.map NA) .none),(6,true,.list (j.map NJ) .none),(7,true,Ak u),(8,true,Ak b),(9,true,Ak c),(10,true,Ak k),(11,true,Ak i)] [.val (.int .u8 a0.1)::(.val (.int .u8 a0.2.1)::(.val (.int .u8 a0.2.2.1)::([.val (.int .u8 a0.2.2.2)])))] [] (Zde n (ZaJ n v j ml16) b c D u m k i=some r)) n ⟨u,0,([]),Rk25,ef hs,ef hs,p,h⟩ ?_
     rintro ml39 e st ⟨k,i,Xl39,Rl39,rfl,rfl,p,h⟩ Ul39 Vl39
     cases ml39 with
     | zero=>cases h
     | succ ml39 =>
     rw [Zde] at h
     exact go (tg (a:=([5,6,7,8,9,10,11,55],([5,6,7,8,9,10,11],[5,6,7,8,9,10,11],[5,6,7,8,9,10,11],()),[5,6,7,8,9,10],()))) h hs E t q d p trivial (q2 G (fun e s=>Vl39 ml39 e s (Nat.lt_succ_self _)))
    ·clear h;rintro e st ⟨g,Xk36,Rk36,rfl,rfl,p,h⟩
     rw [Zgb] at h
     exact go (tg (a:=([5,6,7,8,79],((),()),[5,6,7,8],()))) h hs E t q d p (q1 (ZnV w0 n)) (q1 U)
  ·clear h;rintro e st ⟨l,Xk21,Rk21,rfl,rfl,p,h⟩
   rw [ZkM] at h
   exact go (tg (a:=([5,6,7,8],()))) h hs E t q d p trivial (q1 (fun e s=>Vl16 ml16 e s (Nat.lt_succ_self _)))
 ·clear h;rintro e st ⟨Xk13,Rk13,rfl,rfl,p,h⟩
  rw [ZmX] at h
  refine Go.Ev.td E t q d p ?_
  refine rg [4] hs ?_
  exact rt h hs d p
def Zod:CI->Int
 | .msg m _=>100+(m.i:Int)
 | _=>0
def ZnX (o:CO):Int:=match o.out with
 | none=>0
 | some x=>100+(x.2.1.i:Int)
theorem Zn3 (q:CE->Bool):∀ es:List CE,ZdH (es.map (·.m))=ZdH ((es.filter fun e => !q e).map (·.m))+ZdH ((es.filter q).map (·.m))
 | []=>rfl
 | e::es=>by
  have ih:=Zn3 q es
  cases h:q e with
  | true =>
   rw [List.filter_cons_of_pos h,List.filter_cons_of_neg (by simp [h]),List.map_cons,List.map_cons,ZdH,ZdH,ih];omega
  | false =>
   rw [List.filter_cons_of_neg (p:=q) (by simp [h]),List.filter_cons_of_pos (p:=fun e => !q e) (by simp [h]),List.map_cons,List.map_cons,ZdH,ZdH,ih];omega
theorem Zos {es:List CE} (hi:es.Pairwise fun a b=>a.num<b.num) {c:Nat} {e:CE} (h:LC c es=some e):ZdH (es.map (·.m))=ZdH ((es.filter fun x=>x.num != c).map (·.m))+(100+(e.m.i:Int)):=by
 obtain ⟨g,j⟩:=KG h
 obtain ⟨p,f,rfl⟩:=List.mem_iff_getElem.1 g
 have d:=Wn hi f
 rw [j] at d
 rw [d]
 have l:es=es.take p++es[p]::es.drop (p+1):=by rw [List.getElem_cons_drop,List.take_append_drop]
 have k:ZdH (es.map (·.m))=ZdH ((es.take p++es[p]::es.drop (p+1)).map (·.m)):=by rw [<-l]
 rw [k,List.map_append,List.map_append,ZnU,ZnU,List.map_cons,ZdH];omega
theorem ZoE {p:CP} {s:CS} (hi:s.es.Pairwise fun a b=>a.num<b.num) (j:CI):ZdH (s.es.map (·.m))+Zod j=ZdH ((Du p s j).st.es.map (·.m))+ZnX (Du p s j)+ZdH ((Du p s j).rej.map (·.1)):=by
 cases j with
 | msg m t =>
  simp only [Du]
  split
  ·show ZdH (s.es.map (·.m))+(100+(m.i:Int))=ZdH (s.es.map (·.m))+0+(100+(m.i:Int)+0);omega
  ·split
   ·show ZdH (s.es.map (·.m))+(100+(m.i:Int))=ZdH (s.es.map (·.m))+0+(100+(m.i:Int)+0);omega
   ·simp only [List.map_append,ZnU]
    show ZdH (s.es.map (·.m))+(100+(m.i:Int))=ZdH (s.es.map (·.m))+(100+(m.i:Int)+0)+0+0;omega
 | rep i t c d u w =>
  simp only [Du]
  split
  ·show ZdH (s.es.map (·.m))+0=ZdH (s.es.map (·.m))+0+0;omega
  ·rename_i e he
   have f:LC c s.es=some e:=by
    cases u with
    | true=>simp at he
    | false=>simpa using he
   have g:=Zos hi f
   split
   ·show ZdH (s.es.map (·.m))+0=ZdH ((s.es.filter fun x=>x.num != c).map (·.m))+0+(100+(e.m.i:Int)+0);omega
   ·split
    ·show ZdH (s.es.map (·.m))+0=ZdH ((s.es.filter fun x=>x.num != c).map (·.m))+0+(100+(e.m.i:Int)+0);omega
    ·show ZdH (s.es.map (·.m))+0=ZdH ((s.es.filter fun x=>x.num != c).map (·.m))+(100+(e.m.i:Int))+0;omega
 | clk i t =>
  have h:=Zn3 (Hn t) s.es
  simp only [Du,List.map_map]
  show ZdH (s.es.map (·.m))+0=ZdH ((s.es.filter fun e => !Hn t e).map (·.m))+0+ZdH ((s.es.filter (Hn t)).map (·.m));omega
theorem ZoA (n:Nat) (again:Int->Int->Option Bool) (x8 x9 y:Int) (o:CO) (hy:0<=y/\y<=1000000000) (hi:∀ x,o.out=some x->x.2.1.i<=900) (m:Nat):Zde n again x8 x9 (Hi o) y (m+2) y 0=Zgb n again x8 x9 (Hi o) y (y+ZnX o):=by
 obtain ⟨st,out,b,a⟩:=o
 cases out with
 | none =>
  have c:decide ((0:Int)<((Hi ⟨st,none,b,a⟩).outputs.length:Int))=false:=rfl
  have d:y+ZnX ⟨st,none,b,a⟩=y:=Int.add_zero y
  rw [Zde,c,Ai (by decide),d]
 | some x =>
  have g:=hi x rfl
  have c:decide ((0:Int)<((Hi ⟨st,some x,b,a⟩).outputs.length:Int))=true:=rfl
  have e:decide ((0:Int)+1<((Hi ⟨st,some x,b,a⟩).outputs.length:Int))=false:=rfl
  have f:Dw (Hi ⟨st,some x,b,a⟩).outputs 0=some ((0:Int),Msg.mk ((x.1:Int)+1,[1,0]) (100+(x.2.1.i:Int)) [(x.2.1.i:Int)+1] (rV [(nK,iV x.2.1.k),(nV,iV ((x.2.1.v:Int)+(x.2.2:Int)))])):=rfl
  rw [Zde,c,Ah rfl,f,Ae,Ah (by show BN (y+(100+(x.2.1.i:Int)));unfold BN;omega),Ah (by unfold BN;omega),Zde,e,Ai (by decide)]
  rfl
theorem Zot {p:CP} {now:Int} {k:Nat} {s:CS} (h:s.ok p now k) (hk:k<=500) {j:CI} (hj:j.ok k):(∀ x,(Du p s j).out=some x->x.2.1.i<=900)/\∀ m∈(Du p s j).rej.map (·.1),m.i<=900:=by
 have a:∀ e∈s.es,e.m.i<=900:=fun e he=>by have:=(h.msg e he).1;omega
 cases j with
 | msg m t =>
  have:m.i=k:=hj.1
  have h1:∀ x∈[m],x.i<=900:=fun x hx=>by rw [List.mem_singleton.1 hx];omega
  simp only [Du]
  split
  ·exact ⟨(fun x hx=>by cases hx),h1⟩
  ·split
   ·exact ⟨(fun x hx=>by cases hx),h1⟩
   ·exact ⟨(fun x hx=>by cases hx),fun x hx=>by cases hx⟩
 | rep i t c d u w =>
  simp only [Du]
  split
  ·exact ⟨(fun x hx=>by cases hx),fun x hx=>by cases hx⟩
  ·rename_i e he
   have b:LC c s.es=some e:=by
    cases u with
    | true=>simp at he
    | false=>simpa using he
   have hq:=a e (KG b).1
   have h1:∀ x∈[e.m],x.i<=900:=fun x hx=>by rw [List.mem_singleton.1 hx];exact hq
   split
   ·exact ⟨(fun x hx=>by cases hx),h1⟩
   ·split
    ·exact ⟨(fun x hx=>by cases hx),h1⟩
    ·exact ⟨(fun x hx=>by cases hx;exact hq),fun x hx=>by cases hx⟩
 | clk i t =>
  simp only [Du,List.map_map]
  refine ⟨(fun x hx=>by cases hx),fun m hm2=>?_⟩
  obtain ⟨e,he,rfl⟩:=List.mem_map.1 hm2
  exact a e (List.mem_filter.1 he).1
theorem Zoh (o:CO):(Hi o).letters=(o.rej.map (·.1)).map B5:=by
 show (o.rej.map fun r=>B5 r.1)=_
 rw [List.map_map];rfl
theorem ZoC (n:Nat) (hn:100000<=n) (p:CP) (hp:p.ok) (again:Int->Int->Option Bool) (outs:List Otc) (i:Nat) (hi:i<=40) (s:CS) {now:Int} (hs:s.ok p now i) (j:CI) (hj:j.ok i) (hjn:now<=j.now) (hlo:i<outs.length) (ho:outs[i]=Hi (Du p s j)) :
  ZeX n again outs (i:Int) (ZdH (s.es.map (·.m))+Zod j)=again (ZdH ((Du p s j).st.es.map (·.m))) ((i+1:Nat):Int):=by
 have a:=Yn hp hs hj hjn
 obtain ⟨l,h⟩:=Zot hs (by omega) hj
 have w:=hs.len
 have t:=a.len
 have k:=hp.lim
 have c:∀ e∈(Du p s j).st.es,e.m.i<=900:=fun e f=>by have:=(a.msg e f).1;omega
 have y:(Du p s j).rej.length<=900:=Zbl (by omega) j
 have v:=ZoE (p:=p) hs.inc j
 have r:=ZnW ((Du p s j).st.es.map (·.m)) fun m o=>by
  obtain ⟨e,f,rfl⟩:=List.mem_map.1 o
  exact c e f
 rw [List.length_map] at r
 have u:=ZnW _ h
 rw [List.length_map] at u
 have z:0<=ZnX (Du p s j)/\ZnX (Du p s j)<=1000:=by
  unfold ZnX
  split
  ·omega
  ·rename_i x hx
   have:=l x hx
   omega
 have d:ZnF n (Hi (Du p s j)).state=some (ZdH ((Du p s j).st.es.map (·.m))):=Zog n hn (Du p s j).st (by omega) c
 have g:=Zoo n hn _ (by rw [List.length_map];exact y) h
 obtain ⟨q,hq⟩:∃ q,n=q+2:=⟨n-2,by omega⟩
 have b:=ZoA n again (i:Int) (ZdH (s.es.map (·.m))+Zod j) (ZdH ((Du p s j).st.es.map (·.m))) (Du p s j) (by omega) l q
 rw [<-hq] at b
 rw [ZeX,Bj hlo,Ae,ho,d,Ae,b,Zgb,Zoh,g,Ae,Ah (by unfold BN;omega),Ag v,Ai (by decide),ZkM,Ah (A8 (by omega))]
 rfl
theorem Zon (n:Nat) (hn:100000<=n) (p:CP) (hp:p.ok) (js:List CI) (hjs:js.length<=40) (outs:List Otc):∀ (l:List CI) (m i:Nat) (s:CS) (now:Int),js.drop i=l->i<=js.length->outs.drop i=(ZZ p s l).map Hi->s.ok p now i->VW now i l->l.length<m ->
  ZaJ n (js.map B9) outs m (ZdH (s.es.map (·.m))) (i:Int)=some true
 | l,0,_,_,_,_,_,_,_,_,h=>absurd h (Nat.not_lt_zero _)
 | [],m+1,i,s,now,hd,hi,ho,hs,hch,r=>by
  have:=Zoq hd hi
  rw [ZaJ,List.length_map,A4,Ac,Ai (by decide)]
  rfl
 | j::l,m+1,i,s,now,hd,hi,ho,hs,hch,r=>by
  obtain ⟨g,H,D⟩:=Zok hd
  obtain ⟨E,C,v⟩:=Zok (show outs.drop i=Hi (Du p s j)::(ZZ p (Du p s j).st l).map Hi from ho)
  obtain ⟨y,N,F,Q,J⟩:=hch
  have z:=Yn hp hs y F
  have o:=ZoC n hn p hp (ZaJ n (js.map B9) outs m) outs i (by omega) s hs j y F E C
  have ih:=Zon n hn p hp js hjs outs l m (i+1) (Du p s j).st j.now D g v z J (by simpa using r)
  rw [ZaJ,List.length_map,A4,Ag g,Ah rfl,Bj (by rw [List.length_map];exact g),Ae,List.getElem_map,H]
  have K:∀ x:Int,ZdH (s.es.map (·.m))+0=ZdH (s.es.map (·.m)):=fun _=>Int.add_zero _
  cases j with
  | msg q t =>
   have b:=ZnW (s.es.map (·.m)) fun m r=>by
    obtain ⟨e,G,rfl⟩:=List.mem_map.1 r
    have:=(hs.msg e G).1;omega
   rw [List.length_map] at b
   have:=hs.len
   have:=hp.lim
   have O:q.i=i:=y.1
   have f:decide ((B9 (.msg q t)).kind=1)=true:=rfl
   rw [f,Ah rfl,Ah (by show BN (ZdH (s.es.map (·.m))+(100+(q.i:Int)));unfold BN;omega)]
   exact o.trans ih
  | rep a t c d u w =>
   have f:decide ((B9 (.rep a t c d u w)).kind=1)=false:=rfl
   have k:Zod (.rep a t c d u w)=0:=rfl
   rw [k,Int.add_zero] at o
   rw [f,Ai (by decide)]
   exact o.trans ih
  | clk a t =>
   have f:decide ((B9 (.clk a t)).kind=1)=false:=rfl
   have k:Zod (.clk a t)=0:=rfl
   rw [k,Int.add_zero] at o
   rw [f,Ai (by decide)]
   exact o.trans ih
theorem Zoi (n:Nat) (hn:100000<=n) (sk:Int × Int × Int × Int) (evs:List (Int × Int × Int × Int)) (hsk:ev4 sk) (hev:∀ e∈evs,ev4 e):Zmr n sk evs=some true:=by
 have b:=Ziw hsk
 have a:=Uz evs 0 0 (Int.le_refl _) (by omega) hev
 have c:=RP _ 0 0 a (by omega)
 rw [Zmr,ZV n (by omega),Ae,Bool.not_true,Ai (by decide),ZbM n (by omega) evs hev,Ae,ZaB hsk,Ae,Zjn n hn _ b _ a,Ae]
 exact Zon n hn _ b _ (by omega) _ (RO 0 0 evs) n 0 ⟨0,[]⟩ 0 rfl (Nat.zero_le _) rfl (CS.ok0 _) a (by omega)
end Go.Proofs.YtbfenpeblbonlaaGreatDoor
