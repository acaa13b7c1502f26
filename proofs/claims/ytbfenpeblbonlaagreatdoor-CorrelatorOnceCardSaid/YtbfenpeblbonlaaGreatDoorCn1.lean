/-
  Part 12 of the proof: rules and walks that the claim's last text uses.
-/
import Derived.Carry
import Derived.ChangeOld
import Derived.ChangeSlices
import Derived.Deep.DeepHandedRow
import Derived.Deep.DeepWitnessRowRef
import Derived.Lib.LaidIn
import Derived.Lib.LaidU8T
import Derived.PinnedBridge
import Derived.ProofKit
import Derived.SevenTiedAt
import Derived.SizedLaws
import Derived.Test.YtbfenpeblbonlaaGreatDoorCards
import Derived.Test.YtbfenpeblbonlaaGreatDoorTie
import Derived.Test.YtbfenpeblbonlaaGreatDoorCb1
import Derived.Test.YtbfenpeblbonlaaGreatDoorCb2
import Derived.Test.YtbfenpeblbonlaaGreatDoorCb3
import Derived.Test.YtbfenpeblbonlaaGreatDoorCb4
import Derived.Test.YtbfenpeblbonlaaGreatDoorCb5
import Derived.Test.YtbfenpeblbonlaaGreatDoorCb6
import Derived.Test.YtbfenpeblbonlaaGreatDoorCb7
import Derived.Test.YtbfenpeblbonlaaGreatDoorCb8
import Derived.Test.YtbfenpeblbonlaaGreatDoorCb9
import Derived.Test.YtbfenpeblbonlaaGreatDoorCb10
import Derived.Test.YtbfenpeblbonlaaGreatDoorCb11
set_option linter.unusedSimpArgs false
set_option linter.unusedVariables false
set_option maxRecDepth 100000
set_option maxHeartbeats 4000000
namespace Go.Ev
open Go Go.RowKit
theorem Zod {P:Program} {w0:World} {st:St} {d:Bool} {fv:AV} {args:List AV} {k:AV->St->Prop} (h:k (.val (.bool false)) st):JA P w0 false d fv args st k := .inl ⟨.val (.bool false),fun q=>(nomatch q),h⟩
theorem Zeu {W:World} {v u:Value} {x y:AV} (h:R W Mem.start W v x) (k:R W Mem.start W u y):RowR W Mem.start W #[v,u] [x,y]:=⟨rfl,fun i b a=>by
 have:i=0\/i=1:=by simp at a;omega
 rcases this with rfl | rfl
 ·exact h
 ·exact k⟩
end Go.Ev
namespace Go.Proofs.YtbfenpeblbonlaaGreatDoor
open Go Go.Shelf Go.ChangeShapes Go.WideShapes Go.ChangeAt Go.RowKit Go.Lib Go.Ev
open Go.ChangeMaps (open_string shut_string)
set_option maxRecDepth 100000
end Go.Proofs.YtbfenpeblbonlaaGreatDoor
namespace Go.Proofs.YtbfenpeblbonlaaGreatDoor
open Go Go.RowKit Go.Ev
theorem OX {α:Type} (l m:List α) (i:Nat) (h1:i<l.length) (h2:i<m.length):l.drop i=m.drop i<->l[i]=m[i]/\l.drop (i+1)=m.drop (i+1):=by
 rw [List.drop_eq_getElem_cons h1,List.drop_eq_getElem_cons h2,List.cons.injEq]
theorem ZM {a b:Nat}:decide ((a:Int)<=(b:Int))=decide (a<=b):=decide_eq_decide.2 ⟨fun h=>by omega,fun h=>by omega⟩
theorem ZhL (n:Nat) (l:List Int) (hl:l.length<=1000000000):∀ (k m i:Nat),i+k=l.length->k<m->∃ c,Ec n l m i=some c/\(c=0<->∀ x∈l.drop i,x=0)
 | k,0,i,_,h=>absurd h (Nat.not_lt_zero _)
 | 0,m+1,i,hi,_=>by
  rw [Ec,A4,Ac]
  simp only [Bool.false_eq_true,if_false]
  exact ⟨0,rfl,by rw [List.drop_eq_nil_of_le (by omega)];simp⟩
 | k+1,m+1,i,hi,hm=>by
  have a:i<l.length:=by omega
  rw [Ec,A4,Ag a]
  simp only [if_true,Bj a,Ae]
  rw [List.drop_eq_getElem_cons a]
  by_cases h0:l[i]=0
  ·rw [Ag h0]
   simp only [Bool.not_true,Bool.false_eq_true,if_false]
   rw [Ah (A8 (by omega))]
   obtain ⟨b,e,d⟩:=ZhL n l hl k m (i+1) (by omega) (by omega)
   exact ⟨b,e,d.trans ⟨fun h x hx=>by rcases List.mem_cons.1 hx with rfl | hx;exact h0;exact h x hx,fun h x hx=>h x (List.mem_cons_of_mem _ hx)⟩⟩
  ·rw [Af h0]
   simp only [Bool.not_false,if_true]
   exact ⟨_,rfl,⟨fun h=>absurd h h0,fun h=>absurd (h _ (List.mem_cons_self ..)) h0⟩⟩
theorem ZdQ (n:Nat) (l:List Int) (hl:l.length<n) (h2:l.length<=1000000000):∃ c,EJ n l=some c/\(c=0<->∀ x∈l,x=0):=ZhL n l h2 l.length n 0 (by omega) hl
theorem Sr (a b:Int):(if a<b then (-1:Int) else if a=b then 0 else 1)=0<->a=b:=by
 by_cases h1:a<b
 ·rw [Ah h1];omega
 ·rw [Ai h1]
  by_cases h2:a=b
  ·simp [h2]
  ·simp [h2]
def EY (n:Nat) (b:List Int) (g:List Int):Option Int :=
 if decide ((b.length:Int)<(g.length:Int)) then
  some ((-1))
 else
  some (0)
def BL (n:Nat) (h:List Int) (q:List Int) (a2:Int->Int->Option Int):Nat->Int->Option Int
 | 0,_=>none
 | m+1,b =>
  if decide (b<(h.length:Int)) then
   (Dw h b).bind fun x12 =>
   if decide ((q.length:Int)<=b) then
    some (1)
   else
    (Dw q b).bind fun y =>
    (a2 x12 y).bind fun g =>
    if !(decide (g=0)) then
     some (g)
    else
     if BN (b+1) then
      (BL n h q a2 m) (b+1)
     else none
  else
   EY n h q 
def FC (n:Nat) (g:List Int) (h:List Int) (b:Int->Int->Option Int):Option Int :=
 BL n g h b n 0
theorem Og (w0:World) (n:Nat) (B:Ao) (Rw:Ap) (L:Aq) (a0:List Int) (a1:List Int) (fa2:FuncId) (ca2:List AV) (a2:Int->Int->Option Int) (ha2:∀ (x0:Int) (x1:Int) r,a2 x0 x1=some r->∀ B' rows,B <+: B'->Rw <+: rows->ACalls Tryz.prog w0 fa2 ([Ak x0,Ak x1]++ca2) ⟨B',rows,L⟩ fun v s=>v=Ak r/\s=⟨B',rows,L⟩) (r:Int) (h:FC n a0 a1 a2=some r) :
  ACalls Tryz.prog w0 54 [.list (a0.map Ci) .none,.list (a1.map Ci) .none,.clo fa2 ca2] ⟨B,Rw,L⟩ fun x st=>x=Ak r/\st=⟨B,Rw,L⟩:=by
 rw [FC] at h
 refine hd [.tmp 6] Tryz.func54 Tryz.ntmps54 fun M0 W0 j g i b l f hs=>?_
 simp only [Ax]
 have c:=Cc (l (.clo fa2 ca2) (by simp))
 refine rg [0,1,2] hs ?_
 refine AD (fun e st=>Ck e st B Rw L [(0,true,.list (a0.map Ci) .none),(1,true,.list (a1.map Ci) .none)] [] [] (EY n a0 a1  = some r)) ?_ ?_
 ·intro K4 k
  refine rg [0,1,2,11,12,13] hs ?_
  apply Ar
  refine AA (fun m e st=>∃ (d:Int),Ck e st B Rw L [(0,true,.list (a0.map Ci) .none),(1,true,.list (a1.map Ci) .none),(2,true,.clo fa2 ca2),(11,true,.list (a0.map Ci) .none),(12,true,Ak (a0.length:Int)),(13,true,Ak d)] [] [] (BL n a0 a1 a2 m d=some r)) n ⟨0,([]),Rw,ef hs,ef hs,f,h⟩ ?_
  rintro ml6 e st ⟨d,Xl6,Rl6,rfl,rfl,f,h⟩ Ul6 Vl6
  cases ml6 with
  | zero=>cases h
  | succ ml6 =>
  rw [BL] at h
  refine AO j g i rfl b f (H8 c f) (H8 c f) ?_
  exact go (tg (a:=([0,1,2,11,12,13,14],([0,1,2,11,12,13],[0,1,2,7,8,11,12,13],[0,1,2,7,8,11,12,13,21],([6],()),[0,1,2,7,8,11,12,13],[0,1,2,8,9,11,12,13],[0,1,2,10,11,12,13],[0,1,2,10,11,12,13,31],([6],()),[0,1,2,11,12,13],[0,1,2,11,12,13],()),[0,1],()))) h hs j g i b f (q1 ha2) (q2 k (fun e s=>Vl6 ml6 e s (Nat.lt_succ_self _)))
 ·clear h;rintro e st ⟨Xk3,Rk3,rfl,rfl,f,h⟩
  rw [EY] at h
  refine AO j g i rfl b f (H8 c f) (H8 c f) ?_
  exact go (tg (a:=([38],([6],()),[],[6],()))) h hs j g i b f trivial trivial
def C7 (b:Int) (g:Int):Int :=
 if b<g then -1 else if b=g then 0 else 1
theorem Qb (w0:World) (B:Ao) (Rw:Ap) (L:Aq) (a0:Int) (a1:Int) (r:Int) (h:C7 a0 a1=r) :
  ACalls Tryz.prog w0 55 [Ak a0,Ak a1] ⟨B,Rw,L⟩ fun x st=>x=Ak r/\st=⟨B,Rw,L⟩:=by
 rw [C7] at h
 refine hd [.tmp 4] Tryz.func55 Tryz.ntmps55 fun M0 W0 f c d b g e hs=>?_
 simp only [Ax]
 exact go (tg (a:=([0,1],[4],()))) h hs f c d b e (q1 (I7 w0)) trivial
theorem PC (w0:World) (B:Ao) (Rw:Ap) (L:Aq) (a0:Int) (a1:Int) :
  ACalls Tryz.prog w0 55 [Ak a0,Ak a1] ⟨B,Rw,L⟩ fun x st=>x=Ak (C7 a0 a1)/\st=⟨B,Rw,L⟩:=Qb w0 B Rw L a0 a1 _ rfl
def H6 (n:Nat) (b:Int × List Int) (g:Int × List Int):Option Int :=
 (FC n b.2 g.2 (fun (q:Int) (h:Int)=>some (C7 q h))).bind fun y3 =>
 (EJ n ([if b.1<g.1 then -1 else if b.1=g.1 then 0 else 1,y3])).bind fun y =>
 some (y)
theorem Rr (w0:World) (n:Nat) (B:Ao) (Rw:Ap) (L:Aq) (a0:Int × List Int) (a1:Int × List Int) (r:Int) (h:H6 n a0 a1=some r) :
  ACalls Tryz.prog w0 31 [.agg (Ak a0.1::([.list (a0.2.map Ci) .none])),.agg (Ak a1.1::([.list (a1.2.map Ci) .none]))] ⟨B,Rw,L⟩ fun x st=>x=Ak r/\st=⟨B,Rw,L⟩:=by
 rw [H6] at h
 refine hd [.tmp 4] Tryz.func31 Tryz.ntmps31 fun M0 W0 k c d b o g hs=>?_
 simp only [Ax]
 refine rg [2,3] hs ?_
 obtain ⟨m,hy3,h⟩:=bind_some h
 obtain ⟨p,i,h⟩:=bind_some h
 apply Am;intro K2 e
 refine dk 13 4 1 [4] hs G6 ?_
 refine Av _ (I7 w0 _ _ _ a0.1 a1.1) (hv hs) ?_
 refine nc hs ?_
 refine Av _ (Og w0 n _ _ _ a0.2 a1.2 55 [] (fun (x0:Int) (x1:Int)=>some (C7 x0 x1)) (fun x0 x1 r hx l rows' j f=>by cases hx;exact PC w0 _ _ _ x0 x1) _ hy3) (hv hs) ?_
 exact go (tg (a:=((),()))) h hs k c d b g (q1 (Md w0 n)) (q1 e)
def Ed (n:Nat) (b:Int × List Int) (g:Int × List Int):Option Bool :=
 (H6 n b g).bind fun h =>
 some (decide (h=0))
theorem KH (w0:World) (n:Nat) (B:Ao) (Rw:Ap) (L:Aq) (a0:Int × List Int) (a1:Int × List Int) (r:Bool) (h:Ed n a0 a1=some r) :
  ACalls Tryz.prog w0 14 [.agg (Ak a0.1::([.list (a0.2.map Ci) .none])),.agg (Ak a1.1::([.list (a1.2.map Ci) .none]))] ⟨B,Rw,L⟩ fun x st=>x = .val (.bool r)/\st=⟨B,Rw,L⟩:=by
 rw [Ed] at h
 refine hd [.tmp 4] Tryz.func14 Tryz.ntmps14 fun M0 W0 f c d b g e hs=>?_
 simp only [Ax]
 exact go (tg (a:=([2,3],[4],()))) h hs f c d b e (q1 (Rr w0 n)) trivial
theorem Zcy (n:Nat) (a b:List Int) (f:Int->Int->Option Int) (hl:a.length<=1000000000)
  (hr:∀ p q,∃ c,f p q=some c/\(c=0<->p=q)):∀ (k m i:Nat),i+k=a.length->k<m->∃ c,BL n a b f m i=some c/\(c=0<->a.drop i=b.drop i)
 | k,0,i,_,h=>absurd h (Nat.not_lt_zero _)
 | 0,m+1,i,hi,_=>by
  rw [BL,A4,Ac]
  simp only [Bool.false_eq_true,if_false]
  rw [EY,A4,List.drop_eq_nil_of_le (show a.length<=i by omega)]
  by_cases h:a.length<b.length
  ·rw [Ag h]
   simp only [if_true]
   exact ⟨-1,rfl,⟨fun h=>absurd h (by decide),fun e=>by have:=List.drop_eq_nil_iff.1 e.symm;omega⟩⟩
  ·rw [Af h]
   simp only [Bool.false_eq_true,if_false]
   exact ⟨0,rfl,⟨fun _=>(List.drop_eq_nil_of_le (by omega)).symm,fun _=>rfl⟩⟩
 | k+1,m+1,i,hi,hm=>by
  have g:i<a.length:=by omega
  rw [BL,A4,Ag g]
  simp only [if_true,Bj g,Ae,ZM]
  by_cases d:i<b.length
  ·rw [Af (show ¬ b.length<=i by omega)]
   simp only [Bool.false_eq_true,if_false,Bj d,Ae]
   obtain ⟨c,e,j⟩:=hr a[i] b[i]
   rw [e,OX _ _ i g d]
   simp only [Ae]
   by_cases h0:c=0
   ·rw [Ag h0]
    simp only [Bool.not_true,Bool.false_eq_true,if_false]
    rw [Ah (A8 (by omega))]
    obtain ⟨l,o,d⟩:=Zcy n a b f hl hr k m (i+1) (by omega) (by omega)
    exact ⟨l,o,d.trans ⟨fun h=>⟨j.1 h0,h⟩,fun h=>h.2⟩⟩
   ·rw [Af h0]
    simp only [Bool.not_false,if_true]
    exact ⟨c,rfl,⟨fun h=>absurd h h0,fun h=>absurd (j.2 h.1) h0⟩⟩
  ·rw [Ag (show b.length<=i by omega)]
   simp only [if_true]
   refine ⟨1,rfl,⟨fun h=>absurd h (by decide),fun e=>?_⟩⟩
   rw [List.drop_eq_nil_of_le (show b.length<=i by omega)] at e
   have:=List.drop_eq_nil_iff.1 e
   omega
theorem Xg (n:Nat) (hn:10000<=n) (a b:Int × List Int) (ha:a.2.length<=1000):Ed n a b=some (decide (a=b)):=by
 obtain ⟨c,e,h⟩:=Zcy n a.2 b.2 (fun (x0:Int) (x1:Int)=>some (C7 x0 x1)) (by omega) (fun p q=>⟨_,rfl,by rw [C7];exact Sr p q⟩) a.2.length n 0 (by omega) (by omega)
 have e:BL n a.2 b.2 (fun (x0:Int) (x1:Int)=>some (C7 x0 x1)) n 0=some c:=e
 rw [List.drop_zero,List.drop_zero] at h
 obtain ⟨d,g,f⟩:=ZdQ n [if a.1<b.1 then -1 else if a.1=b.1 then 0 else 1,c] (by simp only [List.length_cons,List.length_nil];omega) (by simp only [List.length_cons,List.length_nil];omega)
 rw [Ed,H6,FC,e,Ae,g,Ae,Ae]
 congr 1
 rw [decide_eq_decide,f]
 simp only [List.mem_cons,List.not_mem_nil,or_false,forall_eq_or_imp,forall_eq,Sr,h]
 exact ⟨fun q=>Prod.ext q.1 q.2,fun q=>by rw [q];exact ⟨rfl,rfl⟩⟩
theorem ZnX {α:Type} {l:List α} {i:Nat} {x:α} {r:List α} (h:l.drop i=x::r):∃ hlt:i<l.length,l[i]=x/\l.drop (i+1)=r:=by
 have hlt:i<l.length:=by
  rcases Nat.lt_or_ge i l.length with q | q
  ·exact q
  ·rw [List.drop_eq_nil_of_le q] at h;cases h
 rw [List.drop_eq_getElem_cons hlt] at h
 exact ⟨hlt,(List.cons.inj h).1,(List.cons.inj h).2⟩
theorem Zn5 {α:Type} {l:List α} {i:Nat} (h:l.drop i=[]) (hi:i<=l.length):i=l.length:=by
 have:=List.drop_eq_nil_iff.1 h;omega
theorem Zbl {p : CP} {s : CS} (h : s.es.length ≤ 900) (j : CI) : (Du p s j).rej.length ≤ 900 := by
  cases j with
  | msg m now => simp only [Du]; split; · simp
                 split <;> simp
  | rep i now c d u w => simp only [Du]; split; · simp
                         split; · simp
                         split <;> simp
  | clk i now =>
    have := List.length_filter_le (Hn now) s.es
    simp only [Du, List.length_map]; omega
theorem Zn2 (p:CP) (s:CS) (i:Nat) (t:Int) (c:Nat) (d u:Bool) (w:Nat):Du p s (.rep i t c d u w)=⟨s,none,none,[]⟩\/∃ e,LC c s.es=some e/\((∃ y,Du p s (.rep i t c d u w)=⟨⟨s.num,s.es.filter fun x=>x.num != c⟩,none,none,[(e.m,y)]⟩)\/Du p s (.rep i t c d u w)=⟨⟨s.num,s.es.filter fun x=>x.num != c⟩,some (i,e.m,w),none,[]⟩):=by
 cases u with
 | true=>left;simp only [Du,if_true]
 | false =>
  cases hf:LC c s.es with
  | none=>left;simp only [Du,Bool.false_eq_true,if_false,hf]
  | some e =>
   right
   refine ⟨e,rfl,?_⟩
   simp only [Du,Bool.false_eq_true,if_false,hf]
   split
   ·exact .inl ⟨.refused,rfl⟩
   ·split
    ·exact .inl ⟨.type,rfl⟩
    ·exact .inr rfl
theorem Zn0 (p:CP) (s:CS) (q:CM) (t:Int):(∃ w,Du p s (.msg q t)=⟨s,none,none,[(q,w)]⟩)\/∃ T,Du p s (.msg q t)=⟨⟨s.num+1,s.es++[⟨s.num+1,T,q⟩]⟩,none,some (q,s.num+1),[]⟩:=by
 simp only [Du]
 split
 ·exact .inl ⟨.full,rfl⟩
 ·split
  ·exact .inl ⟨.type,rfl⟩
  ·exact .inr ⟨_,rfl⟩
def ZnR (p:CP):CS->List CI->CS
 | s,[]=>s
 | s,j::l=>ZnR p (Du p s j).st l
theorem Zn9 {p:CP} (hp:p.ok):∀ (l:List CI) {s:CS} {now:Int} {k:Nat},s.ok p now k->VW now k l->∃ now2,(ZnR p s l).ok p now2 (k+l.length)
 | [],s,now,k,h,_=>⟨now,h⟩
 | j::l,s,now,k,h,hc=>by
  obtain ⟨q,a⟩:=Zn9 hp l (Yn hp h hc.1 hc.2.2.1) hc.2.2.2.2
  exact ⟨q,by rw [List.length_cons,show k+(l.length+1)=k+1+l.length by omega];exact a⟩
theorem ZnQ (p:CP):∀ (l:List CI) (s:CS),(ZZ p s l).length=l.length
 | [],_=>rfl
 | j::l,s=>by rw [ZZ,List.length_cons,List.length_cons,ZnQ p l]
theorem Zn4 (p:CP):∀ (l:List CI) (s:CS) (h:(ZZ p s l).length-1<(ZZ p s l).length),((ZZ p s l)[(ZZ p s l).length-1]).st=ZnR p s l
 | [],s,h=>absurd h (by simp [ZZ])
 | [j],s,h=>rfl
 | j::a::l,s,h=>by
  have ih:=Zn4 p (a::l) (Du p s j).st (by rw [ZnQ,List.length_cons];omega)
  refine Eq.trans ?_ ih
  simp only [ZZ,List.length_cons,Nat.add_sub_cancel,List.getElem_cons_succ]
theorem ZoB (p:CP) (js:List CI) (h:js≠[]):∃ hlt:(((ZZ p ⟨0,[]⟩ js).map Hi).length-1)<((ZZ p ⟨0,[]⟩ js).map Hi).length,((ZZ p ⟨0,[]⟩ js).map Hi)[((ZZ p ⟨0,[]⟩ js).map Hi).length-1].state=Aw (ZnR p ⟨0,[]⟩ js):=by
 have b:0<js.length:=List.length_pos_iff.2 h
 have a:(ZZ p ⟨0,[]⟩ js).length-1<(ZZ p ⟨0,[]⟩ js).length:=by rw [ZnQ];omega
 refine ⟨by rw [List.length_map];exact a,?_⟩
 rw [<-Zn4 p js ⟨0,[]⟩ a]
 simp only [List.getElem_map,List.length_map]
 rfl
def ZnC (n:Nat) (g:(List Msg)->Int->Option ((List Msg))) (b:Int) (h:List Msg):Option ((List Msg)) :=
 if BN (b+1) then
  g h (b+1)
 else none
def ZnF (n:Nat)  (b:List Msg):Option ((List Msg)) :=
 some (b)
def ZkM (n:Nat) (h:(List Msg)->Int->Option ((List Msg))) (q:Int) (y:Slt):Nat->(List Msg)->Int->Option ((List Msg))
 | 0,_,_=>none
 | m+1,g,b =>
  if decide (b<(y.items.length:Int)) then
   (Dw y.items b).bind fun x23 =>
   (DV n x23).bind fun y24 =>
   if (g.length+1)*152<=140737488355328/\g.length+1<=4611686018427387904 then
    if BN (b+1) then
     (ZkM n h q y m) (g++([y24])) (b+1)
    else none
   else none
  else
   ZnC n h q g
def Zfi (n:Nat) (h:Stt):Nat->(List Msg)->Int->Option ((List Msg))
 | 0,_,_=>none
 | m+1,g,b =>
  if decide (b<(h.slots.length:Int)) then
   (Dw h.slots b).bind fun q =>
   ZkM n (Zfi n h m) b q n g 0
  else
   ZnF n g
def ZnO (n:Nat) (b:Stt):Option ((List Msg)) :=
 Zfi n b n ([]) 0
theorem ZnT (w0:World) (n:Nat) (B:Ao) (Rw:Ap) (L:Aq) (a0:Stt) (r:(List Msg)) (h:ZnO n a0=some r) :
  ACalls Tryz.prog w0 16 [.agg (Dx a0)] ⟨B,Rw,L⟩ fun x st=>x = .list (r.map Dn) .none/\st=⟨B,Rw,L⟩:=by
 rw [ZnO] at h
 refine hd [.tmp 2] Tryz.func16 Tryz.ntmps16 fun M0 W0 F u w p N t hs=>?_
 simp only [Ax]
 refine rg [1] hs ?_
 refine rg [1,3] hs ?_
 refine AD (fun e st=>∃ (o:List Msg) (q:Ev.Own),Ck e st B Rw L [(3,true,.list (o.map Dn) q)] [Dx a0] [(10,o.length,q)] (ZnF n o=some r)) ?_ ?_
 ·intro K5 J
  refine rg [3,9,10,11] hs ?_
  apply Ar
  refine AA (fun m e st=>∃ (d:List Msg) (b:Int) (c:Ev.Own),Ck e st B Rw L [(3,true,.list (d.map Dn) c),(9,true,.list (a0.slots.map AZ) .none),(10,true,Ak (a0.slots.length:Int)),(11,true,Ak b)] [Dx a0] [(10,d.length,c)] (Zfi n a0 m d b=some r)) n ⟨([]),0,.full,([]),Rw,ef hs,ef hs,Owns.of_eq ((t).full 10 0) Fh,h⟩ ?_
  rintro ml7 e st ⟨d,b,c,Xl7,Rl7,rfl,rfl,t,h⟩ Ul7 Vl7
  cases ml7 with
  | zero=>cases h
  | succ ml7 =>
  rw [Zfi] at h
  have K:=t.unders
  simp only [List.mem_cons,List.not_mem_nil,or_false,forall_eq_or_imp,forall_eq] at K
  refine Go.Ev.td F u w p t ?_
  refine rg [3,9,10,11,12] hs ?_
  apply Am;intro K9 D
  refine B6 h hs ?_ ?_<;>intro hs h
  rotate_left
  ·refine sx [3] hs J ?_
   exact ⟨d,c,([]),Rl7,ef hs,ef hs,Owns.of_eq (t) Fh,h⟩
  refine sk [3,9,10,11] hs D ?_
  clear D
  refine AD (fun e st=>∃ (i:List Msg) (l:Ev.Own),Ck e st B Rw L [(3,true,.list (i.map Dn) l),(9,true,.list (a0.slots.map AZ) .none),(10,true,Ak (a0.slots.length:Int)),(11,true,Ak b)] [Dx a0] [(10,i.length,l)] (ZnC n (Zfi n a0 ml7) b i=some r)) ?_ ?_
  ·intro K13 C
   apply Ar
   obtain ⟨v,E,h⟩:=bind_some h
   obtain ⟨H,G,y⟩:=Bo E
   have z:=Bz (f:=AZ) y
   have hs:=Ad z hs
   refine rg [3,5,9,10,11] hs ?_
   refine rg [3,9,10,11,16,17,18] hs ?_
   apply Ar
   refine AA (fun m e st=>∃ (g:List Msg) (k:Int) (j:Ev.Own),Ck e st B Rw L [(3,true,.list (g.map Dn) j),(9,true,.list (a0.slots.map AZ) .none),(10,true,Ak (a0.slots.length:Int)),(11,true,Ak b),(16,true,.list (v.items.map Dn) .none),(17,true,Ak (v.items.length:Int)),(18,true,Ak k)] [Dx a0,O4 v] [(10,g.length,j)] (ZkM n (Zfi n a0 ml7) b v m g k=some r)) n ⟨d,0,c,([]),Rl7,ef hs,ef hs,Owns.of_eq (t) Fh,h⟩ ?_
   rintro ml17 e st ⟨g,k,j,Xl17,Rl17,rfl,rfl,t,h⟩ Ul17 Vl17
   cases ml17 with
   | zero=>cases h
   | succ ml17 =>
   rw [ZkM] at h
   exact go (tg (a:=([3,9,10,11,16,17,18,19],([3,9,10,11,16,17,18],[3,7,9,10,11,16,17,18],[3,9,10,11,16,17,18],[3,9,10,11,16,17,18],()),[3,9,10,11],()))) h hs F u w p t (q2 (ae Z8 U4) (Gk w0 n)) (q2 C (fun e s=>Vl17 ml17 e s (Nat.lt_succ_self _)))
  ·clear h;rintro e st ⟨i,l,Xk12,Rk12,rfl,rfl,t,h⟩
   rw [ZnC] at h
   exact go (tg (a:=([3,9,10,11],()))) h hs F u w p t trivial (q1 (fun e s=>Vl7 ml7 e s (Nat.lt_succ_self _)))
 ·clear h;rintro e st ⟨o,q,Xk4,Rk4,rfl,rfl,t,h⟩
  rw [ZnF] at h
  exact go (tg (a:=([2],()))) h hs F u w p t trivial trivial
theorem ZoJ (n:Nat) (hn:100000<=n) (again:List Msg->Int->Option (List Msg)) (x:Int) (e:CE) (acc:List Msg) (ha:acc.length<=1000) (m:Nat) :
  ZkM n again x (BS e) (m+2) acc 0=ZnC n again x (acc++[B5 e.m]):=by
 have b:Dw (BS e).items 0=some (B5 e.m):=rfl
 have a:decide ((0:Int)<((BS e).items.length:Int))=true:=rfl
 have c:decide ((0:Int)+1<((BS e).items.length:Int))=false:=rfl
 rw [ZkM,a,Ah rfl,b,Ae,Qz n hn _ (KX _),Ae,Ab,Ah (by unfold BN;omega),ZkM,c,Ai (by decide)]
theorem ZoI (n:Nat) (hn:100000<=n) (s:CS) (hl:s.es.length<=900):∀ (k m i:Nat),i+k=s.es.length->k<m->Zfi n (Aw s) m ((s.es.take i).map fun e=>B5 e.m) (i:Int)=some (s.es.map fun e=>B5 e.m)
 | k,0,i,_,h=>absurd h (Nat.not_lt_zero _)
 | 0,m+1,i,hi,_=>by
  have a:(Aw s).slots.length=s.es.length:=by simp [Aw]
  rw [Zfi,a,A4,Ac,Ai (by decide),ZnF,List.take_of_length_le (by omega)]
 | k+1,m+1,i,hi,hm=>by
  have b:i<s.es.length:=by omega
  have a:(Aw s).slots.length=s.es.length:=by simp [Aw]
  have c:i<(Aw s).slots.length:=by omega
  have f:(Aw s).slots[i]=BS s.es[i]:=by simp [Aw]
  obtain ⟨q,hq⟩:∃ q,n=q+2:=⟨n-2,by omega⟩
  have d:=ZoJ n hn (Zfi n (Aw s) m) (i:Int) s.es[i] ((s.es.take i).map fun e=>B5 e.m) (by rw [List.length_map,List.length_take];omega) q
  rw [<-hq] at d
  rw [Zfi,a,A4,Ag b,Ah rfl,Bj c,Ae,f,d,ZnC,Ah (A8 (by omega))]
  have ih:=ZoI n hn s hl k m (i+1) (by omega) (by omega)
  rw [<-List.take_append_getElem b,List.map_append] at ih
  exact ih
theorem Zoi (n:Nat) (hn:100000<=n) (s:CS) (hl:s.es.length<=900):ZnO n (Aw s)=some (s.es.map fun e=>B5 e.m) :=
 ZoI n hn s hl s.es.length n 0 (by omega) (by omega)
def Zgb (n:Nat) (g:Int->Int->Option Bool) (b:Int) (h:Int):Option Bool :=
 if BN (b+1) then
  g h (b+1)
 else none
def Zmr (n:Nat) (g:Int->Int->Option Bool) (b:Int) (h:Int):Option Bool :=
 if BN (b+1) then
  g h (b+1)
 else none
def Zkn (n:Nat) (g:Int->Int->Option Bool) (b:Int) (h:Int):Option Bool :=
 if BN (b+1) then
  g h (b+1)
 else none
def ZiK (n:Nat) (b:Int->Option Bool) (g:Int):Option Bool :=
 if BN (g+1) then
  b (g+1)
 else none
def ZnD (n:Nat)  : Option Bool :=
 some (true)
def ZeU (n:Nat) (b:Int->Int->Option Bool) (y10:(List Otc)) (y:Inp) (q:Int):Nat->Int->Int->Option Bool
 | 0,_,_=>none
 | m+1,h,g =>
  (Dw y10 q).bind fun x52 =>
  if decide (g<(x52.fates.length:Int)) then
   (Dw x52.fates g).bind fun x58 =>
   (Ed n x58.stamp y.stamp).bind fun y59 =>
   if y59 then
    if BN (h+1) then
     Zgb n (ZeU n b y10 y q m) g (h+1)
    else none
   else
    Zgb n (ZeU n b y10 y q m) g h
  else
   Zmr n b q h
def ZmX (n:Nat) (b:Int->Option Bool) (h:Int) (g:Int):Option Bool :=
 if !(decide (g=1)) then
  AM
 else
  ZiK n b h 
def ZeX (n:Nat) (y7:(List Inp)) (h:(List Otc)):Nat->Int->Option Bool
 | 0,_=>none
 | m+1,b =>
  if decide (b<(h.length:Int)) then
   (Dw h b).bind fun g =>
   (Dw y7 b).bind fun x95 =>
   if decide (1<(g.outputs.length:Int)) then
    AM
   else
    if decide ((g.outputs.length:Int)=1) then
     if !(decide (x95.kind=3)) then
      AM
     else
      (Dw g.outputs 0).bind fun x99 =>
      (BM x95.stamp 0).bind fun q =>
      (Ed n x99.2.stamp q).bind fun y =>
      if (!y)||(!(decide ((g.fates.length:Int)=1))) then
       AM
      else
       (Dw g.fates 0).bind fun x103 =>
       if !(decide (x103.kind=1)) then
        AM
       else
        if BN (b+1) then
         (ZeX n y7 h m) (b+1)
        else none
    else
     if BN (b+1) then
      (ZeX n y7 h m) (b+1)
     else none
  else
   ZnD n 
def ZdH (n:Nat) (b:Int->Option Bool) (y:(List Msg)) (q:Int) (x34:Inp):Nat->Int->Int->Option Bool
 | 0,_,_=>none
 | m+1,h,g =>
  if decide (g<(y.length:Int)) then
   (Dw y g).bind fun x76 =>
   (Ed n x76.stamp x34.stamp).bind fun y77 =>
   if y77 then
    if BN (h+1) then
     Zkn n (ZdH n b y q x34 m) g (h+1)
    else none
   else
    Zkn n (ZdH n b y q x34 m) g h
  else
   ZmX n b q h
def ZmW (n:Nat) (g:(List Inp)) (b:(List Otc)):Option Bool :=
 ZeX n g b n 0
def Zl0 (n:Nat) (b:Int->Option Bool) (q:(List Msg)) (h:Int) (y:Inp) (g:Int):Option Bool :=
 ZdH n b q h y n g 0
def Zde (n:Nat) (b:Int->Option Bool) (y10:(List Otc)) (y20:(List Msg)) (q:Int) (y:Inp):Nat->Int->Int->Option Bool
 | 0,_,_=>none
 | m+1,g,h =>
  if decide (h<(y10.length:Int)) then
   ZeU n (Zde n b y10 y20 q y m) y10 y h n g 0
  else
   Zl0 n b y20 q y g
def ZaJ (n:Nat) (y:(List Inp)) (g:(List Otc)) (h:(List Msg)):Nat->Int->Option Bool
 | 0,_=>none
 | m+1,b =>
  if decide (b<(y.length:Int)) then
   (Dw y b).bind fun q =>
   if !(decide (q.kind=1)) then
    ZiK n (ZaJ n y g h m) b 
   else
    Zde n (ZaJ n y g h m) g h b q n 0 0
  else
   ZmW n y g 
def Zgj (n:Nat) (h:(List Inp)) (b:(List Otc)) (b1_k13:Stt):Option Bool :=
 (ZnO n b1_k13).bind fun g =>
 ZaJ n h b g n 0
def Zny (n:Nat) (a0:Int × Int × Int × Int) (a1:List (Int × Int × Int × Int)):Option Bool :=
 (Lq n ).bind fun y =>
 if !y then
  AM
 else
  (IP n a1).bind fun h =>
  (DK a0).bind fun q =>
  (MQ n q h).bind fun b =>
  if decide (0<(b.length:Int)) then
   if BN ((b.length:Int)-1) then
    (Dw b ((b.length:Int)-1)).bind fun g =>
    Zgj n h b g.state
   else none
  else
   Zgj n h b (Stt.mk 0 0 ([]))
theorem ZnP (w0:World) (hE:QU w0) (hM:Qx w0) (hP:Pow10 w0) (hT:Lib.Utf8Tabs 1 2 w0) (n:Nat) (B:Ao) (Rw:Ap) (L:Aq) (a0:Int × Int × Int × Int) (a1:List (Int × Int × Int × Int)) (r:Bool) (h:Zny n a0 a1=some r) :
  ACalls Tryz.prog w0 4 [.agg (.val (.int .u8 a0.1)::(.val (.int .u8 a0.2.1)::(.val (.int .u8 a0.2.2.1)::([.val (.int .u8 a0.2.2.2)])))),.list (a1.map QH) .none] ⟨B,Rw,L⟩ fun x st=>x = .val (.bool r)/\st=⟨B,Rw,L⟩:=by
 rw [Zny] at h
 refine hd [.tmp 4] Tryz.func4 Tryz.ntmps4 fun M0 W0 H u v g hu j hs=>?_
 simp only [Ax]
 refine rg [1,2] hs ?_
 apply Am;intro K2 bh
 obtain ⟨y4,b0,h⟩:=bind_some h
 refine rc 2 [1,2,16] hs ?_;intro K3 a5
 refine Av _ (Xt w0 hE hM hP hT n _ _ _  _ b0) (hv hs) ?_
 refine ne hs a5 ?_
 clear a5
 refine B6 h hs ?_ ?_<;>intro hs h
 ·exact nS h
 refine sk [1,2] hs bh ?_
 clear bh
 obtain ⟨D,cc,h⟩:=bind_some h
 refine rc 2 [2,5] hs ?_;intro K6 a8
 refine Av _ (PO w0 n _ _ _ a1 _ cc) (hv hs) ?_
 refine ne hs a8 ?_
 clear a8
 obtain ⟨y9,b6,h⟩:=bind_some h
 obtain ⟨c,bb,h⟩:=bind_some h
 refine rc 3 [5,6] hs ?_;intro K8 be
 refine Av _ (Ie w0 _ _ _ a0 _ b6) (hv hs) ?_
 refine nc hs ?_
 refine Av _ (U9 w0 hE hM hP hT n _ _ _ y9 D _ bb) (hv hs) ?_
 refine ne hs be ?_
 clear be
 refine rg [5,6,7] hs ?_
 refine AD (fun e st=>∃ (b:Stt) (F:List AV),Ck e st B Rw L [(5,true,.list (D.map NA) .none),(6,true,.list (c.map NJ) .none),(7,true,.box (B.length+1) 0)] [.val (.int .u8 a0.1)::(.val (.int .u8 a0.2.1)::(.val (.int .u8 a0.2.2.1)::([.val (.int .u8 a0.2.2.2)]))),F] [] (F.map AV.pubCell=Dx b/\Zgj n D c b=some r)) ?_ ?_
 ·intro K14 ak
  refine rg [5,6,7,25] hs ?_
  refine B6 h hs ?_ ?_<;>intro hs h
  ·obtain ⟨cq,h⟩:=Au h
   obtain ⟨bt,bs,cb,ax,h⟩:=ix NJ h
   have hs:=Ad ax hs
   refine rl [5,6,7] hs ak ?_
   exact ⟨bt.state,_,([]),Rw,ef hs,ef hs,j,ef hs,h⟩
  refine sk [5,6,7] hs ak ?_
  exact ⟨(Stt.mk 0 0 ([])),_,([]),Rw,ef hs,ef hs,j,ef hs,h⟩
 ·clear h;rintro e st ⟨b,F,Xk13,Rk13,rfl,rfl,j,b8,h⟩
  rw [Zgj] at h
  refine GR (B.length+1) (by first | rfl | (simp only [Ea,Da,EF,DR];rfl)) b8 ?_;simp +decide only [go_sem,Nat.reduceAdd]
  show D8 _ _ _ _ _ _ _ _ [(5,true,.list (D.map NA) .none),(6,true,.list (c.map NJ) .none),(7,true,.box (B.length+1) 0)] ⟨B++([.val (.int .u8 a0.1)::(.val (.int .u8 a0.2.1)::(.val (.int .u8 a0.2.2.1)::([.val (.int .u8 a0.2.2.2)]))),Dx b]++Xk13),Rk13,L⟩
  refine Go.Ev.td H u v g j ?_
  obtain ⟨i,a9,h⟩:=bind_some h
  refine rc 2 [5,6,8] hs ?_;intro K19 ai
  refine Av _ (ZnT w0 n _ _ _ b _ a9) (hv hs) ?_
  refine ne hs ai ?_
  clear ai
  refine AD (fun e st=>Ck e st B Rw L [(5,true,.list (D.map NA) .none),(6,true,.list (c.map NJ) .none)] [.val (.int .u8 a0.1)::(.val (.int .u8 a0.2.1)::(.val (.int .u8 a0.2.2.1)::([.val (.int .u8 a0.2.2.2)]))),Dx b] [] (ZmW n D c  = some r)) ?_ ?_
  ·intro K23 bl
   refine rg [5,6,8,9] hs ?_
   apply Ar
   refine AA (fun m e st=>∃ (a:Int),Ck e st B Rw L [(5,true,.list (D.map NA) .none),(6,true,.list (c.map NJ) .none),(8,true,.list (i.map Dn) .none),(9,true,Ak a)] [.val (.int .u8 a0.1)::(.val (.int .u8 a0.2.1)::(.val (.int .u8 a0.2.2.1)::([.val (.int .u8 a0.2.2.2)]))),Dx b] [] (ZaJ n D c i m a=some r)) n ⟨0,([]),Rk13,ef hs,ef hs,j,h⟩ ?_
   rintro ml25 e st ⟨a,Xl25,Rl25,rfl,rfl,j,h⟩ Ul25 Vl25
   cases ml25 with
   | zero=>cases h
   | succ ml25 =>
   rw [ZaJ] at h
   refine Go.Ev.td H u v g j ?_
   apply Am;intro K26 am
   refine rg [5,6,8,9,38] hs ?_
   refine B6 h hs ?_ ?_<;>intro hs h
   rotate_left
   ·refine sx [5,6] hs bl ?_
    exact ⟨([]),Rl25,ef hs,ef hs,j,h⟩
   refine sk [5,6,8,9] hs am ?_
   clear am
   refine AD (fun e st=>Ck e st B Rw L [(5,true,.list (D.map NA) .none),(6,true,.list (c.map NJ) .none),(8,true,.list (i.map Dn) .none),(9,true,Ak a)] [.val (.int .u8 a0.1)::(.val (.int .u8 a0.2.1)::(.val (.int .u8 a0.2.2.1)::([.val (.int .u8 a0.2.2.2)]))),Dx b] [] (ZiK n (ZaJ n D c i ml25) a  = some r)) ?_ ?_
   ·intro K31 aj
    apply Ar
    apply Am;intro K32 af
    obtain ⟨G,bm,h⟩:=bind_some h
    obtain ⟨bw,b9,aq⟩:=Bo bm
    have az:=Bz (f:=NA) aq
    have hs:=Ad az hs
    refine rg [5,6,8,9,46] hs ?_
    refine B6 h hs ?_ ?_<;>intro hs h
    ·refine sx [5,6,8,9] hs aj ?_
     exact ⟨([]),Rl25,ef hs,ef hs,j,h⟩
    refine sk [5,6,8,9] hs af ?_
    clear af
    refine rg [5,6,8,9,10] hs ?_
    refine AD (fun e st=>∃ (w:Int),Ck e st B Rw L [(5,true,.list (D.map NA) .none),(6,true,.list (c.map NJ) .none),(8,true,.list (i.map Dn) .none),(9,true,Ak a),(10,true,Ak w)] [.val (.int .u8 a0.1)::(.val (.int .u8 a0.2.1)::(.val (.int .u8 a0.2.2.1)::([.val (.int .u8 a0.2.2.2)]))),Dx b] [] (Zl0 n (ZaJ n D c i ml25) i a G w=some r)) ?_ ?_
    ·intro K39 bo
     refine rg [5,6,8,9,10,11] hs ?_
     apply Ar
     refine AA (fun m e st=>∃ (t:Int) (d:Int),Ck e st B Rw L [(5,true,.list (D.map NA) .none),(6,true,.list (c.map NJ) .none),(8,true,.list (i.map Dn) .none),(9,true,Ak a),(10,true,Ak t),(11,true,Ak d)] [.val (.int .u8 a0.1)::(.val (.int .u8 a0.2.1)::(.val (.int .u8 a0.2.2.1)::([.val (.int .u8 a0.2.2.2)]))),Dx b] [] (Zde n (ZaJ n D c i ml25) c i a G m t d=some r)) n ⟨0,0,([]),Rl25,ef hs,ef hs,j,h⟩ ?_
     rintro ml41 e st ⟨t,d,Xl41,Rl41,rfl,rfl,j,h⟩ Ul41 Vl41
     cases ml41 with
     | zero=>cases h
     | succ ml41 =>
     rw [Zde] at h
     refine Go.Ev.td H u v g j ?_
     apply Am;intro K42 ah
     refine rg [5,6,8,9,10,11,50] hs ?_
     refine B6 h hs ?_ ?_<;>intro hs h
     rotate_left
     ·refine sx [5,6,8,9,10] hs bo ?_
      exact ⟨t,([]),Rl41,ef hs,ef hs,j,h⟩
     refine sk [5,6,8,9,10,11] hs ah ?_
     clear ah
     refine AD (fun e st=>∃ (y:Int),Ck e st B Rw L [(5,true,.list (D.map NA) .none),(6,true,.list (c.map NJ) .none),(8,true,.list (i.map Dn) .none),(9,true,Ak a),(10,true,Ak y),(11,true,Ak d)] [.val (.int .u8 a0.1)::(.val (.int .u8 a0.2.1)::(.val (.int .u8 a0.2.2.1)::([.val (.int .u8 a0.2.2.2)]))),Dx b] [] (Zmr n (Zde n (ZaJ n D c i ml25) c i a G ml41) d y=some r)) ?_ ?_
     ·intro K47 bk
      apply Ar
      refine rg [5,6,8,9,10,11,12] hs ?_
      apply Ar
      refine AA (fun m e st=>∃ (l:Int) (o:Int),Ck e st B Rw L [(5,true,.list (D.map NA) .none),(6,true,.list (c.map NJ) .none),(8,true,.list (i.map Dn) .none),(9,true,Ak a),(10,true,Ak l),(11,true,Ak d),(12,true,Ak o)] [.val (.int .u8 a0.1)::(.val (.int .u8 a0.2.1)::(.val (.int .u8 a0.2.2.1)::([.val (.int .u8 a0.2.2.2)]))),Dx b] [] (ZeU n (Zde n (ZaJ n D c i ml25) c i a G ml41) c G d m l o=some r)) n ⟨t,0,([]),Rl41,ef hs,ef hs,j,h⟩ ?_
      rintro ml49 e st ⟨l,o,Xl49,Rl49,rfl,rfl,j,h⟩ Ul49 Vl49
      cases ml49 with
      | zero=>cases h
      | succ ml49 =>
      rw [ZeU] at h
      refine Go.Ev.td H u v g j ?_
      apply Am;intro K50 ad
      obtain ⟨cu,a7,h⟩:=bind_some h
      obtain ⟨cd,bz,a2⟩:=Bo a7
      have au:=Bz (f:=NJ) a2
      have hs:=Ad au hs
      refine rg [5,6,8,9,10,11,12,60] hs ?_
      refine B6 h hs ?_ ?_<;>intro hs h
      rotate_left
      ·refine sx [5,6,8,9,10,11] hs bk ?_
       exact ⟨l,([]),Rl49,ef hs,ef hs,j,h⟩
      refine sk [5,6,8,9,10,11,12] hs ad ?_
      clear ad
      refine AD (fun e st=>∃ (z:Int),Ck e st B Rw L [(5,true,.list (D.map NA) .none),(6,true,.list (c.map NJ) .none),(8,true,.list (i.map Dn) .none),(9,true,Ak a),(10,true,Ak z),(11,true,Ak d),(12,true,Ak o)] [.val (.int .u8 a0.1)::(.val (.int .u8 a0.2.1)::(.val (.int .u8 a0.2.2.1)::([.val (.int .u8 a0.2.2.2)]))),Dx b] [] (Zgb n (ZeU n (Zde n (ZaJ n D c i ml25) c i a G ml41) c G d ml49) o z=some r)) ?_ ?_
      ·intro K56 aa
       apply Ar
       obtain ⟨b4,ba,h⟩:=bind_some h
       obtain ⟨b3,ce,av⟩:=Bo ba
       have ay:=Bz (f:=F3) av
       obtain ⟨ct,bd,h⟩:=bind_some h
       have hs:=Ad ay hs
       apply Am;intro K57 ae
       refine dk 15 2 1 [5,6,8,9,10,11,12,77] hs G6 ?_
       refine Av _ (KH w0 n _ _ _ b4.stamp G.stamp _ bd) (hv hs) ?_
       refine dn hs ae ?_
       clear ae
       refine B6 h hs ?_ ?_<;>intro hs h
       ·obtain ⟨cr,h⟩:=Au h
        refine rl [5,6,8,9,10,11,12] hs aa ?_
        exact ⟨(l+1),([]),Rl49,ef hs,ef hs,j,h⟩
       refine sk [5,6,8,9,10,11,12] hs aa ?_
       exact ⟨l,([]),Rl49,ef hs,ef hs,j,h⟩
      ·clear h;rintro e st ⟨z,Xk55,Rk55,rfl,rfl,j,h⟩
       rw [Zgb] at h
       refine Go.Ev.td H u v g j ?_
       obtain ⟨ci,h⟩:=Au h
       refine rl [5,6,8,9,10,11,12] hs (fun e s=>Vl49 ml49 e s (Nat.lt_succ_self _)) ?_
       exact ⟨z,(o+1),([]),Rk55,ef hs,ef hs,j,h⟩
     ·clear h;rintro e st ⟨y,Xk46,Rk46,rfl,rfl,j,h⟩
      rw [Zmr] at h
      refine Go.Ev.td H u v g j ?_
      obtain ⟨ck,h⟩:=Au h
      refine rl [5,6,8,9,10,11] hs (fun e s=>Vl41 ml41 e s (Nat.lt_succ_self _)) ?_
      exact ⟨y,(d+1),([]),Rk46,ef hs,ef hs,j,h⟩
    ·clear h;rintro e st ⟨w,Xk38,Rk38,rfl,rfl,j,h⟩
     rw [Zl0] at h
     refine Go.Ev.td H u v g j ?_
     refine AD (fun e st=>∃ (E:Int),Ck e st B Rw L [(5,true,.list (D.map NA) .none),(6,true,.list (c.map NJ) .none),(8,true,.list (i.map Dn) .none),(9,true,Ak a),(10,true,Ak E)] [.val (.int .u8 a0.1)::(.val (.int .u8 a0.2.1)::(.val (.int .u8 a0.2.2.1)::([.val (.int .u8 a0.2.2.2)]))),Dx b] [] (ZmX n (ZaJ n D c i ml25) a E=some r)) ?_ ?_
     ·intro K66 bg
      refine rg [5,6,8,9,10,13] hs ?_
      apply Ar
      refine AA (fun m e st=>∃ (k:Int) (p:Int),Ck e st B Rw L [(5,true,.list (D.map NA) .none),(6,true,.list (c.map NJ) .none),(8,true,.list (i.map Dn) .none),(9,true,Ak a),(10,true,Ak k),(13,true,Ak p)] [.val (.int .u8 a0.1)::(.val (.int .u8 a0.2.1)::(.val (.int .u8 a0.2.2.1)::([.val (.int .u8 a0.2.2.2)]))),Dx b] [] (ZdH n (ZaJ n D c i ml25) i a G m k p=some r)) n ⟨w,0,([]),Rk38,ef hs,ef hs,j,h⟩ ?_
      rintro ml68 e st ⟨k,p,Xl68,Rl68,rfl,rfl,j,h⟩ Ul68 Vl68
      cases ml68 with
      | zero=>cases h
      | succ ml68 =>
      rw [ZdH] at h
      refine Go.Ev.td H u v g j ?_
      apply Am;intro K69 Z
      refine rg [5,6,8,9,10,13,83] hs ?_
      refine B6 h hs ?_ ?_<;>intro hs h
      rotate_left
      ·refine sx [5,6,8,9,10] hs bg ?_
       exact ⟨k,([]),Rl68,ef hs,ef hs,j,h⟩
      refine sk [5,6,8,9,10,13] hs Z ?_
      clear Z
      refine AD (fun e st=>∃ (C:Int),Ck e st B Rw L [(5,true,.list (D.map NA) .none),(6,true,.list (c.map NJ) .none),(8,true,.list (i.map Dn) .none),(9,true,Ak a),(10,true,Ak C),(13,true,Ak p)] [.val (.int .u8 a0.1)::(.val (.int .u8 a0.2.1)::(.val (.int .u8 a0.2.2.1)::([.val (.int .u8 a0.2.2.2)]))),Dx b] [] (Zkn n (ZdH n (ZaJ n D c i ml25) i a G ml68) p C=some r)) ?_ ?_
      ·intro K74 ab
       apply Ar
       obtain ⟨br,a6,h⟩:=bind_some h
       obtain ⟨b2,bu,aw⟩:=Bo a6
       have a3:=Bz (f:=Dn) aw
       obtain ⟨cs,bf,h⟩:=bind_some h
       have hs:=Ad a3 hs
       apply Am;intro K75 ao
       refine dk 11 2 1 [5,6,8,9,10,13,96] hs G6 ?_
       refine Av _ (KH w0 n _ _ _ br.stamp G.stamp _ bf) (hv hs) ?_
       refine dn hs ao ?_
       clear ao
       refine B6 h hs ?_ ?_<;>intro hs h
       ·obtain ⟨cj,h⟩:=Au h
        refine rl [5,6,8,9,10,13] hs ab ?_
        exact ⟨(k+1),([]),Rl68,ef hs,ef hs,j,h⟩
       refine sk [5,6,8,9,10,13] hs ab ?_
       exact ⟨k,([]),Rl68,ef hs,ef hs,j,h⟩
      ·clear h;rintro e st ⟨C,Xk73,Rk73,rfl,rfl,j,h⟩
       rw [Zkn] at h
       refine Go.Ev.td H u v g j ?_
       obtain ⟨cn,h⟩:=Au h
       refine rl [5,6,8,9,10,13] hs (fun e s=>Vl68 ml68 e s (Nat.lt_succ_self _)) ?_
       exact ⟨C,(p+1),([]),Rk73,ef hs,ef hs,j,h⟩
     ·clear h;rintro e st ⟨E,Xk65,Rk65,rfl,rfl,j,h⟩
      rw [ZmX] at h
      refine Go.Ev.td H u v g j ?_
      refine rg [5,6,8,9,100] hs ?_
      refine B6 h hs ?_ ?_<;>intro hs h
      ·exact nS h
      refine sk [5,6,8,9] hs aj ?_
      exact ⟨([]),Rk65,ef hs,ef hs,j,h⟩
   ·clear h;rintro e st ⟨Xk30,Rk30,rfl,rfl,j,h⟩
    rw [ZiK] at h
    refine Go.Ev.td H u v g j ?_
    obtain ⟨co,h⟩:=Au h
    refine rl [5,6,8,9] hs (fun e s=>Vl25 ml25 e s (Nat.lt_succ_self _)) ?_
    exact ⟨(a+1),([]),Rk30,ef hs,ef hs,j,h⟩
  ·clear h;rintro e st ⟨Xk22,Rk22,rfl,rfl,j,h⟩
   rw [ZmW] at h
   refine Go.Ev.td H u v g j ?_
   refine AD (fun e st=>Ck e st B Rw L [] [.val (.int .u8 a0.1)::(.val (.int .u8 a0.2.1)::(.val (.int .u8 a0.2.2.1)::([.val (.int .u8 a0.2.2.2)]))),Dx b] [] (ZnD n  = some r)) ?_ ?_
   ·intro K86 bn
    refine rg [5,6,14] hs ?_
    apply Ar
    refine AA (fun m e st=>∃ (q:Int),Ck e st B Rw L [(5,true,.list (D.map NA) .none),(6,true,.list (c.map NJ) .none),(14,true,Ak q)] [.val (.int .u8 a0.1)::(.val (.int .u8 a0.2.1)::(.val (.int .u8 a0.2.2.1)::([.val (.int .u8 a0.2.2.2)]))),Dx b] [] (ZeX n D c m q=some r)) n ⟨0,([]),Rk22,ef hs,ef hs,j,h⟩ ?_
    rintro ml88 e st ⟨q,Xl88,Rl88,rfl,rfl,j,h⟩ Ul88 Vl88
    cases ml88 with
    | zero=>cases h
    | succ ml88 =>
    rw [ZeX] at h
    refine Go.Ev.td H u v g j ?_
    apply Am;intro K89 ag
    refine rg [5,6,14,104] hs ?_
    refine B6 h hs ?_ ?_<;>intro hs h
    rotate_left
    ·refine sx [] hs bn ?_
     exact ⟨([]),Rl88,ef hs,ef hs,j,h⟩
    refine sk [5,6,14] hs ag ?_
    clear ag
    apply Am;intro K92 N
    apply Ar
    apply Am;intro K93 K
    obtain ⟨V,cf,ch,Q,h⟩:=ix NJ h
    obtain ⟨bj,b1,bv,O,h⟩:=ix NA h
    rcases Bool.eq_false_or_eq_true (decide (1<(V.outputs.length:Int))) with hf96 | hf96
    ·replace h:=Cj h hf96
     exact nS h
    ·replace h:=Cm h hf96
     rcases Bool.eq_false_or_eq_true (decide ((V.outputs.length:Int)=1)) with hf97 | hf97
     ·replace h:=Cj h hf97
      rcases Bool.eq_false_or_eq_true (!(decide (bj.kind=3))) with hf98 | hf98
      ·replace h:=Cj h hf98
       exact nS h
      ·replace h:=Cm h hf98
       obtain ⟨ca,b5,bx,U,h⟩:=ix M8 h
       have a4:(V.outputs.map M8).getD 0 .junk=_:=U
       obtain ⟨bc,ap,h⟩:=bind_some h
       obtain ⟨bi,ar,h⟩:=bind_some h
       rcases Bool.eq_false_or_eq_true ((!bi)||(!(decide ((V.fates.length:Int)=1)))) with hf102 | hf102
       ·replace h:=Cj h hf102
        exact nS h
       ·replace h:=Cm h hf102
        obtain ⟨cp,bp,bq,J,h⟩:=ix F3 h
        have Y:(V.fates.map F3).getD 0 .junk=_:=J
        have hs:=Ad Q hs
        have hs:=Ad O hs
        have hs:=Ad hf96 hs
        have hs:=Ad hf97 hs
        have hs:=Ad hf98 hs
        have hs:=Ad U hs
        have hs:=Ad a4 hs
        have hs:=Ad hf102 hs
        have hs:=Ad J hs
        have hs:=Ad Y hs
        refine dk 63 3 1 [5,6,14,169] (al hs) G6 ?_
        refine Av _ (HL w0 _ _ _ bj.stamp 0 _ ap) (hv (al hs)) ?_
        refine nc (al hs) ?_
        refine Av _ (KH w0 n _ _ _ ca.2.stamp bc _ ar) (hv (al hs)) ?_
        refine dn (al hs) K ?_
        clear K
        refine B6 h hs ?_ ?_<;>intro hs h
        ·exact nS h
        refine sk [5,6,14] hs N ?_
        clear N
        obtain ⟨cg,h⟩:=Au h
        refine rl [5,6,14] hs (fun e s=>Vl88 ml88 e s (Nat.lt_succ_self _)) ?_
        exact ⟨(q+1),([]),Rl88,ef hs,ef hs,j,h⟩
     ·replace h:=Cm h hf97
      have hs:=Ad Q hs
      have hs:=Ad O hs
      have hs:=Ad hf96 hs
      have hs:=Ad hf97 hs
      refine dk 63 3 1 [5,6,14,169] (al hs) G6 ?_
      refine La ?_
      refine nc (al hs) ?_
      refine Zod ?_
      refine dn (al hs) K ?_
      clear K
      refine A7 false ev (ef hs) (fun hb106=>by cases hb106) (fun hb106=>?_)
      refine sk [5,6,14] hs N ?_
      clear N
      obtain ⟨b7,h⟩:=Au h
      refine rl [5,6,14] hs (fun e s=>Vl88 ml88 e s (Nat.lt_succ_self _)) ?_
      exact ⟨(q+1),([]),Rl88,ef hs,ef hs,j,h⟩
   ·clear h;rintro e st ⟨Xk85,Rk85,rfl,rfl,j,h⟩
    rw [ZnD] at h
    refine Go.Ev.td H u v g j ?_
    refine rg [4] hs ?_
    exact rt h hs g j
def cW (i:Nat):List CM->Nat
 | []=>0
 | m::l=>(if m.i=i then 1 else 0)+cW i l
theorem Zn7 (i:Nat):∀ a b:List CM,cW i (a++b)=cW i a+cW i b
 | [],b=>(Nat.zero_add _).symm
 | x::a,b=>by
  show (if x.i=i then 1 else 0)+cW i (a++b)=(if x.i=i then 1 else 0)+cW i a+cW i b
  rw [Zn7 i a b,Nat.add_assoc]
theorem ZoH (i:Nat):∀ l:List CM,cW i l<=l.length
 | []=>Nat.le_refl _
 | x::l=>by
  have:=ZoH i l
  have a:(if x.i=i then 1 else 0)<=1:=by split<;>omega
  rw [cW,List.length_cons];omega
theorem Zn3 (i:Nat) (q:CE->Bool):∀ es:List CE,cW i (es.map (·.m))=cW i ((es.filter fun e => !q e).map (·.m))+cW i ((es.filter q).map (·.m))
 | []=>rfl
 | e::es=>by
  have ih:=Zn3 i q es
  cases h:q e with
  | true =>
   rw [List.filter_cons_of_pos h,List.filter_cons_of_neg (by simp [h]),List.map_cons,List.map_cons,cW,cW,ih];omega
  | false =>
   rw [List.filter_cons_of_neg (p:=q) (by simp [h]),List.filter_cons_of_pos (p:=fun e => !q e) (by simp [h]),List.map_cons,List.map_cons,cW,cW,ih];omega
theorem Zoq (i:Nat) {es:List CE} (hi:es.Pairwise fun a b=>a.num<b.num) {c:Nat} {e:CE} (h:LC c es=some e):cW i (es.map (·.m))=cW i ((es.filter fun x=>x.num != c).map (·.m))+cW i [e.m]:=by
 obtain ⟨j,k⟩:=KG h
 obtain ⟨p,f,rfl⟩:=List.mem_iff_getElem.1 j
 have d:=Wn hi f
 rw [k] at d
 rw [d]
 have l:es=es.take p++es[p]::es.drop (p+1):=by rw [List.getElem_cons_drop,List.take_append_drop]
 have g:cW i (es.map (·.m))=cW i ((es.take p++es[p]::es.drop (p+1)).map (·.m)):=by rw [<-l]
 rw [g,List.map_append,List.map_append,Zn7,Zn7,List.map_cons,cW,cW,cW];omega
def inW (i:Nat):CI->Nat
 | .msg m _=>cW i [m]
 | _=>0
def Zm2 (o:CO):List CM:=o.rej.map (·.1)++o.out.toList.map (·.2.1)
theorem Zop {p:CP} {s:CS} (hi:s.es.Pairwise fun a b=>a.num<b.num) (i:Nat) (j:CI):cW i (s.es.map (·.m))+inW i j=cW i ((Du p s j).st.es.map (·.m))+cW i (Zm2 (Du p s j)):=by
 cases j with
 | msg m t =>
  rcases Zn0 p s m t with ⟨w,h⟩ | ⟨T,h⟩
  ·rw [h];rfl
  ·rw [h]
   show cW i (s.es.map (·.m))+cW i [m]=cW i ((s.es++[(⟨s.num+1,T,m⟩:CE)]).map (·.m))+0
   rw [List.map_append,Zn7];rfl
 | rep a t c d u w =>
  rcases Zn2 p s a t c d u w with h | ⟨e,hf,⟨y,h⟩ | h⟩
  ·rw [h];rfl
  ·rw [h];exact Zoq i hi hf
  ·rw [h];exact Zoq i hi hf
 | clk a t =>
  have h:=Zn3 i (Hn t) s.es
  have e:Zm2 (Du p s (.clk a t))=(s.es.filter (Hn t)).map (·.m):=by
   show ((s.es.filter (Hn t)).map fun e=>(e.m,CR.timeout)).map (·.1)++[]=_
   rw [List.append_nil,List.map_map];rfl
  rw [e]
  exact h
def ZnS (i:Nat):List CI->Nat
 | []=>0
 | j::l=>inW i j+ZnS i l
def Zn6 (i:Nat):List CO->Nat
 | []=>0
 | o::l=>cW i (Zm2 o)+Zn6 i l
theorem Zom {p:CP} (hp:p.ok) (i:Nat):∀ (l:List CI) {s:CS} {now:Int} {k:Nat},s.ok p now k->VW now k l->Zn6 i (ZZ p s l)+cW i ((ZnR p s l).es.map (·.m))=cW i (s.es.map (·.m))+ZnS i l
 | [],s,now,k,h,_=>by simp [ZZ,ZnR,Zn6,ZnS]
 | j::l,s,now,k,h,hc=>by
  have ih:=Zom hp i l (Yn hp h hc.1 hc.2.2.1) hc.2.2.2.2
  have a:=Zop (p:=p) h.inc i j
  rw [ZZ,Zn6,ZnR,ZnS]
  omega
theorem Zou {i k:Nat} {j:CI} (hj:j.ok k) (h:i≠k):inW i j=0:=by
 cases j with
 | msg m t =>
  have:m.i=k:=hj.1
  show (if m.i=i then 1 else 0)+0=0
  rw [Aa]
 | rep a t c d u w=>rfl
 | clk a t=>rfl
theorem Zn8 (i:Nat):∀ (l:List CI) (now:Int) (k:Nat),VW now k l->i<k->ZnS i l=0
 | [],_,_,_,_=>rfl
 | j::l,now,k,h,hk=>by
  rw [ZnS,Zou h.1 (by omega),Zn8 i l _ _ h.2.2.2.2 (by omega)]
theorem Zn1:∀ (l:List CI) (now:Int) (k q:Nat) (m:CM) (t:Int),VW now k l->l[q]? = some (.msg m t)->m.i=k+q/\ZnS (k+q) l=1
 | [],_,_,q,_,_,_,h=>by simp at h
 | j::l,now,k,0,m,t,hc,h=>by
  have hj:j = .msg m t:=by simpa using h
  subst hj
  have b:m.i=k:=hc.1.1
  refine ⟨b,?_⟩
  rw [ZnS,Zn8 (k+0) l _ _ hc.2.2.2.2 (by omega)]
  show (if m.i=k+0 then 1 else 0)+0+0=1
  rw [Ab]
 | j::l,now,k,q+1,m,t,hc,h=>by
  rw [List.getElem?_cons_succ] at h
  obtain ⟨c,a⟩:=Zn1 l _ _ q m t hc.2.2.2.2 h
  refine ⟨by omega,?_⟩
  rw [ZnS,Zou hc.1 (by omega),show k+(q+1)=k+1+q by omega,a]
theorem ZnV (o:CO):(Hi o).fates.map (·.stamp)=(Zm2 o).map fun m=>((m.i:Int)+1,[(1:Int)]):=by
 obtain ⟨st,out,a,b⟩:=o
 cases out<;>simp [Hi,Zm2,HU]
theorem ZnU (o:CO):(Hi o).fates.length=(Zm2 o).length:=by
 have:=congrArg List.length (ZnV o);simpa using this
theorem Zot (o:CO) (q:Nat) (h:q<(Zm2 o).length):∃ h2:q<(Hi o).fates.length,(Hi o).fates[q].stamp=(((Zm2 o)[q].i:Int)+1,[(1:Int)]):=by
 have a:=ZnU o
 refine ⟨by omega,?_⟩
 have:=List.getElem_of_eq (ZnV o) (i:=q) (by rw [List.length_map];omega)
 simpa using this
theorem ZoG (n:Nat) (hn:10000<=n) (a b:Nat):Ed n ((a:Int)+1,[1]) ((b:Int)+1,[1])=some (decide (a=b)):=by
 rw [Xg n hn _ _ (by simp)]
 congr 1
 rw [decide_eq_decide]
 constructor
 ·intro e
  have:=congrArg Prod.fst e
  simp only at this
  omega
 ·intro e
  rw [e]
theorem Zoj (n:Nat) (hn:100000<=n) (again:Int->Int->Option Bool) (outs:List Otc) (x34:Inp) (i:Nat) (hx:x34.stamp=((i:Int)+1,[1])) (x11:Nat) (hlt:x11<outs.length) (o:CO) (ho:outs[x11]=Hi o):∀ (k m q c:Nat),q+k=(Zm2 o).length->k<m->c+k<=1000000->q+k<=1000000 ->
  ZeU n again outs x34 (x11:Int) m (c:Int) (q:Int)=Zmr n again (x11:Int) ((c+cW i ((Zm2 o).drop q):Nat):Int)
 | k,0,q,c,_,h,_,_=>absurd h (Nat.not_lt_zero _)
 | 0,m+1,q,c,hq,_,_,_=>by
  rw [ZeU,Bj hlt,Ae,ho,ZnU,A4,Ac,Ai (by decide),List.drop_eq_nil_of_le (by omega)]
  rfl
 | k+1,m+1,q,c,hq,hm,hc,hqk=>by
  have a:q<(Zm2 o).length:=by omega
  obtain ⟨b,d⟩:=Zot o q a
  have e:Ed n (Hi o).fates[q].stamp x34.stamp=some (decide ((Zm2 o)[q].i=i)):=by rw [d,hx];exact ZoG n (by omega) _ _
  have hd:cW i ((Zm2 o).drop q)=(if (Zm2 o)[q].i=i then 1 else 0)+cW i ((Zm2 o).drop (q+1)):=by rw [List.drop_eq_getElem_cons a];rfl
  rw [ZeU,Bj hlt,Ae,ho,ZnU,A4,Ag a,Ah rfl,Bj b,Ae,e,Ae]
  by_cases c1:(Zm2 o)[q].i=i
  ·have ih:=Zoj n hn again outs x34 i hx x11 hlt o ho k m (q+1) (c+1) (by omega) (by omega) (by omega) (by omega)
   rw [Ag c1,Ah rfl,Ah (A8 (by omega)),Zgb,Ah (A8 (by omega)),hd,Ah c1,show c+(1+cW i ((Zm2 o).drop (q+1)))=c+1+cW i ((Zm2 o).drop (q+1)) by omega]
   exact ih
  ·have ih:=Zoj n hn again outs x34 i hx x11 hlt o ho k m (q+1) c (by omega) (by omega) (by omega) (by omega)
   rw [Af c1,Ai (by decide),Zgb,Ah (A8 (by omega)),hd,Ai c1,Nat.zero_add]
   exact ih
theorem Zor (n:Nat) (hn:100000<=n) (again:Int->Option Bool) (outs:List Otc) (y20:List Msg) (x9:Int) (x34:Inp) (i:Nat) (hx:x34.stamp=((i:Int)+1,[1])):∀ (l:List CO) (m q c:Nat),outs.drop q=l.map Hi->q<=outs.length->l.length<m->(∀ o∈l,(Zm2 o).length<=1000)->c+1000*l.length<=200000->outs.length<=1000 ->
  Zde n again outs y20 x9 x34 m (c:Int) (q:Int)=Zl0 n again y20 x9 x34 ((c+Zn6 i l:Nat):Int)
 | l,0,_,_,_,_,h,_,_,_=>absurd h (Nat.not_lt_zero _)
 | [],m+1,q,c,hd,hq,_,_,_,_=>by
  have:=Zn5 hd hq
  rw [Zde,A4,Ac,Ai (by decide)]
  rfl
 | o::l,m+1,q,c,hd,hq,hm,ho,hc,hL=>by
  obtain ⟨a,d,e⟩:=ZnX (show outs.drop q=Hi o::l.map Hi from hd)
  have g:=ho o (List.mem_cons_self ..)
  have f:=ZoH i (Zm2 o)
  rw [List.length_cons] at hc hm
  have ih:=Zor n hn again outs y20 x9 x34 i hx l m (q+1) (c+cW i (Zm2 o)) e a (by omega) (fun x hx=>ho x (List.mem_cons_of_mem _ hx)) (by omega) hL
  have b:=Zoj n hn (Zde n again outs y20 x9 x34 m) outs x34 i hx q a o d (Zm2 o).length n 0 c (by omega) (by omega) (by omega) (by omega)
  rw [List.drop_zero] at b
  rw [Zde,A4,Ag a,Ah rfl]
  refine Eq.trans b ?_
  rw [Zmr,Ah (A8 (by omega)),Zn6,<-Nat.add_assoc]
  exact ih
theorem Zoh (n:Nat) (hn:100000<=n) (again:Int->Option Bool) (W:List CM) (hW:W.length<=1000) (x9:Int) (x34:Inp) (i:Nat) (hx:x34.stamp=((i:Int)+1,[1])):∀ (k m q c:Nat),q+k=W.length->k<m->c+k<=1000000 ->
  ZdH n again (W.map B5) x9 x34 m (c:Int) (q:Int)=ZmX n again x9 ((c+cW i (W.drop q):Nat):Int)
 | k,0,q,c,_,h,_=>absurd h (Nat.not_lt_zero _)
 | 0,m+1,q,c,hq,_,_=>by
  rw [ZdH,List.length_map,A4,Ac,Ai (by decide),List.drop_eq_nil_of_le (by omega)]
  rfl
 | k+1,m+1,q,c,hq,hm,hc=>by
  have a:q<W.length:=by omega
  have b:Ed n (B5 W[q]).stamp x34.stamp=some (decide (W[q].i=i)):=by rw [hx];exact ZoG n (by omega) _ _
  have hd:cW i (W.drop q)=(if W[q].i=i then 1 else 0)+cW i (W.drop (q+1)):=by rw [List.drop_eq_getElem_cons a];rfl
  rw [ZdH,List.length_map,A4,Ag a,Ah rfl,Bj (by rw [List.length_map];exact a),Ae,List.getElem_map,b,Ae]
  by_cases c1:W[q].i=i
  ·have ih:=Zoh n hn again W hW x9 x34 i hx k m (q+1) (c+1) (by omega) (by omega) (by omega)
   rw [Ag c1,Ah rfl,Ah (A8 (by omega)),Zkn,Ah (A8 (by omega)),hd,Ah c1,show c+(1+cW i (W.drop (q+1)))=c+1+cW i (W.drop (q+1)) by omega]
   exact ih
  ·have ih:=Zoh n hn again W hW x9 x34 i hx k m (q+1) c (by omega) (by omega) (by omega)
   rw [Af c1,Ai (by decide),Zkn,Ah (A8 (by omega)),hd,Ai c1,Nat.zero_add]
   exact ih
theorem ZoE {p:CP} {s:CS} {j:CI} {x:Nat × CM × Nat} (h:(Du p s j).out=some x):∃ t c d u w,j = .rep x.1 t c d u w/\(Du p s j).rej=[]:=by
 cases j with
 | msg m t =>
  rcases Zn0 p s m t with ⟨w,e⟩ | ⟨T,e⟩
  ·rw [e] at h;cases h
  ·rw [e] at h;cases h
 | rep a t c d u w =>
  rcases Zn2 p s a t c d u w with e | ⟨q,hf,⟨y,e⟩ | e⟩
  ·rw [e] at h;cases h
  ·rw [e] at h;cases h
  ·rw [e] at h ⊢
   cases h
   exact ⟨t,c,d,u,w,rfl,rfl⟩
 | clk a t=>cases h
theorem Zow (n:Nat) (hn:100000<=n) (p:CP) (js:List CI) (hjs:js.length<=40) (outs:List Otc):∀ (l:List CI) (m i:Nat) (s:CS),js.drop i=l->i<=js.length->outs.drop i=(ZZ p s l).map Hi->i<=outs.length->outs.length<=1000->l.length<m ->
  ZeX n (js.map B9) outs m (i:Int)=some true
 | l,0,_,_,_,_,_,_,_,h=>absurd h (Nat.not_lt_zero _)
 | [],m+1,i,s,hd,hi,ho,hio,hL,hm=>by
  have:=Zn5 (show outs.drop i=[] from ho) hio
  rw [ZeX,A4,Ac,Ai (by decide)]
  rfl
 | j::l,m+1,i,s,hd,hi,ho,hio,hL,hm=>by
  obtain ⟨f,H,q⟩:=ZnX hd
  obtain ⟨b,y,o⟩:=ZnX (show outs.drop i=Hi (Du p s j)::(ZZ p (Du p s j).st l).map Hi from ho)
  have ih:=Zow n hn p js hjs outs l m (i+1) (Du p s j).st q f o b hL (by simpa using hm)
  rw [ZeX,A4,Ag b,Ah rfl,Bj b,Ae,y,Bj (by rw [List.length_map];exact f),Ae,List.getElem_map,H]
  cases hout:(Du p s j).out with
  | none =>
   have r:((Hi (Du p s j)).outputs.length:Int)=0:=by simp [Hi,hout]
   rw [r,Ai (by decide),Ai (by decide),Ah (A8 (by omega))]
   exact ih
  | some x =>
   obtain ⟨t,c,d,u,w,g,a⟩:=ZoE hout
   have r:((Hi (Du p s j)).outputs.length:Int)=1:=by simp [Hi,hout]
   have F:((Hi (Du p s j)).fates.length:Int)=1:=by simp [Hi,hout,a]
   have G:Dw (Hi (Du p s j)).outputs 0=some ((0:Int),Msg.mk ((x.1:Int)+1,[1,0]) (100+(x.2.1.i:Int)) [(x.2.1.i:Int)+1] (rV [(nK,iV x.2.1.k),(nV,iV ((x.2.1.v:Int)+(x.2.2:Int)))])):=by
    have e:(Hi (Du p s j)).outputs=[((0:Int),Msg.mk ((x.1:Int)+1,[1,0]) (100+(x.2.1.i:Int)) [(x.2.1.i:Int)+1] (rV [(nK,iV x.2.1.k),(nV,iV ((x.2.1.v:Int)+(x.2.2:Int)))]))]:=by simp only [Hi,hout];rfl
    rw [e];rfl
   have D:Dw (Hi (Du p s j)).fates 0=some (Fte.mk ((x.2.1.i:Int)+1,[1]) 1 MN [((x.1:Int)+1,[1,0])] eS):=by
    have e:(Hi (Du p s j)).fates=[Fte.mk ((x.2.1.i:Int)+1,[1]) 1 MN [((x.1:Int)+1,[1,0])] eS]:=by simp only [Hi,hout,a];rfl
    rw [e];rfl
   have C:(!(decide ((B9 j).kind=3)))=false:=by rw [g];rfl
   have E:BM (B9 j).stamp 0=some ((x.1:Int)+1,[1,0]):=by rw [g];exact QO x.1
   have z:Ed n ((x.1:Int)+1,[1,0]) ((x.1:Int)+1,[1,0])=some true:=by rw [Xg n (by omega) _ _ (by simp),Ag rfl]
   rw [r,Ai (by decide),Ah (by decide),C,Ai (by decide),G,Ae,E,Ae]
   show (Ed n ((x.1:Int)+1,[1,0]) ((x.1:Int)+1,[1,0])).bind _=_
   rw [z,Ae,F,Ai (by decide),D,Ae]
   show (if (!(decide ((1:Int)=1)))=true then _ else _)=_
   rw [Ai (by decide),Ah (A8 (by omega))]
   exact ih
theorem Zov (n:Nat) (hn:100000<=n) (js:List CI) (hjs:js.length<=40) (os:List CO) (hos:os.length<=100) (hf:∀ o∈os,(Zm2 o).length<=1000) (W:List CM) (hW:W.length<=1000)
  (hall:∀ (i:Nat) (m:CM) (t:Int),js[i]? = some (.msg m t)->m.i=i/\Zn6 i os+cW i W=1) (hend:ZmW n (js.map B9) (os.map Hi)=some true):∀ (k m i:Nat),i+k=js.length->k<m ->
  ZaJ n (js.map B9) (os.map Hi) (W.map B5) m (i:Int)=some true
 | k,0,i,_,h=>absurd h (Nat.not_lt_zero _)
 | 0,m+1,i,hi,_=>by
  rw [ZaJ,List.length_map,A4,Ac,Ai (by decide)]
  exact hend
 | k+1,m+1,i,hi,hm=>by
  have f:i<js.length:=by omega
  have ih:=Zov n hn js hjs os hos hf W hW hall hend k m (i+1) (by omega) (by omega)
  rw [ZaJ,List.length_map,A4,Ag f,Ah rfl,Bj (by rw [List.length_map];exact f),Ae,List.getElem_map]
  have b:ZiK n (ZaJ n (js.map B9) (os.map Hi) (W.map B5) m) (i:Int)=some true:=by
   rw [ZiK,Ah (A8 (by omega))]
   exact ih
  cases hj:js[i] with
  | rep a t c d u w =>
   have e:(!(decide ((B9 (.rep a t c d u w)).kind=1)))=true:=rfl
   rw [e,Ah rfl]
   exact b
  | clk a t =>
   have e:(!(decide ((B9 (.clk a t)).kind=1)))=true:=rfl
   rw [e,Ah rfl]
   exact b
  | msg q t =>
   obtain ⟨r,g⟩:=hall i q t (Aj.2 ⟨f,hj⟩)
   have p:(B9 (.msg q t)).stamp=((i:Int)+1,[1]):=by rw [<-r];rfl
   have e:(!(decide ((B9 (.msg q t)).kind=1)))=false:=rfl
   have j:=Zor n hn (ZaJ n (js.map B9) (os.map Hi) (W.map B5) m) (os.map Hi) (W.map B5) (i:Int) (B9 (.msg q t)) i p os n 0 0 rfl (Nat.zero_le _) (by omega) hf (by omega) (by rw [List.length_map];omega)
   have l:=Zoh n hn (ZaJ n (js.map B9) (os.map Hi) (W.map B5) m) W hW (i:Int) (B9 (.msg q t)) i p W.length n 0 (Zn6 i os) (by omega) (by omega) (by omega)
   rw [List.drop_zero,g] at l
   rw [Nat.zero_add] at j
   rw [e,Ai (by decide)]
   refine Eq.trans j ?_
   rw [Zl0]
   refine Eq.trans l ?_
   rw [ZmX,Ai (by decide)]
   exact b
theorem Zoo {p:CP} {s:CS} (h:s.es.length<=900) (j:CI):(Zm2 (Du p s j)).length<=1000:=by
 have:=Zbl (p:=p) h j
 unfold Zm2
 rw [List.length_append,List.length_map,List.length_map]
 cases (Du p s j).out<;>simp<;>omega
theorem Zon {p:CP} (hp:p.ok):∀ (l:List CI) {s:CS} {now:Int} {k:Nat},s.ok p now k->VW now k l->∀ o∈ZZ p s l,(Zm2 o).length<=1000
 | [],s,now,k,h,_,o,ho=>by cases ho
 | j::l,s,now,k,h,hc,o,ho=>by
  rcases List.mem_cons.1 (show o∈Du p s j::ZZ p (Du p s j).st l from ho) with e | ho
  ·rw [e]
   have:=h.len
   have:=hp.lim
   exact Zoo (by omega) j
  ·exact Zon hp l (Yn hp h hc.1 hc.2.2.1) hc.2.2.2.2 o ho
theorem Zoy (n:Nat) (hn:100000<=n) (sk:Int × Int × Int × Int) (evs:List (Int × Int × Int × Int)) (hsk:ev4 sk) (hev:∀ e∈evs,ev4 e):Zny n sk evs=some true:=by
 have f:=Ziw hsk
 have a:=Uz evs 0 0 (Int.le_refl _) (by omega) hev
 have C:=RP _ 0 0 a (by omega)
 obtain ⟨o,b⟩:=Zn9 f _ (CS.ok0 _) a
 have x:=b.len
 have r:=f.lim
 have w:=ZnQ (cP sk) (RO 0 0 evs) ⟨0,[]⟩
 have d:ZmW n ((RO 0 0 evs).map B9) ((ZZ (cP sk) ⟨0,[]⟩ (RO 0 0 evs)).map Hi)=some true :=
  Zow n hn (cP sk) _ (by omega) _ (RO 0 0 evs) n 0 ⟨0,[]⟩ rfl (Nat.zero_le _) rfl (Nat.zero_le _) (by rw [List.length_map];omega) (by omega)
 have c:∀ (i:Nat) (m:CM) (t:Int),(RO 0 0 evs)[i]? = some (.msg m t)->m.i=i/\Zn6 i (ZZ (cP sk) ⟨0,[]⟩ (RO 0 0 evs))+cW i ((ZnR (cP sk) ⟨0,[]⟩ (RO 0 0 evs)).es.map (·.m))=1:=fun i m t h=>by
  obtain ⟨q,u⟩:=Zn1 _ 0 0 i m t a h
  have v:=Zom f i _ (CS.ok0 (cP sk)) a
  rw [Nat.zero_add] at q u
  rw [u] at v
  exact ⟨q,v⟩
 have k:Zgj n ((RO 0 0 evs).map B9) ((ZZ (cP sk) ⟨0,[]⟩ (RO 0 0 evs)).map Hi) (Aw (ZnR (cP sk) ⟨0,[]⟩ (RO 0 0 evs)))=some true:=by
  have g:=Zov n hn _ (by omega) (ZZ (cP sk) ⟨0,[]⟩ (RO 0 0 evs)) (by omega) (Zon f _ (CS.ok0 _) a) ((ZnR (cP sk) ⟨0,[]⟩ (RO 0 0 evs)).es.map (·.m)) (by rw [List.length_map];omega) c d (RO 0 0 evs).length n 0 (by omega) (by omega)
  rw [List.map_map] at g
  rw [Zgj,Zoi n hn _ (by omega),Ae]
  exact g
 rw [Zny,ZV n (by omega),Ae,Bool.not_true,Ai (by decide),ZbM n (by omega) evs hev,Ae,ZaB hsk,Ae,Zjn n hn _ f _ a,Ae]
 by_cases hne:RO 0 0 evs=[]
 ·rw [hne] at k ⊢
  have y:decide ((0:Int)<((((ZZ (cP sk) ⟨0,[]⟩ []).map Hi).length:Nat):Int))=false:=rfl
  rw [y,Ai (by decide)]
  exact k
 ·obtain ⟨l,j⟩:=ZoB (cP sk) _ hne
  have s:0<(RO 0 0 evs).length:=List.length_pos_iff.2 hne
  have p:((ZZ (cP sk) ⟨0,[]⟩ (RO 0 0 evs)).map Hi).length=(RO 0 0 evs).length:=by rw [List.length_map,ZnQ]
  have z:((((ZZ (cP sk) ⟨0,[]⟩ (RO 0 0 evs)).map Hi).length:Nat):Int)-1=((((ZZ (cP sk) ⟨0,[]⟩ (RO 0 0 evs)).map Hi).length-1:Nat):Int):=by omega
  rw [Ag (by omega),Ah rfl,z,Ah (by unfold BN;omega),Bj l,Ae,j]
  exact k
end Go.Proofs.YtbfenpeblbonlaaGreatDoor
