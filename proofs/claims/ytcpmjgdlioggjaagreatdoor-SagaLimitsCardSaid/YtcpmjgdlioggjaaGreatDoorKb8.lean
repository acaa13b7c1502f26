/-
  Part 8 of the proof: rules and walks that the claim's last text uses.
-/
import Derived.Carry
import Derived.ChangeOld
import Derived.ChangeSlices
import Derived.Deep.DeepHandedRow
import Derived.Deep.DeepWitnessRowRef
import Derived.Lib.LaidIn
import Derived.Lib.LaidU8T
import Derived.PinnedBridge
import Derived.ProofKit
import Derived.SevenTiedAt
import Derived.Shelf.Vars
import Derived.SizedLaws
import Derived.Test.YtcpmjgdlioggjaaGreatDoorCards
import Derived.Test.YtcpmjgdlioggjaaGreatDoorTie
import Derived.Test.YtcpmjgdlioggjaaGreatDoorKb1
import Derived.Test.YtcpmjgdlioggjaaGreatDoorKb2
import Derived.Test.YtcpmjgdlioggjaaGreatDoorKb3
import Derived.Test.YtcpmjgdlioggjaaGreatDoorKb4
import Derived.Test.YtcpmjgdlioggjaaGreatDoorKb5
import Derived.Test.YtcpmjgdlioggjaaGreatDoorKb6
import Derived.Test.YtcpmjgdlioggjaaGreatDoorKb7
set_option linter.unusedSimpArgs false
set_option linter.unusedVariables false
set_option maxRecDepth 100000
set_option maxHeartbeats 4000000
namespace Go.Proofs.YtcpmjgdlioggjaaGreatDoor
open Go Go.RowKit Go.Ev
def Fz (n:Nat) (a0stamp:Int × List Int) (a0kind:Int) (a0node:ByteArray) (a0text:ByteArray) (g:List (Int × List Int)):Nat->Int->(List (Int × List Int))->Option Fte
 | 0,_,_=>none
 | m+1,b,pla0_l2_4 =>
  if decide (b<(g.length:Int)) then
   (D1 g b).bind fun q =>
   (BI q).bind fun h =>
   if (pla0_l2_4.length+1)*32<=140737488355328/\pla0_l2_4.length+1<=4611686018427387904 then
    if B1 (b+1) then
     (Fz n a0stamp a0kind a0node a0text g m) (b+1) (pla0_l2_4++([h]))
    else none
   else none
  else
   some (Fte.mk a0stamp a0kind a0node pla0_l2_4 a0text)
def HI (n:Nat) (a0stamp:Int × List Int) (a0kind:Int) (a0node:ByteArray) (a0text:ByteArray) (b:List (Int × List Int)):Option Fte :=
 Fz n a0stamp a0kind a0node a0text b n 0 ([])
theorem Qf (w0:World) (n:Nat) (B:Aj) (Rw:Am) (L:An) (la0:Nat) (a0stamp:Int × List Int) (a0kind:Int) (a0node:ByteArray) (a0text:ByteArray) (hla0:B[la0]? = some (Hw a0stamp a0kind a0node (.list ([]) .full) a0text)) (la1:Nat) (a1:List (Int × List Int)) (hla1:B[la1]? = some ([.list (a1.map LD) .none])) (r:Fte) (h:HI n a0stamp a0kind a0node a0text a1=some r) :
  ACalls Tryz.prog w0 211 [.box la0 0,.box la1 0] ⟨B,Rw,L⟩ fun x st=>x = .tup []/\st=⟨(B.set la0 (Hw r.stamp r.kind r.node (.list (r.into.map LD) .none) r.text)),Rw,L⟩:=by
 rw [HI] at h
 refine hd [] Tryz.func211 Tryz.ntmps211 fun M0 W0 V G J k Y o hs=>?_
 simp only [As]
 have l:=(Af.1 hla0).1
 have E:=(Af.1 hla1).1
 apply GW;intro KE v
 have hs:=Ac (AD hla0) hs
 have hs:=Ac (AD hla1) hs
 refine rg [0,5,6,7] hs ?_
 apply Ao
 refine AB (fun m e st=>∃ (i:Int) (c:List (Int × List Int)) (d:Ev.Own) (Xl2:Aj) (Rl2:Am),e=[(0,true,.box la0 0),(5,true,.list (a1.map LD) .none),(6,true,Ag (a1.length:Int)),(7,true,Ag i)]/\st=⟨(B.set la0 (Hw a0stamp a0kind a0node (.list (c.map LD) d) a0text))++([]++Xl2),Rl2,L⟩/\Owns Rw Rl2 [(2,c.length,d)]/\Fz n a0stamp a0kind a0node a0text a1 m i c=some r) n ⟨0,([]),.full,([]),Rw,ef hs,ef hs,Owns.of_eq ((o).full 2 0) Fe,h⟩ ?_
 rintro ml2 e st ⟨i,c,d,Xl2,Rl2,rfl,rfl,o,h⟩ Ul2 Vl2
 cases ml2 with
 | zero=>cases h
 | succ ml2 =>
 rw [Fz] at h
 have Q:=o.unders
 simp only [List.mem_cons,List.not_mem_nil,or_false,forall_eq_or_imp,forall_eq] at Q
 refine DW V G J GR (AA (DJ k o.len) ow) o ow ow ?_
 refine rg [0,5,6,7,8] hs ?_
 apply Ah;intro K4 D
 refine BA h hs ?_ ?_<;>intro hs h
 rotate_left
 ·have j:=hs.1
  refine CX (BW [] _) ?_ (BD _ _)
  apply D4;simp +decide only [go_sem,Nat.reduceAdd]
  (repeat' apply Ac)<;>first | refine v _ _ _ (ZeR l) ?_ | refine v _ _ _ (Zco l) ?_ | exact cl
  simp +decide only [go_sem,Nat.reduceAdd,AD hla0,AD hla1,j]
  have hgt:=Option.some.inj h;subst hgt
  first | refine Cb (AA k ev) GR o.pre ev ⟨?_,rfl⟩ | refine Dq (AA k ev) GR o.pre ev ⟨?_,rfl⟩
  first | rfl | (simp +decide only [go_sem,Nat.reduceAdd,AD hla0,AD hla1,j];done) | (simp +decide only [go_sem,Nat.reduceAdd,Vl.cs,Ty.cs,AD hla0,AD hla1,j];done)
 have j:=hs.1
 refine sk [0,5,6,7] hs D ?_
 clear D
 apply Ah;intro K6 u
 apply Ao
 obtain ⟨t,F,h⟩:=bind_some h
 obtain ⟨O,N,z⟩:=Bo F
 have g:=Bq (f:=LD) z
 have hs:=Ac g hs
 refine rg [0,4,5,6,7] hs ?_
 obtain ⟨U,C,h⟩:=bind_some h
 obtain ⟨q,h⟩:=Ak h
 obtain ⟨H,p,o,b⟩:=o.append (P:=Tryz.prog) Zgd (by rw [Zb4];rfl) (by decide) 1 q.1 q.2
 replace b:=fun (ys:List AV) B L o2=>b (c.map LD) ys B L o2 Fe
 replace b:=fun (y:AV) B L o2=>b [y] B L o2 Fe ev
 try simp only [List.mem_singleton,List.mem_cons,List.not_mem_nil,or_false,forall_eq_or_imp,forall_eq,List.map_append,List.map_cons,List.map_nil,A2,A0,AY,A3,AZ,AX,AN,AG,A1,Ax,Az,AH,AM,AL,A5,AK,A6] at b
 apply IA GP [8,11] [4] [0,5,6,7] kr (fun s=>∃ (X:Aj) (rows:Am) (w:AV),s=⟨(B.set la0 (Hw a0stamp a0kind a0node w a0text))++([Ag t.1::([.list (t.2.map CE) .none])]++X),rows,L⟩) 3 (B.length+1)
 ·simp +decide only [go_sem,Nat.reduceAdd]
 ·refine ⟨2,?_⟩
  rw [Ai];simp +decide only [go_sem,Nat.reduceAdd,BK,AD hla0,AD hla1,j,g,b]
  have hs:=Ac b hs
  (repeat' apply Ac)<;>first | refine Aq _ (CZ w0 _ _ _ t _ C) (hv hs) ?_ | exact cl
  rw [Ai];simp +decide only [go_sem,Nat.reduceAdd,AD hla0,AD hla1,j,g,b]
  (repeat' apply Ac)<;>first | rfl | exact cl
 ·rintro s ⟨X,rows,w,rfl⟩
  refine ⟨2,?_⟩
  rw [Ai];simp +decide only [go_sem,Nat.reduceAdd,BK,List.append_eq,List.cons_append,List.nil_append,AD hla0,AD hla1,j,g,b]
  have hs:=Ac b hs
  (repeat' apply Ac)<;>first | refine Aq _ (CZ w0 _ _ _ t _ C) (hv hs) ?_ | exact cl
  rw [Ai];simp +decide only [go_sem,Nat.reduceAdd,AD hla0,AD hla1,j,g,b]
  (repeat' apply Ac)<;>first | rfl | ((repeat (first | exact .nil | refine .cons (ef hs) ?_));done) | exact cl
 ·exact gd (tg (a:=(8,11,[0,5,6,7]))) (Ac b (Ac g (Ac (AD hla1) (Ac (AD hla0) hs))))
 simp +decide only [go_sem,Nat.reduceAdd,AD hla0,AD hla1,j,g,b]
 (repeat' apply Ac)<;>first | refine u _ _ ?_ | exact cl
 clear u
 obtain ⟨K,h⟩:=Ak h
 have hs:=Ac b hs
 refine rl [0,5,6,7] hs (fun e s=>Vl2 ml2 e s (Nat.lt_succ_self _)) ?_
 exact ⟨(i+1),(c++([U])),H,([Ag t.1::([.list (t.2.map CE) .none])]),p,ef hs,ef hs,Owns.of_eq (o) Fe,h⟩
theorem ZdL (w0:World) (B:Aj) (Rw:Am) (L:An) (l:List (Int × List Int)) :
  ACalls Tryz.prog w0 146 [.list (l.map LD) .none] ⟨B,Rw,L⟩ fun r st=>r = .clo 211 [.box B.length 0]/\st=⟨B++[[.list (l.map LD) .none]],Rw,L⟩:=by
 refine BN (rs:=[.tmp 2]) Tryz.func146 rfl rfl Tryz.ntmps146 (AU Tryz.func146 rfl (by decide)) (Nat.le_of_ble_eq_true rfl) ?_
 intro M0 W0 f d e c g
 simp only [As]
 apply Ah;intro K1 a
 apply Ap 1 [1,2]
 rw [Ai];simp +decide only [go_sem]
 (repeat' apply Ac)<;>first | refine a _ _ ?_ | exact cl
 clear a
 apply Ah;intro K2 b
 apply Ap 1 [2]
 rw [Ai];simp +decide only [go_sem]
 (repeat' apply Ac)<;>first | refine b _ _ ?_ | exact cl
 apply BC;simp +decide only [go_sem]
def Ph (n:Nat) (m:Msg) (nm:ByteArray) (l:List (Int × List Int)):Option Fte:=(BI m.stamp).bind fun y=>HI n y 1 nm ⟨#[]⟩ l
theorem Xu (w0:World) (n:Nat) (B:Aj) (Rw:Am) (L:An) (lb:Nat) (m:Msg) (nm:ByteArray) (l:List (Int × List Int)) (hb:B[lb]? = some [.list (l.map LD) .none]) (r:Fte) (h:Ph n m nm l=some r) :
  ACalls Tryz.prog w0 89 [Cj m,.val (.string nm),Ag 1,.list [.clo 211 [.box lb 0]] .none] ⟨B,Rw,L⟩ fun x st=>x=Hn r/\st=⟨B,Rw,L⟩:=by
 rw [Ph] at h
 obtain ⟨y,b,h⟩:=bind_some h
 refine Y3 w0 B Rw L m nm 1 _ _ (Hw r.stamp r.kind r.node (.list (r.into.map LD) .none) r.text) _ y b rfl rfl rfl rfl (by simp +decide only [go_sem]) ?_
 intro X c
 obtain ⟨u,v,rfl⟩:∃ u v,X=[u,v]:=by
  match X,c with
  | [u,v],_=>exact ⟨u,v,rfl⟩
 have a:=(Af.1 hb).1
 have:=(Qf w0 n (B++([u,v]++[Hw y 1 nm (.list [] .full) ⟨#[]⟩])) Rw L (B.length+2) y 1 nm ⟨#[]⟩ (by simp [List.getElem?_append_right]) lb l (by rw [List.getElem?_append_left a];exact hb) r h).mono fun x st q=>q.2
 simpa [List.set_append_right,Hw] using this
def GI (n:Nat) (g:Msg) (b:ByteArray) (q:List (Int × List Int)):Option Fte :=
 (Ph n g b q).bind fun h =>
 some (h)
theorem I0 (w0:World) (n:Nat) (B:Aj) (Rw:Am) (L:An) (a0:Msg) (a1:ByteArray) (a2:List (Int × List Int)) (r:Fte) (h:GI n a0 a1 a2=some r) :
  ACalls Tryz.prog w0 103 [.agg (T8 a0),.val (.string a1),.list (a2.map LD) .none] ⟨B,Rw,L⟩ fun x st=>x = .agg (ftL r)/\st=⟨B,Rw,L⟩:=by
 rw [GI] at h
 refine hd [.cell 6 54] Tryz.func103 Tryz.ntmps103 fun M0 W0 j f g a k e hs=>?_
 simp only [As]
 refine rg [1,2,3,6] hs ?_
 apply Ah;intro K2 b
 obtain ⟨l,c,h⟩:=bind_some h
 apply DF GP [3,4,5,6] [6] kr (fun s=>∃ (X:Aj) (rows:Am) (d:List AV),s=⟨B++([T8 a0,d]++X),rows,L⟩) 5 (B.length+2)
 ·simp +decide only [go_sem,Nat.reduceAdd]
 ·rintro s ⟨X,rows,d,rfl⟩
  refine ⟨1,?_⟩
  rw [Ai];simp +decide only [go_sem,Nat.reduceAdd,BK]
  (repeat' apply Ac)<;>first | rfl | exact cl
 ·refine Good.mk [3] kr ⟨[],_,_,by first | rfl | simp only [List.append_nil,List.nil_append] | (simp only [List.append_assoc,List.cons_append,List.nil_append];rfl)⟩ ?_ ?_
  ·intro h;exact absurd h (by decide)
  ·intro i hi;simp only [List.mem_cons,List.not_mem_nil,or_false] at hi
   subst hi
   ·apply Aw rfl rfl ev
    ·simp +decide only [go_sem,Nat.reduceAdd,A7]
     (repeat' with_reducible apply Ac)<;>first | exact E7 (ZdL w0 _ _ _ a2) (hv hs) | rfl | exact cl
    ·simp +decide only [go_sem,Nat.reduceAdd]
     refine Good.mk [4] kr ⟨_,_,_,by first | rfl | simp only [List.append_nil,List.nil_append] | (simp only [List.append_assoc,List.cons_append,List.nil_append];rfl)⟩ ?_ ?_
     ·intro h;exact absurd h (by decide)
     ·intro i hi;simp only [List.mem_cons,List.not_mem_nil,or_false] at hi
      subst hi
      ·apply Aw rfl rfl ev
       ·simp +decide only [go_sem,Nat.reduceAdd,A7]
        (repeat' apply Ac)<;>first | rfl | exact cl
       ·simp +decide only [go_sem,Nat.reduceAdd]
        refine Good.mk [5] kr ⟨_,_,_,by first | rfl | simp only [List.append_nil,List.nil_append] | (simp only [List.append_assoc,List.cons_append,List.nil_append];rfl)⟩ ?_ ?_
        ·intro h;exact absurd h (by decide)
        ·intro i hi;simp only [List.mem_cons,List.not_mem_nil,or_false] at hi
         subst hi
         ·apply Aw rfl rfl ev
          ·simp +decide only [go_sem,Nat.reduceAdd,A7]
           (repeat' with_reducible apply Ac)<;>first | exact Zbs (Xu w0 n _ _ _ (B.length+2) a0 a1 a2 ev _ c) (hv hs) | rfl | exact cl
          ·simp +decide only [go_sem,Nat.reduceAdd]
           refine Good.mk [6] kr ⟨_,_,_,by first | rfl | simp only [List.append_nil,List.nil_append] | (simp only [List.append_assoc,List.cons_append,List.nil_append];rfl)⟩ ?_ ?_
           ·intro h;exact absurd h (by decide)
           ·intro i hi;simp only [List.mem_cons,List.not_mem_nil,or_false] at hi
            subst hi
            ·apply Aw rfl rfl ev
             ·simp +decide only [go_sem,Nat.reduceAdd,A7]
              (repeat' apply Ac)<;>first | rfl | exact cl
             ·simp +decide only [go_sem,Nat.reduceAdd]
              refine Good.mk [] kr ⟨_,_,_,by first | rfl | simp only [List.append_nil,List.nil_append] | (simp only [List.append_assoc,List.cons_append,List.nil_append];rfl)⟩ ?_ ?_
              ·intro _;apply BM [6];first | (simp +decide only [go_sem,Nat.reduceAdd];done) | (simp +decide only [go_sem,Nat.reduceAdd];rfl)
              ·intro i hi;cases hi
 simp +decide only [go_sem,Nat.reduceAdd]
 (repeat' apply Ac)<;>first | refine b _ _ ?_ | exact cl
 clear b
 exact rt h hs a e
def Jy (n:Nat) (q:Msg) (h:Vl):Option Msg :=
 (Dc n q).bind fun b =>
 (Ce n h).bind fun g =>
 some (Msg.mk b.stamp b.mass b.origins g)
theorem MU (w0:World) (n:Nat) (B:Aj) (Rw:Am) (L:An) (a0:Msg) (a1:Vl) (r:Msg) (h:Jy n a0 a1=some r) :
  ACalls Tryz.prog w0 102 [.agg (T8 a0),.agg (a1.cs)] ⟨B,Rw,L⟩ fun x st=>x = .agg (T8 r)/\st=⟨B,Rw,L⟩:=by
 rw [Jy] at h
 refine hd [.cell 4 62] Tryz.func102 Tryz.ntmps102 fun M0 W0 j d f b m i hs=>?_
 simp only [As]
 refine rg [2,3,4] hs ?_
 obtain ⟨l,e,h⟩:=bind_some h
 refine rc 2 [2,3,4] hs ?_;intro K2 c
 refine Aq _ (Dt w0 n _ _ _ a0 _ e) (hv hs) ?_
 refine ne hs c ?_
 clear c
 obtain ⟨k,g,h⟩:=bind_some h
 have hs:=Ac (Vl.cs_eqs l.body) hs
 have hs:=Ac (Vl.cs_eqs k) hs
 exact go (tg (a:=([2,4],[4],()))) h hs j d f b i (q1 (BX w0 n)) trivial
def Fb (n:Nat) (a0n:Nod) (a0now:Int) (a0under:Int × List Int) (a0sent:Int) (a0state:Stt) (a1:Slt):Option (Int × Otc) :=
 (CQ n a0n a0now a0under a0sent a0state a1).bind fun q =>
 (D1 a1.items 0).bind fun h =>
 (Hq n a1.values).bind fun y7 =>
 (ME n h.body y7).bind fun y8 =>
 (Gq n a0n.mapping y8 a0n.type).bind fun y9 =>
 if !(decide (y9.2=0)) then
  (FY y9.2).bind fun y14 =>
  (U0 n a0n ([]) ([]) h y14).bind fun g =>
  some ((q.1,Otc.mk q.2 ([]) ([]) g.1 g.2))
 else
  (C4 a0n a0now a0under q.1 q.2).bind fun b =>
  (Jy n h y9.1).bind fun y =>
  (Jm n y b.1).bind fun y26 =>
  if (0+1)*160<=140737488355328/\0+1<=4611686018427387904 then
   (GI n h a0n.name ([b.1])).bind fun y32 =>
   if (0+1)*96<=140737488355328/\0+1<=4611686018427387904 then
    some ((b.2.1,Otc.mk b.2.2 ([(0,y26)]) ([]) ([y32]) ([])))
   else none
  else none
theorem MI (w0:World) (hE:Ry w0) (hM:RJ w0) (hP:Pow10 w0) (hT:Lib.Utf8Tabs 1 2 w0) (n:Nat) (B:Aj) (Rw:Am) (L:An) (la0:Nat) (a0n:Nod) (a0now:Int) (a0under:Int × List Int) (a0sent:Int) (a0state:Stt) (hla0:B[la0]? = some (Bd a0n a0now a0under a0sent a0state (.list ([]) .full) (.list ([]) .full) (.list ([]) .full) (.list ([]) .full))) (a1:Slt) (r:Int × Otc) (h:Fb n a0n a0now a0under a0sent a0state a1=some r) :
  ACalls Tryz.prog w0 73 [.box la0 0,.agg (Ll a1)] ⟨B,Rw,L⟩ fun x st=>x = .tup []/\st=⟨(B.set la0 (Bd a0n a0now a0under r.1 r.2.state (.list (r.2.outputs.map KN) .none) (.list (r.2.requests.map GQ) .none) (.list (r.2.fates.map Hn) .none) (.list (r.2.letters.map Cj) .none))),Rw,L⟩:=by
 rw [Fb] at h
 refine hd [] Tryz.func73 Tryz.ntmps73 fun M0 W0 hN ak aq m hu l hs=>?_
 simp only [As]
 have k:=(Af.1 hla0).1
 apply GW;intro KE U
 refine Ho (B':=B.set la0 (Bd a0n a0now a0under a0sent a0state (.list ([]) .full) (.list ([]) .full) (.list ([]) .full) (.list ([]) .full))) (by simp only [Bc hla0]) ?_
 have hs:=Ac (Ar hla0) hs
 refine rg [0,3] hs ?_
 obtain ⟨N,am,h⟩:=bind_some h
 refine rc 2 [0,3] hs ?_;intro K2 V
 refine Bm _ (EQ w0 n _ _ _ la0 a0n a0now a0under a0sent a0state (.list ([]) .full) (.list ([]) .full) (.list ([]) .full) (.list ([]) .full) (ef hs) a1 _ am) (hv hs) ?_;rintro _ _ ⟨rfl,rfl⟩
 refine ne hs V ?_
 clear V
 obtain ⟨o,af,h⟩:=bind_some h
 obtain ⟨av,ar,Z⟩:=Bo af
 have c:=Bq (f:=Cj) Z
 have d:(a1.items.map Cj).getD 0 .junk=_:=c
 have hs:=Ac c hs
 have hs:=Ac d hs
 refine rg [0,3,4] hs ?_
 apply Ah;intro K6 O
 obtain ⟨y7,ag,h⟩:=bind_some h
 obtain ⟨y8,ao,h⟩:=bind_some h
 obtain ⟨K,ai,h⟩:=bind_some h
 apply DF GP [20,21] [0,4,5,6] kr (fun s=>∃ (X:Aj) (rows:Am),s=⟨(B.set la0 (Bd a0n a0now a0under N.1 N.2 (.list ([]) .full) (.list ([]) .full) (.list ([]) .full) (.list ([]) .full)))++([Ll a1,T8 o]++X),rows,L⟩) 3 (B.length+2)
 ·simp +decide only [go_sem,Nat.reduceAdd]
 ·rintro s ⟨X,rows,rfl⟩
  refine ⟨4,?_⟩
  rw [Ai];simp +decide only [go_sem,Nat.reduceAdd,BK,Ar hla0,c,d]
  (repeat' apply Ac)<;>first | refine Aq _ (MQ w0 n _ _ _ a1.values _ ag) (hv hs) ?_ | exact cl
  rw [Ai];simp +decide only [go_sem,Nat.reduceAdd,Ar hla0,c,d]
  (repeat' apply Ac)<;>first | refine Aq _ (Ri w0 hP n _ _ _ o.body y7 _ ao) (hv hs) ?_ | exact cl
  rw [Ai];simp +decide only [go_sem,Nat.reduceAdd,Ar hla0,c,d]
  (repeat' apply Ac)<;>first | refine Aq _ (Lm w0 hE hM hP hT n _ _ _ a0n.mapping y8 a0n.type _ ai) (hv hs) ?_ | exact cl
  rw [Ai];simp +decide only [go_sem,Nat.reduceAdd,Ar hla0,c,d]
  (repeat' apply Ac)<;>first | rfl | exact cl
 ·exact gd (tg (a:=(20,21,[0,4,5,6]))) (Ac d (Ac c (Ac (Ar hla0) hs)))
 simp +decide only [go_sem,Nat.reduceAdd,Ar hla0,c,d]
 (repeat' apply Ac)<;>first | refine O _ _ ?_ | exact cl
 clear O
 apply Ah;intro K10 G
 refine rg [0,4,5,6,36] hs ?_
 refine BA h hs ?_ ?_<;>intro hs h
 ·have e:=hs.1
  apply Ah;intro K13 z
  obtain ⟨ah,aa,h⟩:=bind_some h
  have l:=l.full 10 0
  have l:=l.full 6 0
  obtain ⟨ax,Q,h⟩:=bind_some h
  apply Ud GP [4] [] kr (fun s=>∃ (X:Aj) (rows:Am) (F:List AV),s=⟨(B.set la0 F)++([Ll a1,T8 o,K.1.cs]++X),rows,L⟩) 2 (B.length+3)
  ·simp +decide only [go_sem,Nat.reduceAdd]
  ·rintro s ⟨X,rows,F,rfl⟩
   refine ⟨2,?_⟩
   rw [Ai];simp +decide only [go_sem,Nat.reduceAdd,BK,Ar hla0,c,d,e]
   (repeat' apply Ac)<;>first | refine Aq _ (Ku w0 _ _ _ K.2 _ aa) (hv hs) ?_ | exact cl
   rw [Ai];simp +decide only [go_sem,Nat.reduceAdd,Ar hla0,c,d,e]
   (repeat' apply Ac)<;>first | rfl | exact cl
  ·refine Good.mk [4] kr ⟨[],_,_,by first | rfl | simp only [List.append_nil,List.nil_append]⟩ ?_ ?_
   ·intro h;exact absurd h (by decide)
   ·intro i hi;simp only [List.mem_cons,List.not_mem_nil,or_false] at hi
    subst hi
    ·apply Ta rfl rfl ev rfl
     ·simp +decide only [go_sem,Nat.reduceAdd,Ar hla0,c,d,e]
     ·simp +decide only [go_sem,Nat.reduceAdd,Ar hla0,c,d,e]
     ·simp +decide only [go_sem,Nat.reduceAdd,Ar hla0,c,d,e]
      exact (Oc w0 n _ _ _ la0 a0n a0now a0under N.1 N.2 (.list ([]) .full) (.list ([]) .full) ([]) ([]) .full .full (ef hs) l.enter2a l.enter2b l.apart2 o ah _ Q).pub (hv hs)
     ·rintro _ _ ⟨rfl,Rg18,Rh19,aw,au,rfl,p,q⟩
      have l:=l.call2 p q
      simp +decide only [go_sem,Nat.reduceAdd,Ar hla0,c,d,e]
      refine Good.mk [] kr ⟨[],_,_,by first | rfl | simp only [List.append_nil,List.nil_append]⟩ ?_ ?_
      ·intro _;refine ⟨_,_,BM [] (by first | (simp +decide only [go_sem,Nat.reduceAdd,Ar hla0,c,d,e];done) | (simp +decide only [go_sem,Nat.reduceAdd,Ar hla0,c,d,e];rfl)),?_⟩
       try simp +decide only [go_sem,Nat.reduceAdd,Ar hla0,c,d,e]
       (repeat' apply Ac)<;>first | refine z _ _ ?_ | exact cl
       clear z
       first | refine JV k ?_ | refine HS k ?_
       exact go (tg (a:=((),()))) h hs hN ak aq m l trivial trivial
      ·intro i hi;cases hi
 have e:=hs.1
 refine sk [0,4,5] hs G ?_
 clear G
 obtain ⟨j,ab,h⟩:=bind_some h
 refine rc 2 [0,4,5,7] hs ?_;intro K22 D
 refine Bm _ (CP w0 _ _ _ la0 a0n a0now a0under N.1 N.2 (.list ([]) .full) (.list ([]) .full) (.list ([]) .full) (.list ([]) .full) (ef hs) _ ab) (hv hs) ?_;rintro _ _ ⟨rfl,rfl⟩
 refine ne hs D ?_
 clear D
 apply Ah;intro K24 C
 obtain ⟨Y,E,h⟩:=bind_some h
 obtain ⟨ap,t,h⟩:=bind_some h
 obtain ⟨v,h⟩:=Ak h
 have l:=l.full 11 0
 obtain ⟨aj,ae,l,b⟩:=l.append (P:=Tryz.prog) ZgO (by rw [ZaC];rfl) (by decide) 1 v.1 v.2
 simp only [Nat.zero_add] at l
 replace b:=fun (ys:List AV) B L o2=>b ([]) ys B L o2 Fe
 replace b:=fun (y:AV) B L o2=>b [y] B L o2 Fe ev
 try simp only [List.mem_singleton,List.mem_cons,List.not_mem_nil,or_false,forall_eq_or_imp,forall_eq,List.map_append,List.map_cons,List.map_nil,A2,A0,AY,A3,AZ,AX,AN,AG,A1,Ax,Az,AH,AM,AL,A5,AK,A6] at b
 apply IA GP [13,17] [5] [0,4,7] kr (fun s=>∃ (X:Aj) (rows:Am) (J:AV),s=⟨(B.set la0 (Bd a0n a0now a0under j.2.1 j.2.2 J (.list ([]) .full) (.list ([]) .full) (.list ([]) .full)))++([Ll a1,T8 o,K.1.cs,Ag j.1.1::([.list (j.1.2.map CE) .none])]++X),rows,L⟩) 3 (B.length+4)
 ·simp +decide only [go_sem,Nat.reduceAdd]
 ·refine ⟨3,?_⟩
  rw [Ai];simp +decide only [go_sem,Nat.reduceAdd,BK,Ar hla0,c,d,e,b]
  have hs:=Ac b hs
  (repeat' apply Ac)<;>first | refine Aq _ (MU w0 n _ _ _ o K.1 _ E) (hv hs) ?_ | exact cl
  rw [Ai];simp +decide only [go_sem,Nat.reduceAdd,Ar hla0,c,d,e,b]
  (repeat' apply Ac)<;>first | refine Aq _ (MJ w0 n _ _ _ Y j.1 _ t) (hv hs) ?_ | exact cl
  rw [Ai];simp +decide only [go_sem,Nat.reduceAdd,Ar hla0,c,d,e,b]
  (repeat' apply Ac)<;>first | rfl | exact cl
 ·rintro s ⟨X,rows,J,rfl⟩
  refine ⟨3,?_⟩
  rw [Ai];simp +decide only [go_sem,Nat.reduceAdd,BK,List.append_eq,List.cons_append,List.nil_append,Ar hla0,c,d,e,b]
  have hs:=Ac b hs
  (repeat' apply Ac)<;>first | refine Aq _ (MU w0 n _ _ _ o K.1 _ E) (hv hs) ?_ | exact cl
  rw [Ai];simp +decide only [go_sem,Nat.reduceAdd,Ar hla0,c,d,e,b]
  (repeat' apply Ac)<;>first | refine Aq _ (MJ w0 n _ _ _ Y j.1 _ t) (hv hs) ?_ | exact cl
  rw [Ai];simp +decide only [go_sem,Nat.reduceAdd,Ar hla0,c,d,e,b]
  (repeat' apply Ac)<;>first | rfl | ((repeat (first | exact .nil | refine .cons (ef hs) ?_));done) | exact cl
 ·exact gd (tg (a:=(13,17,[0,4,7]))) (Ac b (Ac d (Ac c (Ac (Ar hla0) hs))))
 simp +decide only [go_sem,Nat.reduceAdd,Ar hla0,c,d,e,b]
 (repeat' apply Ac)<;>first | refine C _ _ ?_ | exact cl
 clear C
 obtain ⟨ay,u,h⟩:=bind_some h
 obtain ⟨w,h⟩:=Ak h
 have l:=l.full 6 0
 obtain ⟨az,ad,l,g⟩:=l.append (P:=Tryz.prog) Zck (by rw [Xi];rfl) (by decide) 1 w.1 w.2
 simp only [Nat.zero_add] at l
 replace g:=fun (ys:List AV) B L o2=>g ([]) ys B L o2 Fe
 replace g:=fun (y:AV) B L o2=>g [y] B L o2 Fe ev
 try simp only [List.mem_singleton,List.mem_cons,List.not_mem_nil,or_false,forall_eq_or_imp,forall_eq,List.map_append,List.map_cons,List.map_nil,A2,A0,AY,A3,AZ,AX,AN,AG,A1,Ax,Az,AH,AM,AL,A5,AK,A6] at g
 apply IA GP [16,20] [5,11] [] kr (fun s=>∃ (X:Aj) (rows:Am) (H:AV),s=⟨(B.set la0 (Bd a0n a0now a0under j.2.1 j.2.2 (.list (([(0,ap)]).map KN) aj) (.list ([]) .full) H (.list ([]) .full)))++([Ll a1,T8 o,K.1.cs,Ag j.1.1::([.list (j.1.2.map CE) .none])]++X),rows,L⟩) 3 (B.length+4)
 ·simp +decide only [go_sem,Nat.reduceAdd]
 ·refine ⟨2,?_⟩
  rw [Ai];simp +decide only [go_sem,Nat.reduceAdd,BK,Ar hla0,c,d,e,b,g]
  have hs:=Ac b hs
  have hs:=Ac g hs
  (repeat' apply Ac)<;>first | refine Aq _ (I0 w0 n _ _ _ o a0n.name ([j.1]) _ u) (hv hs) ?_ | exact cl
  rw [Ai];simp +decide only [go_sem,Nat.reduceAdd,Ar hla0,c,d,e,b,g]
  (repeat' apply Ac)<;>first | rfl | exact cl
 ·rintro s ⟨X,rows,H,rfl⟩
  refine ⟨2,?_⟩
  rw [Ai];simp +decide only [go_sem,Nat.reduceAdd,BK,List.append_eq,List.cons_append,List.nil_append,Ar hla0,c,d,e,b,g]
  have hs:=Ac b hs
  have hs:=Ac g hs
  (repeat' apply Ac)<;>first | refine Aq _ (I0 w0 n _ _ _ o a0n.name ([j.1]) _ u) (hv hs) ?_ | exact cl
  rw [Ai];simp +decide only [go_sem,Nat.reduceAdd,Ar hla0,c,d,e,b,g]
  (repeat' apply Ac)<;>first | rfl | ((repeat (first | exact .nil | refine .cons (ef hs) ?_));done) | exact cl
 ·exact gd (tg (a:=(16,20,([]:List Nat)))) (Ac g (Ac b (Ac d (Ac c (Ac (Ar hla0) hs)))))
 simp +decide only [go_sem,Nat.reduceAdd,Ar hla0,c,d,e,b,g]
 (repeat' apply Ac)<;>first | refine U _ _ _ (F8 k) ?_ | refine U _ _ _ (Ew k) ?_ | exact cl
 simp +decide only [go_sem,Nat.reduceAdd,Ar hla0,c,d,e,b,g]
 have hgt:=Option.some.inj h;subst hgt
 first | refine Cb (AA m ev) GR l.pre ev ⟨?_,rfl⟩ | refine Dq (AA m ev) GR l.pre ev ⟨?_,rfl⟩
 first | rfl | (simp +decide only [go_sem,Nat.reduceAdd,Ar hla0,c,d,e,b,g];done) | (simp +decide only [go_sem,Nat.reduceAdd,Vl.cs,Ty.cs,Ar hla0,c,d,e,b,g];done)
def EP (n:Nat) (a0n:Nod) (a0now:Int) (a0under:Int × List Int) (a0sent:Int) (a0state:Stt) (b:Slt) (a2:Inp):Option (Int × Otc) :=
 if B1 ((a0n.calls.length:Int)-1) then
  if !a2.done then
   if B1 (b.number-1) then
    (CM n a0n a0now a0under a0sent a0state b (b.number-1)).bind fun y7 =>
    some ((y7.1,y7.2))
   else none
  else
   if B1 (2*b.number) then
    if B1 ((2*b.number)+1) then
     (D1 a0n.types ((2*b.number)+1)).bind fun x11 =>
     (Kx n x11 a2.body).bind fun y12 =>
     if (!y12)&&(decide (b.number=((a0n.calls.length:Int)-1))) then
      (CQ n a0n a0now a0under a0sent a0state b).bind fun y15 =>
      (D1 b.items 0).bind fun x16 =>
      (FY 18).bind fun y17 =>
      (U0 n a0n ([]) ([]) x16 y17).bind fun y20 =>
      some ((y15.1,Otc.mk y15.2 ([]) ([]) y20.1 y20.2))
     else
      if B1 (2*b.number) then
       if B1 ((2*b.number)+1) then
        (Kx n x11 a2.body).bind fun y28 =>
        if !y28 then
         (CM n a0n a0now a0under a0sent a0state b b.number).bind fun y =>
         some ((y.1,y.2))
        else
         if b.values.length*88<=140737488355328 then
          (Ce n a2.body).bind fun h =>
          if (b.values.length+1)*88<=140737488355328/\b.values.length+1<=4611686018427387904 then
           if decide (b.number=((a0n.calls.length:Int)-1)) then
            (Fb n a0n a0now a0under a0sent a0state (Slt.mk b.key b.number b.time b.items (b.values++([h])))).bind fun q =>
            some ((q.1,q.2))
           else
            if B1 (b.number+1) then
             (Dk n a0n a0now a0under a0sent a0state (Slt.mk b.key b.number b.time b.items (b.values++([h]))) (b.number+1)).bind fun g =>
             if !(decide (g.1=0)) then
              Av
             else
              some ((g.2.1,g.2.2))
            else none
          else none
         else none
       else none
      else none
    else none
   else none
 else none
theorem LC (w0:World) (hE:Ry w0) (hM:RJ w0) (hP:Pow10 w0) (hT:Lib.Utf8Tabs 1 2 w0) (n:Nat) (B:Aj) (Rw:Am) (L:An) (la0:Nat) (a0n:Nod) (a0now:Int) (a0under:Int × List Int) (a0sent:Int) (a0state:Stt) (hla0:B[la0]? = some (Bd a0n a0now a0under a0sent a0state (.list ([]) .full) (.list ([]) .full) (.list ([]) .full) (.list ([]) .full))) (a1:Slt) (a2:Inp) (r:Int × Otc) (h:EP n a0n a0now a0under a0sent a0state a1 a2=some r) :
  ACalls Tryz.prog w0 38 [.box la0 0,.agg (Ll a1),.agg (Xh a2)] ⟨B,Rw,L⟩ fun x st=>x = .tup []/\st=⟨(B.set la0 (Bd a0n a0now a0under r.1 r.2.state (.list (r.2.outputs.map KN) .none) (.list (r.2.requests.map GQ) .none) (.list (r.2.fates.map Hn) .none) (.list (r.2.letters.map Cj) .none))),Rw,L⟩:=by
 rw [EP] at h
 refine hd [] Tryz.func38 Tryz.ntmps38 fun M0 W0 hN a8 ba l hu o hs=>?_
 simp only [As]
 have k:=(Af.1 hla0).1
 apply GW;intro KE p
 refine Ho (B':=B.set la0 (Bd a0n a0now a0under a0sent a0state (.list ([]) .full) (.list ([]) .full) (.list ([]) .full) (.list ([]) .full))) (by simp only [Bc hla0]) ?_
 have hs:=Ac (Ar hla0) hs
 refine rg [0,4,5] hs ?_
 obtain ⟨az,h⟩:=Ak h
 refine dg 14 1 1 [0,4,5,6,7] hs GP ?_
 apply Ao
 refine rg [0,4,5,6,7,45] hs ?_
 refine BA h hs ?_ ?_<;>intro hs h
 ·have d:=hs.1
  obtain ⟨a4,h⟩:=Ak h
  obtain ⟨y7,aj,h⟩:=bind_some h
  apply Ap 2 []
  rw [Ai];simp +decide only [go_sem,Nat.reduceAdd,Ar hla0,d]
  (repeat' apply Ac)<;>first | (refine Bm _ (D5 w0 n _ _ _ la0 a0n a0now a0under a0sent a0state (ef hs) a1 (a1.number-1) _ aj) (hv hs) ?_;rintro _ _ ⟨rfl,rfl⟩) | exact cl
  rw [Ai];simp +decide only [go_sem,Nat.reduceAdd,Ar hla0,d]
  (repeat' apply Ac)<;>first | refine p _ _ _ (F8 k) ?_ | refine p _ _ _ (Ew k) ?_ | exact cl
  simp +decide only [go_sem,Nat.reduceAdd,Ar hla0,d]
  have hgt:=Option.some.inj h;subst hgt
  first | refine Cb (AA l ev) GR o.pre ev ⟨?_,rfl⟩ | refine Dq (AA l ev) GR o.pre ev ⟨?_,rfl⟩
  first | rfl | (simp +decide only [go_sem,Nat.reduceAdd,Ar hla0,d];done) | (simp +decide only [go_sem,Nat.reduceAdd,Vl.cs,Ty.cs,Ar hla0,d];done)
 have d:=hs.1
 obtain ⟨bb,h⟩:=Ak h
 obtain ⟨aq,h⟩:=Ak h
 obtain ⟨K,af,h⟩:=bind_some h
 obtain ⟨am,ak,G⟩:=Bo af
 have a:=Bq (f:=JX) G
 obtain ⟨a9,Y,h⟩:=bind_some h
 have hs:=Ac a hs
 apply Ah;intro K8 aa
 refine dk 18 2 1 [0,4,5,6,7,54] hs GP ?_
 refine Aq _ (PH w0 hT n _ _ _ K a2.body _ Y) (hv hs) ?_
 refine dn hs aa ?_
 clear aa
 refine BA h hs ?_ ?_<;>intro hs h
 ·have c:=hs.1
  obtain ⟨ab,J,h⟩:=bind_some h
  refine rc 2 [0,4] hs ?_;intro K14 D
  refine Bm _ (EQ w0 n _ _ _ la0 a0n a0now a0under a0sent a0state (.list ([]) .full) (.list ([]) .full) (.list ([]) .full) (.list ([]) .full) (ef hs) a1 _ J) (hv hs) ?_;rintro _ _ ⟨rfl,rfl⟩
  refine ne hs D ?_
  clear D
  obtain ⟨ap,ai,ao,g,h⟩:=ix Cj h
  have j:(a1.items.map Cj).getD 0 .junk=_:=g
  obtain ⟨ah,N,h⟩:=bind_some h
  have o:=o.full 10 0
  have o:=o.full 6 0
  obtain ⟨a5,U,h⟩:=bind_some h
  apply Ud GP [6] [] kr (fun s=>∃ (X:Aj) (rows:Am) (E:List AV),s=⟨(B.set la0 E)++([Ll a1,Xh a2]++X),rows,L⟩) 2 (B.length+2)
  ·simp +decide only [go_sem,Nat.reduceAdd]
  ·rintro s ⟨X,rows,E,rfl⟩
   refine ⟨2,?_⟩
   rw [Ai];simp +decide only [go_sem,Nat.reduceAdd,BK,Ar hla0,d,a,c,g,j]
   have hs:=Ac g hs
   have hs:=Ac j hs
   (repeat' apply Ac)<;>first | refine Aq _ (Ku w0 _ _ _ 18 _ N) (hv hs) ?_ | exact cl
   rw [Ai];simp +decide only [go_sem,Nat.reduceAdd,Ar hla0,d,a,c,g,j]
   (repeat' apply Ac)<;>first | rfl | exact cl
  ·refine Good.mk [6] kr ⟨[],_,_,by first | rfl | simp only [List.append_nil,List.nil_append]⟩ ?_ ?_
   ·intro h;exact absurd h (by decide)
   ·intro i hi;simp only [List.mem_cons,List.not_mem_nil,or_false] at hi
    subst hi
    ·apply Ta rfl rfl ev rfl
     ·simp +decide only [go_sem,Nat.reduceAdd,Ar hla0,d,a,c,g,j]
     ·simp +decide only [go_sem,Nat.reduceAdd,Ar hla0,d,a,c,g,j]
     ·simp +decide only [go_sem,Nat.reduceAdd,Ar hla0,d,a,c,g,j]
      have hs:=Ac g hs
      have hs:=Ac j hs
      exact (Oc w0 n _ _ _ la0 a0n a0now a0under ab.1 ab.2 (.list ([]) .full) (.list ([]) .full) ([]) ([]) .full .full (ef hs) o.enter2a o.enter2b o.apart2 ap ah _ U).pub (hv hs)
     ·rintro _ _ ⟨rfl,Rg21,Rh22,aw,au,rfl,u,t⟩
      have o:=o.call2 u t
      simp +decide only [go_sem,Nat.reduceAdd,Ar hla0,d,a,c,g,j]
      refine Good.mk [] kr ⟨[],_,_,by first | rfl | simp only [List.append_nil,List.nil_append]⟩ ?_ ?_
      ·intro _;refine ⟨_,_,BM [] (by first | (simp +decide only [go_sem,Nat.reduceAdd,Ar hla0,d,a,c,g,j];done) | (simp +decide only [go_sem,Nat.reduceAdd,Ar hla0,d,a,c,g,j];rfl)),?_⟩
       try simp +decide only [go_sem,Nat.reduceAdd,Ar hla0,d,a,c,g,j]
       (repeat' apply Ac)<;>first | refine p _ _ _ (F8 k) ?_ | refine p _ _ _ (Ew k) ?_ | exact cl
       simp +decide only [go_sem,Nat.reduceAdd,Ar hla0,d,a,c,g,j]
       have hgt:=Option.some.inj h;subst hgt
       first | refine Cb (AA l ev) GR o.pre ev ⟨?_,rfl⟩ | refine Dq (AA l ev) GR o.pre ev ⟨?_,rfl⟩
       first | rfl | (simp +decide only [go_sem,Nat.reduceAdd,Ar hla0,d,a,c,g,j];done) | (simp +decide only [go_sem,Nat.reduceAdd,Vl.cs,Ty.cs,Ar hla0,d,a,c,g,j];done)
      ·intro i hi;cases hi
 have c:=hs.1
 obtain ⟨av,h⟩:=Ak h
 obtain ⟨ar,h⟩:=Ak h
 obtain ⟨a7,H,h⟩:=bind_some h
 apply Ah;intro K25 F
 refine dk 15 2 1 [0,4,5,6,7,82] hs GP ?_
 refine Aq _ (PH w0 hT n _ _ _ K a2.body _ H) (hv hs) ?_
 refine dn hs F ?_
 clear F
 refine BA h hs ?_ ?_<;>intro hs h
 ·have e:=hs.1
  obtain ⟨a3,V,h⟩:=bind_some h
  apply Ap 2 []
  rw [Ai];simp +decide only [go_sem,Nat.reduceAdd,Ar hla0,d,a,c,e]
  (repeat' apply Ac)<;>first | (refine Bm _ (D5 w0 n _ _ _ la0 a0n a0now a0under a0sent a0state (ef hs) a1 a1.number _ V) (hv hs) ?_;rintro _ _ ⟨rfl,rfl⟩) | exact cl
  rw [Ai];simp +decide only [go_sem,Nat.reduceAdd,Ar hla0,d,a,c,e]
  (repeat' apply Ac)<;>first | refine p _ _ _ (F8 k) ?_ | refine p _ _ _ (Ew k) ?_ | exact cl
  simp +decide only [go_sem,Nat.reduceAdd,Ar hla0,d,a,c,e]
  have hgt:=Option.some.inj h;subst hgt
  first | refine Cb (AA l ev) GR o.pre ev ⟨?_,rfl⟩ | refine Dq (AA l ev) GR o.pre ev ⟨?_,rfl⟩
  first | rfl | (simp +decide only [go_sem,Nat.reduceAdd,Ar hla0,d,a,c,e];done) | (simp +decide only [go_sem,Nat.reduceAdd,Vl.cs,Ty.cs,Ar hla0,d,a,c,e];done)
 have e:=hs.1
 refine rg [0,4,5,6,7,8] hs ?_
 apply Ah;intro K32 C
 obtain ⟨Z,h⟩:=Ak h
 have o:=o.clone 6 a1.values.length
 obtain ⟨ad,Q,h⟩:=bind_some h
 obtain ⟨w,h⟩:=Ak h
 obtain ⟨a0,ag,o,b⟩:=o.append (P:=Tryz.prog) NQ (by rw [IB];rfl) (by decide) 1 w.1 w.2
 replace b:=fun (ys:List AV) B L o2=>b (a1.values.map B6) ys B L o2 Fe
 replace b:=fun (y:AV) B L o2=>b [y] B L o2 Fe ev
 try simp only [List.mem_singleton,List.mem_cons,List.not_mem_nil,or_false,forall_eq_or_imp,forall_eq,List.map_append,List.map_cons,List.map_nil,A2,A0,AY,A3,AZ,AX,AN,AG,A1,Ax,Az,AH,AM,AL,A5,AK,A6] at b
 apply DF GP [2,7,9] [0,4,6,7,8] kr (fun s=>∃ (X:Aj) (rows:Am) (c2:List AV),s=⟨(B.set la0 (Bd a0n a0now a0under a0sent a0state (.list ([]) .full) (.list ([]) .full) (.list ([]) .full) (.list ([]) .full)))++([[Ag a1.key.kind,Ag a1.key.int,Ag a1.key.scale,.val (.string a1.key.text),.list (a1.key.list.map B6) .none,.list (a1.key.fields.map B7) .none,Ag a1.number,Ag a1.time,.list (a1.items.map Cj) .none,.list (a1.values.map B6) .none],Xh a2,c2]++X),rows,L⟩) 4 (B.length+3)
 ·simp +decide only [go_sem,Nat.reduceAdd]
 ·rintro s ⟨X,rows,c2,rfl⟩
  refine ⟨2,?_⟩
  rw [Ai];simp +decide only [go_sem,Nat.reduceAdd,BK,Ar hla0,d,a,c,e,b,Vl.cs_eqs a1.key]
  have hs:=Ac b hs
  have hs:=Ac (Vl.cs_eqs a1.key) hs
  (repeat' apply Ac)<;>first | refine Aq _ (BX w0 n _ _ _ a2.body _ Q) (hv hs) ?_ | exact cl
  rw [Ai];simp +decide only [go_sem,Nat.reduceAdd,Ar hla0,d,a,c,e,b,Vl.cs_eqs a1.key]
  (repeat' apply Ac)<;>first | rfl | exact cl
 ·refine Good.mk [2] kr ⟨[],_,_,by first | rfl | (simp only [List.append_nil,List.nil_append];done) | (simp only [List.append_nil,List.nil_append,List.map_append,List.map_cons,List.map_nil,A2,A0,AY,A3,AZ,AX,AN,AG,A1,Ax,Az,AH,AM,AL,A5,AK,A6,Vl.cs_eqs a1.key];rfl)⟩ ?_ ?_
  ·intro h;exact absurd h (by decide)
  ·intro i hi;simp only [List.mem_cons,List.not_mem_nil,or_false] at hi
   subst hi
   ·apply Aw rfl rfl ev
    ·simp +decide only [go_sem,Nat.reduceAdd,A7,Ar hla0,d,a,c,e,b,Vl.cs_eqs a1.key]
     have hs:=Ac b hs
     have hs:=Ac (Vl.cs_eqs a1.key) hs
     (repeat' with_reducible apply Ac)<;>first | exact E7 (JH w0 _ _ _ a1.values Z) (hv hs) | rfl | exact cl
    ·simp +decide only [go_sem,Nat.reduceAdd,Ar hla0,d,a,c,e,b,Vl.cs_eqs a1.key]
     refine Good.mk [7] kr ⟨[],_,_,by first | rfl | (simp only [List.append_nil,List.nil_append];done) | (simp only [List.append_nil,List.nil_append,List.map_append,List.map_cons,List.map_nil,A2,A0,AY,A3,AZ,AX,AN,AG,A1,Ax,Az,AH,AM,AL,A5,AK,A6,Vl.cs_eqs a1.key];rfl)⟩ ?_ ?_
     ·intro h;exact absurd h (by decide)
     ·intro i hi;simp only [List.mem_cons,List.not_mem_nil,or_false] at hi
      subst hi
      ·apply Aw rfl rfl ev
       ·simp +decide only [go_sem,Nat.reduceAdd,A7,Ar hla0,d,a,c,e,b,Vl.cs_eqs a1.key]
        (repeat' apply Ac)<;>first | rfl | exact cl
       ·simp +decide only [go_sem,Nat.reduceAdd,Ar hla0,d,a,c,e,b,Vl.cs_eqs a1.key]
        refine Good.mk [9] kr ⟨[],_,_,by first | rfl | (simp only [List.append_nil,List.nil_append];done) | (simp only [List.append_nil,List.nil_append,List.map_append,List.map_cons,List.map_nil,A2,A0,AY,A3,AZ,AX,AN,AG,A1,Ax,Az,AH,AM,AL,A5,AK,A6,Vl.cs_eqs a1.key];rfl)⟩ ?_ ?_
        ·intro h;exact absurd h (by decide)
        ·intro i hi;simp only [List.mem_cons,List.not_mem_nil,or_false] at hi
         subst hi
         ·apply Aw rfl rfl ev
          ·simp +decide only [go_sem,Nat.reduceAdd,A7,Ar hla0,d,a,c,e,b,Vl.cs_eqs a1.key]
           (repeat' apply Ac)<;>first | rfl | exact cl
          ·simp +decide only [go_sem,Nat.reduceAdd,Ar hla0,d,a,c,e,b,Vl.cs_eqs a1.key]
           refine Good.mk [] kr ⟨[],_,_,by first | rfl | (simp only [List.append_nil,List.nil_append];done) | (simp only [List.append_nil,List.nil_append,List.map_append,List.map_cons,List.map_nil,A2,A0,AY,A3,AZ,AX,AN,AG,A1,Ax,Az,AH,AM,AL,A5,AK,A6,Vl.cs_eqs a1.key];rfl)⟩ ?_ ?_
           ·intro _;apply BM [0,4,6,7,8];first | (simp +decide only [go_sem,Nat.reduceAdd,Ar hla0,d,a,c,e,b,Vl.cs_eqs a1.key];done) | (simp +decide only [go_sem,Nat.reduceAdd,Ar hla0,d,a,c,e,b,Vl.cs_eqs a1.key];rfl)
           ·intro i hi;cases hi
 simp +decide only [go_sem,Nat.reduceAdd,Ar hla0,d,a,c,e,b,Vl.cs_eqs a1.key]
 (repeat' apply Ac)<;>first | refine C _ _ ?_ | exact cl
 clear C
 have hs:=Ac b hs
 have hs:=Ac (Vl.cs_eqs a1.key) hs
 refine rg [0,4,6,8,31] hs ?_
 refine BA h hs ?_ ?_<;>intro hs h
 ·have m:=hs.1
  obtain ⟨ay,O,h⟩:=bind_some h
  apply Ap 2 []
  rw [Ai];simp +decide only [go_sem,Nat.reduceAdd,Ar hla0,d,a,c,e,b,Vl.cs_eqs a1.key,m]
  (repeat' apply Ac)<;>first | (refine Bm _ (MI w0 hE hM hP hT n _ _ _ la0 a0n a0now a0under a0sent a0state (ef hs) (Slt.mk a1.key a1.number a1.time a1.items (a1.values++([ad]))) _ O) (hv hs) ?_;rintro _ _ ⟨rfl,rfl⟩) | exact cl
  rw [Ai];simp +decide only [go_sem,Nat.reduceAdd,Ar hla0,d,a,c,e,b,Vl.cs_eqs a1.key,m]
  (repeat' apply Ac)<;>first | refine p _ _ _ (F8 k) ?_ | refine p _ _ _ (Ew k) ?_ | exact cl
  simp +decide only [go_sem,Nat.reduceAdd,Ar hla0,d,a,c,e,b,Vl.cs_eqs a1.key,m]
  have hgt:=Option.some.inj h;subst hgt
  first | refine Cb (AA l ev) GR o.pre ev ⟨?_,(by first | rfl | exact congrArg (fun z=>St.mk z Rw L) (Bc hla0).symm | (simp +decide only [go_sem,Nat.reduceAdd,Ar hla0,d,a,c,e,b,Vl.cs_eqs a1.key,m];done))⟩ | refine Dq (AA l ev) GR o.pre ev ⟨?_,(by first | rfl | exact congrArg (fun z=>St.mk z Rw L) (Bc hla0).symm | (simp +decide only [go_sem,Nat.reduceAdd,Ar hla0,d,a,c,e,b,Vl.cs_eqs a1.key,m];done))⟩
  first | rfl | (simp +decide only [go_sem,Nat.reduceAdd,Ar hla0,d,a,c,e,b,Vl.cs_eqs a1.key,m];done) | (simp +decide only [go_sem,Nat.reduceAdd,Vl.cs,Ty.cs,Ar hla0,d,a,c,e,b,Vl.cs_eqs a1.key,m];done)
 have m:=hs.1
 obtain ⟨ax,h⟩:=Ak h
 obtain ⟨a6,ae,h⟩:=bind_some h
 refine rc 2 [0,4,6,40] hs ?_;intro K43 v
 refine Bm _ (GM w0 hE hM hP hT n _ _ _ la0 a0n a0now a0under a0sent a0state (ef hs) (Slt.mk a1.key a1.number a1.time a1.items (a1.values++([ad]))) (a1.number+1) _ ae) (hv hs) ?_;rintro _ _ ⟨rfl,rfl⟩
 refine ne hs v ?_
 clear v
 refine BA h hs ?_ ?_<;>intro hs h
 ·have q:=hs.1
  exact nS h
 have q:=hs.1
 refine CX (BW [] _) ?_ (BD _ _)
 apply BB;simp +decide only [go_sem,Nat.reduceAdd]
 (repeat' apply Ac)<;>first | refine p _ _ _ (F8 k) ?_ | refine p _ _ _ (Ew k) ?_ | exact cl
 simp +decide only [go_sem,Nat.reduceAdd,Ar hla0,d,a,c,e,b,Vl.cs_eqs a1.key,m,q]
 have hgt:=Option.some.inj h;subst hgt
 first | refine Cb (AA l ev) GR o.pre ev ⟨?_,(by first | rfl | exact congrArg (fun z=>St.mk z Rw L) (Bc hla0).symm | (simp +decide only [go_sem,Nat.reduceAdd,Ar hla0,d,a,c,e,b,Vl.cs_eqs a1.key,m,q];done))⟩ | refine Dq (AA l ev) GR o.pre ev ⟨?_,(by first | rfl | exact congrArg (fun z=>St.mk z Rw L) (Bc hla0).symm | (simp +decide only [go_sem,Nat.reduceAdd,Ar hla0,d,a,c,e,b,Vl.cs_eqs a1.key,m,q];done))⟩
 first | rfl | (simp +decide only [go_sem,Nat.reduceAdd,Ar hla0,d,a,c,e,b,Vl.cs_eqs a1.key,m,q];done) | (simp +decide only [go_sem,Nat.reduceAdd,Vl.cs,Ty.cs,Ar hla0,d,a,c,e,b,Vl.cs_eqs a1.key,m,q];done)
def BV (n:Nat)  (pla0_k17_23:Int) (pla0_k17_24:Stt) (pla0_k17_27:List (Int × Msg)) (pla0_k17_28:List Rqs) (pla0_k17_29:List Fte) (pla0_k17_30:List Msg):Option (Int × Otc) :=
 some ((pla0_k17_23,Otc.mk pla0_k17_24 pla0_k17_27 pla0_k17_28 pla0_k17_29 pla0_k17_30))
def E9 (n:Nat) (a0n:Nod) (a0now:Int) (a0under:Int × List Int) (a0sent:Int) (a0state:Stt) (q:Inp):Nat->Option (Int × Otc)
 | 0=>none
 | m+1 =>
  if decide (0<(a0state.slots.length:Int)) then
   (D1 a0state.slots 0).bind fun b =>
   if B1 (q.call-b.key.int) then
    if (decide ((q.call-b.key.int)<0))||(decide ((a0n.calls.length:Int)<=(q.call-b.key.int))) then
     Av
    else
     if (!q.undo)&&(decide (b.number=(q.call-b.key.int))) then
      (EP n a0n a0now a0under a0sent a0state b q).bind fun g =>
      BV n g.1 g.2.state g.2.outputs g.2.requests g.2.fates g.2.letters
     else
      if q.undo then
       if B1 ((a0n.calls.length:Int)+(q.call-b.key.int)) then
        if decide (b.number=((a0n.calls.length:Int)+(q.call-b.key.int))) then
         (EH n a0n a0now a0under a0sent a0state b).bind fun h =>
         BV n h.1 h.2.state h.2.outputs h.2.requests h.2.fates h.2.letters
        else
         BV n a0sent a0state ([]) ([]) ([]) ([])
       else none
      else
       BV n a0sent a0state ([]) ([]) ([]) ([])
   else none
  else
   some ((a0sent,Otc.mk a0state ([]) ([]) ([]) ([])))
def FB (n:Nat) (a0n:Nod) (a0now:Int) (a0under:Int × List Int) (a0sent:Int) (a0state:Stt) (b:Inp):Option (Int × Otc) :=
 E9 n a0n a0now a0under a0sent a0state b n 
theorem M8 (w0:World) (hE:Ry w0) (hM:RJ w0) (hP:Pow10 w0) (hT:Lib.Utf8Tabs 1 2 w0) (n:Nat) (B:Aj) (Rw:Am) (L:An) (la0:Nat) (a0n:Nod) (a0now:Int) (a0under:Int × List Int) (a0sent:Int) (a0state:Stt) (hla0:B[la0]? = some (Bd a0n a0now a0under a0sent a0state (.list ([]) .full) (.list ([]) .full) (.list ([]) .full) (.list ([]) .full))) (a1:Inp) (r:Int × Otc) (h:FB n a0n a0now a0under a0sent a0state a1=some r) :
  ACalls Tryz.prog w0 23 [.box la0 0,.agg (Xh a1)] ⟨B,Rw,L⟩ fun x st=>x = .tup []/\st=⟨(B.set la0 (Bd a0n a0now a0under r.1 r.2.state (.list (r.2.outputs.map KN) .none) (.list (r.2.requests.map GQ) .none) (.list (r.2.fates.map Hn) .none) (.list (r.2.letters.map Cj) .none))),Rw,L⟩:=by
 rw [FB] at h
 refine hd [] Tryz.func23 Tryz.ntmps23 fun M0 W0 Q D E l hu p hs=>?_
 simp only [As]
 have b:=(Af.1 hla0).1
 apply GW;intro KE H
 refine Ho (B':=B.set la0 (Bd a0n a0now a0under a0sent a0state (.list ([]) .full) (.list ([]) .full) (.list ([]) .full) (.list ([]) .full))) (by simp only [Bc hla0]) ?_
 have hs:=Ac (Ar hla0) hs
 refine rg [0,3] hs ?_
 refine rg [0,3,4] hs ?_
 refine rg [0,3,4,19,20,21] hs ?_
 apply Ao
 refine AB (fun m e st=>∃ (Xl4:Aj) (Rl4:Am),e=[(0,true,.box la0 0),(3,true,.box B.length 0),(4,true,Ag (a0n.calls.length:Int)),(19,true,.list (a0state.slots.map Br) .none),(20,true,Ag (a0state.slots.length:Int)),(21,true,Ag 0)]/\st=⟨(B.set la0 (Bd a0n a0now a0under a0sent a0state (.list ([]) .full) (.list ([]) .full) (.list ([]) .full) (.list ([]) .full)))++([Xh a1]++Xl4),Rl4,L⟩/\Owns Rw Rl4 []/\E9 n a0n a0now a0under a0sent a0state a1 m  = some r) n ⟨([]),Rw,ef hs,ef hs,p,h⟩ ?_
 rintro ml4 e st ⟨Xl4,Rl4,rfl,rfl,p,h⟩ Ul4 Vl4
 cases ml4 with
 | zero=>cases h
 | succ ml4 =>
 rw [E9] at h
 refine DW Q D E GR (AA (DJ l p.len) ow) p ow ow ?_
 refine rg [0,3,4,19,20,21,22] hs ?_
 apply Ah;intro K6 G
 refine BA h hs ?_ ?_<;>intro hs h
 rotate_left
 ·have v:=hs.1
  refine CX (BW [] _) ?_ (BD _ _)
  apply D4;simp +decide only [go_sem,Nat.reduceAdd]
  (repeat' apply Ac)<;>first | refine H _ _ _ (F8 b) ?_ | refine H _ _ _ (Ew b) ?_ | exact cl
  simp +decide only [go_sem,Nat.reduceAdd,Ar hla0,v]
  have hgt:=Option.some.inj h;subst hgt
  first | refine Cb (AA l ev) GR p.pre ev ⟨?_,rfl⟩ | refine Dq (AA l ev) GR p.pre ev ⟨?_,rfl⟩
  first | rfl | (simp +decide only [go_sem,Nat.reduceAdd,Ar hla0,v];done) | (simp +decide only [go_sem,Nat.reduceAdd,Vl.cs,Ty.cs,Ar hla0,v];done)
 have v:=hs.1
 refine sk [0,3,4,19,20,21] hs G ?_
 clear G
 apply Ah;intro K8 Z
 apply Ao
 obtain ⟨y,K,h⟩:=bind_some h
 obtain ⟨O,U,C⟩:=Bo K
 have u:=Bq (f:=Br) C
 have z:(a0state.slots.map Br).getD 0 .junk=_:=u
 have hs:=Ac u hs
 have hs:=Ac z hs
 refine rg [0,3,4,6,19,20,21] hs ?_
 obtain ⟨Y,h⟩:=Ak h
 refine rg [0,3,4,6,7,19,20,21] hs ?_
 apply Ah;intro K13 w
 refine rg [0,3,4,6,7,19,20,21,37] hs ?_
 refine BA h hs ?_ ?_<;>intro hs h
 ·have J:=hs.1
  exact nS h
 have J:=hs.1
 refine sk [0,3,4,6,7] hs w ?_
 clear w
 refine AO (fun e st=>∃ (j:Int) (d:Stt) (i:List (Int × Msg)) (k:List Rqs) (g:List Fte) (c:List Msg) (Xk17:Aj) (Rk17:Am),e=[]/\st=⟨(B.set la0 (Bd a0n a0now a0under j d (.list (i.map KN) .none) (.list (k.map GQ) .none) (.list (g.map Hn) .none) (.list (c.map Cj) .none)))++([Xh a1,Ll y]++Xk17),Rk17,L⟩/\Owns Rw Rk17 []/\BV n j d i k g c=some r) ?_ ?_
 ·intro K18 o
  apply Ao
  refine rg [0,3,4,6,7,38] hs ?_
  refine BA h hs ?_ ?_<;>intro hs h
  ·obtain ⟨s,N,h⟩:=bind_some h
   refine rk 2 [] hs ?_
   refine Bm _ (LC w0 hE hM hP hT n _ _ _ la0 a0n a0now a0under a0sent a0state (ef hs) y a1 _ N) (hv hs) ?_;rintro _ _ ⟨rfl,rfl⟩
   refine ne hs o ?_
   exact ⟨s.1,s.2.state,s.2.outputs,s.2.requests,s.2.fates,s.2.letters,([]),Rl4,ef hs,ef hs,p,h⟩
  apply Ah;intro K22 q
  rcases Bool.eq_false_or_eq_true (a1.undo) with hf23 | hf23
  ·replace h:=BO h hf23
   obtain ⟨V,h⟩:=Ak h
   have hs:=Ac hf23 hs
   refine rl [0,6,52] hs q ?_
   clear q
   refine BA h hs ?_ ?_<;>intro hs h
   ·obtain ⟨t,F,h⟩:=bind_some h
    refine rk 2 [] hs ?_
    refine Bm _ (KT w0 n _ _ _ la0 a0n a0now a0under a0sent a0state (ef hs) y _ F) (hv hs) ?_;rintro _ _ ⟨rfl,rfl⟩
    refine ne hs o ?_
    exact ⟨t.1,t.2.state,t.2.outputs,t.2.requests,t.2.fates,t.2.letters,([]),Rl4,ef hs,ef hs,p,h⟩
   first | refine JV b ?_ | refine HS b ?_
   refine sk [] hs o ?_
   exact ⟨a0sent,a0state,([]),([]),([]),([]),([]),Rl4,ef hs,ef hs,p,h⟩
  ·replace h:=BP h hf23
   have hs:=Ac hf23 hs
   refine rl [0,6,52] hs q ?_
   clear q
   refine Bl false ev (ef hs) (fun hb27=>by cases hb27) (fun hb27=>?_)
   first | refine JV b ?_ | refine HS b ?_
   refine sk [] hs o ?_
   exact ⟨a0sent,a0state,([]),([]),([]),([]),([]),Rl4,ef hs,ef hs,p,h⟩
 ·clear h;rintro e st ⟨j,d,i,k,g,c,Xk17,Rk17,rfl,rfl,p,h⟩
  rw [BV] at h
  refine DW Q D E GR (AA (DJ l p.len) ow) p ow ow ?_
  first | refine JV b ?_ | refine HS b ?_
  exact go (tg (a:=((),()))) h hs Q D E l p trivial trivial
def GU (n:Nat)  (b7_k5_23:Int) (b7_k5_24:Stt) (b7_k5_27:List (Int × Msg)) (b7_k5_28:List Rqs) (b7_k5_29:List Fte) (b7_k5_30:List Msg):Option Otc :=
 some (Otc.mk b7_k5_24 b7_k5_27 b7_k5_28 b7_k5_29 b7_k5_30)
def FP (n:Nat) (a0:Nod) (a1:Stt) (y:Inp):Option Otc :=
 (Me n a0 a1 y).bind fun b =>
 if decide (y.kind=1) then
  (ER n b.n b.now b.under b.sent b.out.state y.message).bind fun g =>
  GU n g.1 g.2.state g.2.outputs g.2.requests g.2.fates g.2.letters
 else
  if decide (y.kind=3) then
   (FB n b.n b.now b.under b.sent b.out.state y).bind fun h =>
   GU n h.1 h.2.state h.2.outputs h.2.requests h.2.fates h.2.letters
  else
   if decide (y.kind=2) then
    (FN n b.n b.now b.under b.sent b.out.state).bind fun q =>
    GU n q.1 q.2.state q.2.outputs q.2.requests q.2.fates q.2.letters
   else
    Av
theorem G9 (w0:World) (hE:Ry w0) (hM:RJ w0) (hP:Pow10 w0) (hT:Lib.Utf8Tabs 1 2 w0) (n:Nat) (B:Aj) (Rw:Am) (L:An) (a0:Nod) (a1:Stt) (a2:Inp) (r:Otc) (h:FP n a0 a1 a2=some r) :
  ACalls Tryz.prog w0 8 [.agg (Rf a0),.agg (DR a1),.agg (Xh a2)] ⟨B,Rw,L⟩ fun x st=>x = .agg (ocL r)/\st=⟨B,Rw,L⟩:=by
 rw [FP] at h
 refine hd [.cell 6 47] Tryz.func8 Tryz.ntmps8 fun M0 W0 K E H s N u hs=>?_
 simp only [As]
 refine rg [3,4,5,6] hs ?_
 obtain ⟨m,G,h⟩:=bind_some h
 refine rc 2 [5,6,7] hs ?_;intro K2 v
 refine Bm _ (UE w0 n _ _ _ a0 a1 a2 _ G) (hv hs) ?_;rintro _ _ ⟨rfl,rfl⟩
 refine ne hs v ?_
 clear v
 refine AO (fun e st=>∃ (c:Int) (b:Stt) (f:List (Int × Msg)) (d:List Rqs) (a:List Fte) (g:List Msg) (j:AV) (k:AV) (i:AV) (l:AV),Ck e st B Rw L [(6,true,.box (B.length+3) 0),(7,true,.box (B.length+7) 0)] [Rf a0,DR a1,Xh a2,[Ag 0,Ag 0,.list ([]) .full,.list ([]) .full,.list ([]) .full,.list ([]) .full,.list ([]) .full],Rf a0,DR a1,Xh a2,Bd m.n m.now m.under c b (j) (k) (i) (l)] [] (j.pub = .list (f.map KN) .none/\k.pub = .list (d.map GQ) .none/\i.pub = .list (a.map Hn) .none/\l.pub = .list (g.map Cj) .none/\GU n c b f d a g=some r)) ?_ ?_
 ·intro K6 t
  refine rg [5,6,7,13] hs ?_
  apply Ao
  refine rg [5,6,7,13,14] hs ?_
  refine BA h hs ?_ ?_<;>intro hs h
  ·obtain ⟨o,w,h⟩:=bind_some h
   refine rk 2 [6,7] hs ?_
   refine Bm _ (LG w0 hE hM hP hT n _ _ _ (B.length+7) m.n m.now m.under m.sent m.out.state (ef hs) a2.message _ w) (hv hs) ?_;rintro _ _ ⟨rfl,rfl⟩
   refine ne hs t ?_
   exact ⟨o.1,o.2.state,o.2.outputs,o.2.requests,o.2.fates,o.2.letters,_,_,_,_,([]),Rw,ef hs,ef hs,u,ef hs,ef hs,ef hs,ef hs,h⟩
  refine rg [5,6,7,13,20] hs ?_
  refine BA h hs ?_ ?_<;>intro hs h
  ·obtain ⟨p,z,h⟩:=bind_some h
   refine rk 2 [6,7] hs ?_
   refine Bm _ (M8 w0 hE hM hP hT n _ _ _ (B.length+7) m.n m.now m.under m.sent m.out.state (ef hs) a2 _ z) (hv hs) ?_;rintro _ _ ⟨rfl,rfl⟩
   refine ne hs t ?_
   exact ⟨p.1,p.2.state,p.2.outputs,p.2.requests,p.2.fates,p.2.letters,_,_,_,_,([]),Rw,ef hs,ef hs,u,ef hs,ef hs,ef hs,ef hs,h⟩
  refine rg [6,7,25] hs ?_
  refine BA h hs ?_ ?_<;>intro hs h
  ·obtain ⟨q,y,h⟩:=bind_some h
   refine rk 2 [6,7] hs ?_
   refine Bm _ (M6 w0 n _ _ _ (B.length+7) m.n m.now m.under m.sent m.out.state (ef hs) _ y) (hv hs) ?_;rintro _ _ ⟨rfl,rfl⟩
   refine ne hs t ?_
   exact ⟨q.1,q.2.state,q.2.outputs,q.2.requests,q.2.fates,q.2.letters,_,_,_,_,([]),Rw,ef hs,ef hs,u,ef hs,ef hs,ef hs,ef hs,h⟩
  exact nS h
 ·clear h;rintro e st ⟨c,b,f,d,a,g,j,k,i,l,Xk5,Rk5,rfl,rfl,u,F,J,C,D,h⟩
  rw [GU] at h
  refine Ef (B.length+7) 27 (by first | rfl | (simp only [C6,Cd,DC,CV];rfl)) Zay F ?_;simp +decide only [go_sem,Nat.reduceAdd]
  refine Ef (B.length+7) 28 (by first | rfl | (simp only [C6,Cd,DC,CV];rfl)) ZbJ J ?_;simp +decide only [go_sem,Nat.reduceAdd]
  refine Ef (B.length+7) 29 (by first | rfl | (simp only [C6,Cd,DC,CV];rfl)) ZaS C ?_;simp +decide only [go_sem,Nat.reduceAdd]
  refine Ef (B.length+7) 30 (by first | rfl | (simp only [C6,Cd,DC,CV];rfl)) Zbq D ?_;simp +decide only [go_sem,Nat.reduceAdd]
  show CW _ _ _ _ _ _ _ _ [(6,true,.box (B.length+3) 0),(7,true,.box (B.length+7) 0)] ⟨B++([Rf a0,DR a1,Xh a2,[Ag 0,Ag 0,.list ([]) .full,.list ([]) .full,.list ([]) .full,.list ([]) .full,.list ([]) .full],Rf a0,DR a1,Xh a2,Bd m.n m.now m.under c b (.list (f.map KN) .none) (.list (d.map GQ) .none) (.list (a.map Hn) .none) (.list (g.map Cj) .none)]++Xk5),Rk5,L⟩
  refine td K E H s u ?_
  refine rg [6] hs ?_
  exact rt h hs s u
def Ff (n:Nat) (g:List Int) (b:List Int):Option Int :=
 if decide ((g.length:Int)<(b.length:Int)) then
  Av
 else
  some (0)
def DD (n:Nat) (h:List Int) (g:List Int) (a2:Int->Int->Option Int):Nat->Int->Option Int
 | 0,_=>none
 | m+1,b =>
  if decide (b<(h.length:Int)) then
   (D1 h b).bind fun x12 =>
   if decide ((g.length:Int)<=b) then
    Av
   else
    (D1 g b).bind fun y =>
    (a2 x12 y).bind fun q =>
    if !(decide (q=0)) then
     Av
    else
     if B1 (b+1) then
      (DD n h g a2 m) (b+1)
     else none
  else
   Ff n h g 
def FU (n:Nat) (g:List Int) (b:List Int) (h:Int->Int->Option Int):Option Int :=
 DD n g b h n 0
theorem MW (w0:World) (n:Nat) (B:Aj) (Rw:Am) (L:An) (a0:List Int) (a1:List Int) (fa2:FuncId) (ca2:List AV) (a2:Int->Int->Option Int) (ha2:∀ (x0:Int) (x1:Int) r,a2 x0 x1=some r->∀ B' rows,B <+: B'->Rw <+: rows->ACalls Tryz.prog w0 fa2 ([Ag x0,Ag x1]++ca2) ⟨B',rows,L⟩ fun v s=>v=Ag r/\s=⟨B',rows,L⟩) (r:Int) (h:FU n a0 a1 a2=some r) :
  ACalls Tryz.prog w0 54 [.list (a0.map CE) .none,.list (a1.map CE) .none,.clo fa2 ca2] ⟨B,Rw,L⟩ fun x st=>x=Ag r/\st=⟨B,Rw,L⟩:=by
 rw [FU] at h
 refine hd [.tmp 6] Tryz.func54 Tryz.ntmps54 fun M0 W0 j g i d l f hs=>?_
 simp only [As]
 have b:=BJ (l (.clo fa2 ca2) (by simp))
 refine rg [0,1,2] hs ?_
 refine AO (fun e st=>Ck e st B Rw L [(0,true,.list (a0.map CE) .none),(1,true,.list (a1.map CE) .none)] [] [] (Ff n a0 a1  = some r)) ?_ ?_
 ·intro K4 k
  refine rg [0,1,2,11,12,13] hs ?_
  apply Ao
  refine AB (fun m e st=>∃ (c:Int),Ck e st B Rw L [(0,true,.list (a0.map CE) .none),(1,true,.list (a1.map CE) .none),(2,true,.clo fa2 ca2),(11,true,.list (a0.map CE) .none),(12,true,Ag (a0.length:Int)),(13,true,Ag c)] [] [] (DD n a0 a1 a2 m c=some r)) n ⟨0,([]),Rw,ef hs,ef hs,f,h⟩ ?_
  rintro ml6 e st ⟨c,Xl6,Rl6,rfl,rfl,f,h⟩ Ul6 Vl6
  cases ml6 with
  | zero=>cases h
  | succ ml6 =>
  rw [DD] at h
  refine A8 j g i rfl d f (Hv b f) (Hv b f) ?_
  exact go (tg (a:=([0,1,2,11,12,13,14],([0,1,2,11,12,13],[0,1,2,7,8,11,12,13],[0,1,2,7,8,11,12,13,21],((),()),[0,1,2,7,8,11,12,13],[0,1,2,8,9,11,12,13],[0,1,2,10,11,12,13],[0,1,2,10,11,12,13,31],((),()),[0,1,2,11,12,13],[0,1,2,11,12,13],()),[0,1],()))) h hs j g i d f (q1 ha2) (q2 k (fun e s=>Vl6 ml6 e s (Nat.lt_succ_self _)))
 ·clear h;rintro e st ⟨Xk3,Rk3,rfl,rfl,f,h⟩
  rw [Ff] at h
  refine A8 j g i rfl d f (Hv b f) (Hv b f) ?_
  exact go (tg (a:=([38],((),()),[],[6],()))) h hs j g i d f trivial trivial
def D8 (g:Int) (b:Int):Int :=
 if g<b then -1 else if g=b then 0 else 1
theorem Pn (w0:World) (B:Aj) (Rw:Am) (L:An) (a0:Int) (a1:Int) (r:Int) (h:D8 a0 a1=r) :
  ACalls Tryz.prog w0 55 [Ag a0,Ag a1] ⟨B,Rw,L⟩ fun x st=>x=Ag r/\st=⟨B,Rw,L⟩:=by
 rw [D8] at h
 refine hd [.tmp 4] Tryz.func55 Tryz.ntmps55 fun M0 W0 f c d b g e hs=>?_
 simp only [As]
 exact go (tg (a:=([0,1],[4],()))) h hs f c d b e (q1 (JU w0)) trivial
theorem Oy (w0:World) (B:Aj) (Rw:Am) (L:An) (a0:Int) (a1:Int) :
  ACalls Tryz.prog w0 55 [Ag a0,Ag a1] ⟨B,Rw,L⟩ fun x st=>x=Ag (D8 a0 a1)/\st=⟨B,Rw,L⟩:=Pn w0 B Rw L a0 a1 _ rfl
def IW (n:Nat) (g:Int × List Int) (b:Int × List Int):Option Int :=
 (FU n g.2 b.2 (fun (x0:Int) (h:Int)=>some (D8 x0 h))).bind fun q =>
 (Hh n ([if g.1<b.1 then -1 else if g.1=b.1 then 0 else 1,q])).bind fun y =>
 some (y)
theorem Qn (w0:World) (n:Nat) (B:Aj) (Rw:Am) (L:An) (a0:Int × List Int) (a1:Int × List Int) (r:Int) (h:IW n a0 a1=some r) :
  ACalls Tryz.prog w0 27 [.agg (Ag a0.1::([.list (a0.2.map CE) .none])),.agg (Ag a1.1::([.list (a1.2.map CE) .none]))] ⟨B,Rw,L⟩ fun x st=>x=Ag r/\st=⟨B,Rw,L⟩:=by
 rw [IW] at h
 refine hd [.tmp 4] Tryz.func27 Tryz.ntmps27 fun M0 W0 i c d b m g hs=>?_
 simp only [As]
 refine rg [2,3] hs ?_
 obtain ⟨o,hy3,h⟩:=bind_some h
 obtain ⟨p,j,h⟩:=bind_some h
 apply Ah;intro K2 e
 refine dk 13 4 1 [4] hs GP ?_
 refine Aq _ (JU w0 _ _ _ a0.1 a1.1) (hv hs) ?_
 refine nc hs ?_
 refine Aq _ (MW w0 n _ _ _ a0.2 a1.2 55 [] (fun (x0:Int) (x1:Int)=>some (D8 x0 x1)) (fun x0 x1 r hx l rows' k f=>by cases hx;exact Oy w0 _ _ _ x0 x1) _ hy3) (hv hs) ?_
 exact go (tg (a:=((),()))) h hs i c d b g (q1 (Lj w0 n)) (q1 e)
def Ih (n:Nat) (g:Int × List Int) (b:Int × List Int):Option Bool :=
 (IW n g b).bind fun h =>
 some (decide (h=0))
theorem NZ (w0:World) (n:Nat) (B:Aj) (Rw:Am) (L:An) (a0:Int × List Int) (a1:Int × List Int) (r:Bool) (h:Ih n a0 a1=some r) :
  ACalls Tryz.prog w0 13 [.agg (Ag a0.1::([.list (a0.2.map CE) .none])),.agg (Ag a1.1::([.list (a1.2.map CE) .none]))] ⟨B,Rw,L⟩ fun x st=>x = .val (.bool r)/\st=⟨B,Rw,L⟩:=by
 rw [Ih] at h
 refine hd [.tmp 4] Tryz.func13 Tryz.ntmps13 fun M0 W0 f c d b g e hs=>?_
 simp only [As]
 exact go (tg (a:=([2,3],[4],()))) h hs f c d b e (q1 (Qn w0 n)) trivial
def KD (n:Nat)  : Option Bool :=
 (Jp n 2 0 5 9).bind fun y =>
 (Ko n 5 3).bind fun y5 =>
 (FP n y (Stt.mk 0 0 ([])) y5).bind fun y6 =>
 (Hk n 7 1 false true 1).bind fun y8 =>
 (FP n y y6.state y8).bind fun q =>
 (Hk n 9 2 false false 0).bind fun y11 =>
 (FP n y q.state y11).bind fun h =>
 (Hk n 9 2 false true 4).bind fun y14 =>
 (FP n y q.state y14).bind fun b =>
 if decide ((y6.requests.length:Int)=1) then
  (D1 y6.requests 0).bind fun x18 =>
  if (OA x18.service ((⟨#[115,48]⟩:ByteArray)))&&(decide ((q.requests.length:Int)=1)) then
   (D1 q.requests 0).bind fun x20 =>
   if (decide (x20.call=2))&&(decide ((h.requests.length:Int)=1)) then
    (D1 h.requests 0).bind fun g =>
    if g.undo then
     if (decide (g.call=1))&&(decide ((b.outputs.length:Int)=1)) then
      (D1 b.outputs 0).bind fun x25 =>
      (Ih n x25.2.stamp ((9,[1,0]))).bind fun y26 =>
      some (y26&&(decide ((b.state.slots.length:Int)=0)))
     else
      Av
    else
     Av
   else
    Av
  else
   Av
 else
  Av
theorem Wn (w0:World) (hE:Ry w0) (hM:RJ w0) (hP:Pow10 w0) (hT:Lib.Utf8Tabs 1 2 w0) (n:Nat) (B:Aj) (Rw:Am) (L:An)  (r:Bool) (h:KD n  = some r) :
  ACalls Tryz.prog w0 5 [] ⟨B,Rw,L⟩ fun x st=>x = .val (.bool r)/\st=⟨B,Rw,L⟩:=by
 rw [KD] at h
 refine ACalls.finP (BN (rs:=[.tmp 0]) Tryz.func5 rfl rfl Tryz.ntmps5 (AU Tryz.func5 rfl (by decide)) (Nat.le_of_ble_eq_true rfl) ?_)
 intro M0 W0 hN ao ay l hu
 dsimp only at hN ao ay l hu
 simp only [As]
 have hO:=Owns.none Rw
 apply Ah;intro K1 J
 apply Ap 1 []
 rw [Ai];simp +decide only [go_sem,Nat.reduceAdd]
 (repeat' apply Ac)<;>first | refine J _ _ ?_ | (intros;omega) | (intros;simp_all;done) | (intros;simp only [Bool.or_eq_false_iff,Bool.or_eq_true,Bool.and_eq_true,Bool.and_eq_false_iff,decide_eq_true_eq,decide_eq_false_iff_not,bne_iff_ne] at *; omega)
 clear J
 apply Ah;intro K2 H
 obtain ⟨m,aw,h⟩:=bind_some h
 apply Ap 2 [1]
 rw [Ai];simp +decide only [go_sem,Nat.reduceAdd]
 (repeat' apply Ac)<;>first | refine Aq _ (Q8 w0 n _ _ _ 2 0 5 9 _ aw) (by first | rfl | (simp +decide only [go_sem,Nat.reduceAdd];done) | (simp +decide only [go_sem,Nat.reduceAdd,Vl.cs,Ty.cs];done)) ?_ | (intros;omega) | (intros;simp_all;done) | (intros;simp only [Bool.or_eq_false_iff,Bool.or_eq_true,Bool.and_eq_true,Bool.and_eq_false_iff,decide_eq_true_eq,decide_eq_false_iff_not,bne_iff_ne] at *; omega)
 rw [Ai];simp +decide only [go_sem,Nat.reduceAdd]
 (repeat' apply Ac)<;>first | refine H _ _ ?_ | (intros;omega) | (intros;simp_all;done) | (intros;simp only [Bool.or_eq_false_iff,Bool.or_eq_true,Bool.and_eq_true,Bool.and_eq_false_iff,decide_eq_true_eq,decide_eq_false_iff_not,bne_iff_ne] at *; omega)
 clear H
 apply Ah;intro K4 Y
 obtain ⟨y5,av,h⟩:=bind_some h
 obtain ⟨C,af,h⟩:=bind_some h
 apply DF GP [4,5] [1,2] (by kernel_rfl) (fun s=>∃ (X:Aj) (rows:Am),s=⟨B++([Rf m]++X),rows,L⟩) 3 (B.length+1)
 ·simp +decide only [go_sem,Nat.reduceAdd]
 ·rintro s ⟨X,rows,rfl⟩
  refine ⟨3,?_⟩
  rw [Ai];simp +decide only [go_sem,Nat.reduceAdd,BK,EE,C0,Ci]
  (repeat' apply Ac)<;>first | refine Aq _ (Qc w0 n _ _ _ 5 3 _ av) (by first | rfl | (simp +decide only [go_sem,Nat.reduceAdd,EE,C0,Ci];done) | (simp +decide only [go_sem,Nat.reduceAdd,Vl.cs,Ty.cs,EE,C0,Ci];done)) ?_ | (intros;omega) | (intros;simp_all;done) | (intros;simp only [Bool.or_eq_false_iff,Bool.or_eq_true,Bool.and_eq_true,Bool.and_eq_false_iff,decide_eq_true_eq,decide_eq_false_iff_not,bne_iff_ne] at *; omega)
  rw [Ai];simp +decide only [go_sem,Nat.reduceAdd,EE,C0,Ci]
  (repeat' apply Ac)<;>first | refine Aq _ (G9 w0 hE hM hP hT n _ _ _ m (Stt.mk 0 0 ([])) y5 _ af) (by first | rfl | (simp +decide only [go_sem,Nat.reduceAdd,EE,C0,Ci];done) | (simp +decide only [go_sem,Nat.reduceAdd,Vl.cs,Ty.cs,EE,C0,Ci];done)) ?_ | (intros;omega) | (intros;simp_all;done) | (intros;simp only [Bool.or_eq_false_iff,Bool.or_eq_true,Bool.and_eq_true,Bool.and_eq_false_iff,decide_eq_true_eq,decide_eq_false_iff_not,bne_iff_ne] at *; omega)
  rw [Ai];simp +decide only [go_sem,Nat.reduceAdd,EE,C0,Ci]
  (repeat' apply Ac)<;>first | rfl | (intros;omega) | (intros;simp_all;done) | (intros;simp only [Bool.or_eq_false_iff,Bool.or_eq_true,Bool.and_eq_true,Bool.and_eq_false_iff,decide_eq_true_eq,decide_eq_false_iff_not,bne_iff_ne] at *; omega)
 ·refine Good.mk [4] (by kernel_rfl) ⟨[],_,by first | rfl | simp only [List.append_nil,List.nil_append]⟩ ?_ ?_
  ·intro h;exact absurd h (by decide)
  ·intro i hi;simp only [List.mem_cons,List.not_mem_nil,or_false] at hi
   subst hi
   ·apply Aw rfl rfl (by simp +decide only [go_sem,Nat.reduceAdd])
    ·simp +decide only [go_sem,Nat.reduceAdd,A7,EE,C0,Ci]
     (repeat' apply Ac)<;>first | rfl | (intros;omega) | (intros;simp_all;done) | (intros;simp only [Bool.or_eq_false_iff,Bool.or_eq_true,Bool.and_eq_true,Bool.and_eq_false_iff,decide_eq_true_eq,decide_eq_false_iff_not,bne_iff_ne] at *; omega)
    ·simp +decide only [go_sem,Nat.reduceAdd,EE,C0,Ci]
     refine Good.mk [5] (by kernel_rfl) ⟨_,_,by first | rfl | simp only [List.append_nil,List.nil_append]⟩ ?_ ?_
     ·intro h;exact absurd h (by decide)
     ·intro i hi;simp only [List.mem_cons,List.not_mem_nil,or_false] at hi
      subst hi
      ·apply Aw rfl rfl (by simp +decide only [go_sem,Nat.reduceAdd])
       ·simp +decide only [go_sem,Nat.reduceAdd,A7,EE,C0,Ci]
        (repeat' apply Ac)<;>first | rfl | (intros;omega) | (intros;simp_all;done) | (intros;simp only [Bool.or_eq_false_iff,Bool.or_eq_true,Bool.and_eq_true,Bool.and_eq_false_iff,decide_eq_true_eq,decide_eq_false_iff_not,bne_iff_ne] at *; omega)
       ·simp +decide only [go_sem,Nat.reduceAdd,EE,C0,Ci]
        refine Good.mk [] (by kernel_rfl) ⟨_,_,by first | rfl | simp only [List.append_nil,List.nil_append]⟩ ?_ ?_
        ·intro _;apply BM [1,2];first | (simp +decide only [go_sem,Nat.reduceAdd,EE,C0,Ci];done) | (simp +decide only [go_sem,Nat.reduceAdd,EE,C0,Ci];rfl)
        ·intro i hi;cases hi
 simp +decide only [go_sem,Nat.reduceAdd,EE,C0,Ci]
 (repeat' apply Ac)<;>first | refine Y _ _ ?_ | (intros;omega) | (intros;simp_all;done) | (intros;simp only [Bool.or_eq_false_iff,Bool.or_eq_true,Bool.and_eq_true,Bool.and_eq_false_iff,decide_eq_true_eq,decide_eq_false_iff_not,bne_iff_ne] at *; omega)
 clear Y
 apply Ah;intro K7 O
 obtain ⟨y8,ax,h⟩:=bind_some h
 obtain ⟨z,am,h⟩:=bind_some h
 apply DF GP [5,6] [1,2,3] (by kernel_rfl) (fun s=>∃ (X:Aj) (rows:Am),s=⟨B++([Rf m,ocL C]++X),rows,L⟩) 3 (B.length+2)
 ·simp +decide only [go_sem,Nat.reduceAdd]
 ·rintro s ⟨X,rows,rfl⟩
  refine ⟨3,?_⟩
  rw [Ai];simp +decide only [go_sem,Nat.reduceAdd,BK]
  (repeat' apply Ac)<;>first | refine Aq _ (KY w0 n _ _ _ 7 1 false true 1 _ ax) (by first | rfl | (simp +decide only [go_sem,Nat.reduceAdd];done) | (simp +decide only [go_sem,Nat.reduceAdd,Vl.cs,Ty.cs];done)) ?_ | (intros;omega) | (intros;simp_all;done) | (intros;simp only [Bool.or_eq_false_iff,Bool.or_eq_true,Bool.and_eq_true,Bool.and_eq_false_iff,decide_eq_true_eq,decide_eq_false_iff_not,bne_iff_ne] at *; omega)
  rw [Ai];simp +decide only [go_sem,Nat.reduceAdd]
  (repeat' apply Ac)<;>first | refine Aq _ (G9 w0 hE hM hP hT n _ _ _ m C.state y8 _ am) (by first | rfl | (simp +decide only [go_sem,Nat.reduceAdd];done) | (simp +decide only [go_sem,Nat.reduceAdd,Vl.cs,Ty.cs];done)) ?_ | (intros;omega) | (intros;simp_all;done) | (intros;simp only [Bool.or_eq_false_iff,Bool.or_eq_true,Bool.and_eq_true,Bool.and_eq_false_iff,decide_eq_true_eq,decide_eq_false_iff_not,bne_iff_ne] at *; omega)
  rw [Ai];simp +decide only [go_sem,Nat.reduceAdd]
  (repeat' apply Ac)<;>first | rfl | (intros;omega) | (intros;simp_all;done) | (intros;simp only [Bool.or_eq_false_iff,Bool.or_eq_true,Bool.and_eq_true,Bool.and_eq_false_iff,decide_eq_true_eq,decide_eq_false_iff_not,bne_iff_ne] at *; omega)
 ·refine Good.mk [5] (by kernel_rfl) ⟨[],_,by first | rfl | simp only [List.append_nil,List.nil_append]⟩ ?_ ?_
  ·intro h;exact absurd h (by decide)
  ·intro i hi;simp only [List.mem_cons,List.not_mem_nil,or_false] at hi
   subst hi
   ·apply Aw rfl rfl (by simp +decide only [go_sem,Nat.reduceAdd])
    ·simp +decide only [go_sem,Nat.reduceAdd,A7]
     (repeat' apply Ac)<;>first | rfl | (intros;omega) | (intros;simp_all;done) | (intros;simp only [Bool.or_eq_false_iff,Bool.or_eq_true,Bool.and_eq_true,Bool.and_eq_false_iff,decide_eq_true_eq,decide_eq_false_iff_not,bne_iff_ne] at *; omega)
    ·simp +decide only [go_sem,Nat.reduceAdd]
     refine Good.mk [6] (by kernel_rfl) ⟨_,_,by first | rfl | simp only [List.append_nil,List.nil_append]⟩ ?_ ?_
     ·intro h;exact absurd h (by decide)
     ·intro i hi;simp only [List.mem_cons,List.not_mem_nil,or_false] at hi
      subst hi
      ·apply Aw rfl rfl (by simp +decide only [go_sem,Nat.reduceAdd])
       ·simp +decide only [go_sem,Nat.reduceAdd,A7]
        (repeat' apply Ac)<;>first | rfl | (intros;omega) | (intros;simp_all;done) | (intros;simp only [Bool.or_eq_false_iff,Bool.or_eq_true,Bool.and_eq_true,Bool.and_eq_false_iff,decide_eq_true_eq,decide_eq_false_iff_not,bne_iff_ne] at *; omega)
       ·simp +decide only [go_sem,Nat.reduceAdd]
        refine Good.mk [] (by kernel_rfl) ⟨_,_,by first | rfl | simp only [List.append_nil,List.nil_append]⟩ ?_ ?_
        ·intro _;apply BM [1,2,3];first | (simp +decide only [go_sem,Nat.reduceAdd];done) | (simp +decide only [go_sem,Nat.reduceAdd];rfl)
        ·intro i hi;cases hi
 simp +decide only [go_sem,Nat.reduceAdd]
 (repeat' apply Ac)<;>first | refine O _ _ ?_ | (intros;omega) | (intros;simp_all;done) | (intros;simp only [Bool.or_eq_false_iff,Bool.or_eq_true,Bool.and_eq_true,Bool.and_eq_false_iff,decide_eq_true_eq,decide_eq_false_iff_not,bne_iff_ne] at *; omega)
 clear O
 apply Ah;intro K10 p
 obtain ⟨aq,F,h⟩:=bind_some h
 obtain ⟨w,U,h⟩:=bind_some h
 apply DF GP [5,6] [1,2,3,4] (by kernel_rfl) (fun s=>∃ (X:Aj) (rows:Am),s=⟨B++([Rf m,ocL C,ocL z]++X),rows,L⟩) 3 (B.length+3)
 ·simp +decide only [go_sem,Nat.reduceAdd]
 ·rintro s ⟨X,rows,rfl⟩
  refine ⟨3,?_⟩
  rw [Ai];simp +decide only [go_sem,Nat.reduceAdd,BK]
  (repeat' apply Ac)<;>first | refine Aq _ (KY w0 n _ _ _ 9 2 false false 0 _ F) (by first | rfl | (simp +decide only [go_sem,Nat.reduceAdd];done) | (simp +decide only [go_sem,Nat.reduceAdd,Vl.cs,Ty.cs];done)) ?_ | (intros;omega) | (intros;simp_all;done) | (intros;simp only [Bool.or_eq_false_iff,Bool.or_eq_true,Bool.and_eq_true,Bool.and_eq_false_iff,decide_eq_true_eq,decide_eq_false_iff_not,bne_iff_ne] at *; omega)
  rw [Ai];simp +decide only [go_sem,Nat.reduceAdd]
  (repeat' apply Ac)<;>first | refine Aq _ (G9 w0 hE hM hP hT n _ _ _ m z.state aq _ U) (by first | rfl | (simp +decide only [go_sem,Nat.reduceAdd];done) | (simp +decide only [go_sem,Nat.reduceAdd,Vl.cs,Ty.cs];done)) ?_ | (intros;omega) | (intros;simp_all;done) | (intros;simp only [Bool.or_eq_false_iff,Bool.or_eq_true,Bool.and_eq_true,Bool.and_eq_false_iff,decide_eq_true_eq,decide_eq_false_iff_not,bne_iff_ne] at *; omega)
  rw [Ai];simp +decide only [go_sem,Nat.reduceAdd]
  (repeat' apply Ac)<;>first | rfl | (intros;omega) | (intros;simp_all;done) | (intros;simp only [Bool.or_eq_false_iff,Bool.or_eq_true,Bool.and_eq_true,Bool.and_eq_false_iff,decide_eq_true_eq,decide_eq_false_iff_not,bne_iff_ne] at *; omega)
 ·refine Good.mk [5] (by kernel_rfl) ⟨[],_,by first | rfl | simp only [List.append_nil,List.nil_append]⟩ ?_ ?_
  ·intro h;exact absurd h (by decide)
  ·intro i hi;simp only [List.mem_cons,List.not_mem_nil,or_false] at hi
   subst hi
   ·apply Aw rfl rfl (by simp +decide only [go_sem,Nat.reduceAdd])
    ·simp +decide only [go_sem,Nat.reduceAdd,A7]
     (repeat' apply Ac)<;>first | rfl | (intros;omega) | (intros;simp_all;done) | (intros;simp only [Bool.or_eq_false_iff,Bool.or_eq_true,Bool.and_eq_true,Bool.and_eq_false_iff,decide_eq_true_eq,decide_eq_false_iff_not,bne_iff_ne] at *; omega)
    ·simp +decide only [go_sem,Nat.reduceAdd]
     refine Good.mk [6] (by kernel_rfl) ⟨_,_,by first | rfl | simp only [List.append_nil,List.nil_append]⟩ ?_ ?_
     ·intro h;exact absurd h (by decide)
     ·intro i hi;simp only [List.mem_cons,List.not_mem_nil,or_false] at hi
      subst hi
      ·apply Aw rfl rfl (by simp +decide only [go_sem,Nat.reduceAdd])
       ·simp +decide only [go_sem,Nat.reduceAdd,A7]
        (repeat' apply Ac)<;>first | rfl | (intros;omega) | (intros;simp_all;done) | (intros;simp only [Bool.or_eq_false_iff,Bool.or_eq_true,Bool.and_eq_true,Bool.and_eq_false_iff,decide_eq_true_eq,decide_eq_false_iff_not,bne_iff_ne] at *; omega)
       ·simp +decide only [go_sem,Nat.reduceAdd]
        refine Good.mk [] (by kernel_rfl) ⟨_,_,by first | rfl | simp only [List.append_nil,List.nil_append]⟩ ?_ ?_
        ·intro _;apply BM [1,2,3,4];first | (simp +decide only [go_sem,Nat.reduceAdd];done) | (simp +decide only [go_sem,Nat.reduceAdd];rfl)
        ·intro i hi;cases hi
 simp +decide only [go_sem,Nat.reduceAdd]
 (repeat' apply Ac)<;>first | refine p _ _ ?_ | (intros;omega) | (intros;simp_all;done) | (intros;simp only [Bool.or_eq_false_iff,Bool.or_eq_true,Bool.and_eq_true,Bool.and_eq_false_iff,decide_eq_true_eq,decide_eq_false_iff_not,bne_iff_ne] at *; omega)
 clear p
 apply Ah;intro K13 o
 obtain ⟨ai,V,h⟩:=bind_some h
 obtain ⟨aa,E,h⟩:=bind_some h
 apply DF GP [5,6] [2,3,4,5] (by kernel_rfl) (fun s=>∃ (X:Aj) (rows:Am),s=⟨B++([Rf m,ocL C,ocL z,ocL w]++X),rows,L⟩) 3 (B.length+4)
 ·simp +decide only [go_sem,Nat.reduceAdd]
 ·rintro s ⟨X,rows,rfl⟩
  refine ⟨3,?_⟩
  rw [Ai];simp +decide only [go_sem,Nat.reduceAdd,BK]
  (repeat' apply Ac)<;>first | refine Aq _ (KY w0 n _ _ _ 9 2 false true 4 _ V) (by first | rfl | (simp +decide only [go_sem,Nat.reduceAdd];done) | (simp +decide only [go_sem,Nat.reduceAdd,Vl.cs,Ty.cs];done)) ?_ | (intros;omega) | (intros;simp_all;done) | (intros;simp only [Bool.or_eq_false_iff,Bool.or_eq_true,Bool.and_eq_true,Bool.and_eq_false_iff,decide_eq_true_eq,decide_eq_false_iff_not,bne_iff_ne] at *; omega)
  rw [Ai];simp +decide only [go_sem,Nat.reduceAdd]
  (repeat' apply Ac)<;>first | refine Aq _ (G9 w0 hE hM hP hT n _ _ _ m z.state ai _ E) (by first | rfl | (simp +decide only [go_sem,Nat.reduceAdd];done) | (simp +decide only [go_sem,Nat.reduceAdd,Vl.cs,Ty.cs];done)) ?_ | (intros;omega) | (intros;simp_all;done) | (intros;simp only [Bool.or_eq_false_iff,Bool.or_eq_true,Bool.and_eq_true,Bool.and_eq_false_iff,decide_eq_true_eq,decide_eq_false_iff_not,bne_iff_ne] at *; omega)
  rw [Ai];simp +decide only [go_sem,Nat.reduceAdd]
  (repeat' apply Ac)<;>first | rfl | (intros;omega) | (intros;simp_all;done) | (intros;simp only [Bool.or_eq_false_iff,Bool.or_eq_true,Bool.and_eq_true,Bool.and_eq_false_iff,decide_eq_true_eq,decide_eq_false_iff_not,bne_iff_ne] at *; omega)
 ·refine Good.mk [5] (by kernel_rfl) ⟨[],_,by first | rfl | simp only [List.append_nil,List.nil_append]⟩ ?_ ?_
  ·intro h;exact absurd h (by decide)
  ·intro i hi;simp only [List.mem_cons,List.not_mem_nil,or_false] at hi
   subst hi
   ·apply Aw rfl rfl (by simp +decide only [go_sem,Nat.reduceAdd])
    ·simp +decide only [go_sem,Nat.reduceAdd,A7]
     (repeat' apply Ac)<;>first | rfl | (intros;omega) | (intros;simp_all;done) | (intros;simp only [Bool.or_eq_false_iff,Bool.or_eq_true,Bool.and_eq_true,Bool.and_eq_false_iff,decide_eq_true_eq,decide_eq_false_iff_not,bne_iff_ne] at *; omega)
    ·simp +decide only [go_sem,Nat.reduceAdd]
     refine Good.mk [6] (by kernel_rfl) ⟨_,_,by first | rfl | simp only [List.append_nil,List.nil_append]⟩ ?_ ?_
     ·intro h;exact absurd h (by decide)
     ·intro i hi;simp only [List.mem_cons,List.not_mem_nil,or_false] at hi
      subst hi
      ·apply Aw rfl rfl (by simp +decide only [go_sem,Nat.reduceAdd])
       ·simp +decide only [go_sem,Nat.reduceAdd,A7]
        (repeat' apply Ac)<;>first | rfl | (intros;omega) | (intros;simp_all;done) | (intros;simp only [Bool.or_eq_false_iff,Bool.or_eq_true,Bool.and_eq_true,Bool.and_eq_false_iff,decide_eq_true_eq,decide_eq_false_iff_not,bne_iff_ne] at *; omega)
       ·simp +decide only [go_sem,Nat.reduceAdd]
        refine Good.mk [] (by kernel_rfl) ⟨_,_,by first | rfl | simp only [List.append_nil,List.nil_append]⟩ ?_ ?_
        ·intro _;apply BM [2,3,4,5];first | (simp +decide only [go_sem,Nat.reduceAdd];done) | (simp +decide only [go_sem,Nat.reduceAdd];rfl)
        ·intro i hi;cases hi
 simp +decide only [go_sem,Nat.reduceAdd]
 (repeat' apply Ac)<;>first | refine o _ _ ?_ | (intros;omega) | (intros;simp_all;done) | (intros;simp only [Bool.or_eq_false_iff,Bool.or_eq_true,Bool.and_eq_true,Bool.and_eq_false_iff,decide_eq_true_eq,decide_eq_false_iff_not,bne_iff_ne] at *; omega)
 clear o
 apply Ah;intro K16 q
 rcases Bool.eq_false_or_eq_true (decide ((C.requests.length:Int)=1)) with hf17 | hf17
 ·replace h:=BO h hf17
  obtain ⟨aj,N,h⟩:=bind_some h
  obtain ⟨ah,ak,t⟩:=Bo N
  have b:=Bq (f:=GQ) t
  have e:(C.requests.map GQ).getD 0 .junk=_:=b
  rcases Bool.eq_false_or_eq_true ((OA aj.service ((⟨#[115,48]⟩:ByteArray)))&&(decide ((z.requests.length:Int)=1))) with hf19 | hf19
  ·replace h:=BO h hf19
   obtain ⟨ae,Z,h⟩:=bind_some h
   obtain ⟨ap,ar,y⟩:=Bo Z
   have c:=Bq (f:=GQ) y
   have g:(z.requests.map GQ).getD 0 .junk=_:=c
   rcases Bool.eq_false_or_eq_true ((decide (ae.call=2))&&(decide ((w.requests.length:Int)=1))) with hf21 | hf21
   ·replace h:=BO h hf21
    obtain ⟨G,K,h⟩:=bind_some h
    obtain ⟨az,au,u⟩:=Bo K
    have a:=Bq (f:=GQ) u
    have j:(w.requests.map GQ).getD 0 .junk=_:=a
    rcases Bool.eq_false_or_eq_true (G.undo) with hf23 | hf23
    ·replace h:=BO h hf23
     rcases Bool.eq_false_or_eq_true ((decide (G.call=1))&&(decide ((aa.outputs.length:Int)=1))) with hf24 | hf24
     ·replace h:=BO h hf24
      obtain ⟨ag,Q,h⟩:=bind_some h
      obtain ⟨ab,ad,v⟩:=Bo Q
      have d:=Bq (f:=KN) v
      have k:(aa.outputs.map KN).getD 0 .junk=_:=d
      obtain ⟨a0,D,h⟩:=bind_some h
      apply Ap 2 [0]
      rw [Ai];simp +decide only [go_sem,Nat.reduceAdd,hf17,b,e,hf19,c,g,hf21,a,j,hf23,hf24,d,k,EE,C0,Ci,List.append_eq,List.cons_append,List.nil_append]
      (repeat' apply Ac)<;>first | refine Aq _ (NZ w0 n _ _ _ ag.2.stamp ((9,[1,0])) _ D) (by first | rfl | (simp +decide only [go_sem,Nat.reduceAdd,hf17,b,e,hf19,c,g,hf21,a,j,hf23,hf24,d,k,EE,C0,Ci,List.append_eq,List.cons_append,List.nil_append];done) | (simp +decide only [go_sem,Nat.reduceAdd,Vl.cs,Ty.cs,hf17,b,e,hf19,c,g,hf21,a,j,hf23,hf24,d,k,EE,C0,Ci,List.append_eq,List.cons_append,List.nil_append];done)) ?_ | (intros;omega) | (intros;simp_all;done) | (intros;simp only [Bool.or_eq_false_iff,Bool.or_eq_true,Bool.and_eq_true,Bool.and_eq_false_iff,decide_eq_true_eq,decide_eq_false_iff_not,bne_iff_ne] at *; omega)
      rw [Ai];simp +decide only [go_sem,Nat.reduceAdd,hf17,b,e,hf19,c,g,hf21,a,j,hf23,hf24,d,k,EE,C0,Ci,List.append_eq,List.cons_append,List.nil_append]
      (repeat' apply Ac)<;>first | refine q _ _ ?_ | (intros;omega) | (intros;simp_all;done) | (intros;simp only [Bool.or_eq_false_iff,Bool.or_eq_true,Bool.and_eq_true,Bool.and_eq_false_iff,decide_eq_true_eq,decide_eq_false_iff_not,bne_iff_ne] at *; omega)
      clear q
      apply BC;simp +decide only [go_sem,Nat.reduceAdd,hf17,b,e,hf19,c,g,hf21,a,j,hf23,hf24,d,k]
      have hgt:=Option.some.inj h;subst hgt
      first | refine Cb l rfl hO.pre (by simp +decide only [go_sem,Nat.reduceAdd]) ⟨?_,rfl⟩ | refine Dq l rfl hO.pre (by simp +decide only [go_sem,Nat.reduceAdd]) ⟨?_,rfl⟩
      first | rfl | (simp +decide only [go_sem,Nat.reduceAdd,hf17,b,e,hf19,c,g,hf21,a,j,hf23,hf24,d,k];done) | (simp +decide only [go_sem,Nat.reduceAdd,Vl.cs,Ty.cs,hf17,b,e,hf19,c,g,hf21,a,j,hf23,hf24,d,k];done)
     ·replace h:=BP h hf24
      exact nS h
    ·replace h:=BP h hf23
     exact nS h
   ·replace h:=BP h hf21
    exact nS h
  ·replace h:=BP h hf19
   exact nS h
 ·replace h:=BP h hf17
  exact nS h
theorem Zfe (n:Nat) (hn:200<=n):KD n=some true:=by
 obtain ⟨m,rfl⟩:∃ m,n=m+100:=⟨n-100,by omega⟩
 kernel_rfl
end Go.Proofs.YtcpmjgdlioggjaaGreatDoor
namespace Go.Ev
open Go Go.RowKit
def Mem.start:Mem:=⟨0,0,fun _=>0,fun _=>0,fun _=>0,fun _=>0,fun _=>0,fun _=>0,0,fun _=>0⟩
theorem Z1 (W:World):RelSt W Mem.start ⟨[],[],[]⟩ W where
 below := .refl _ _
 N:=rfl
 NR:=rfl
 top:=fun _ _=>rfl
 inj:=fun _ _ h=>absurd h (Nat.not_lt_zero _)
 box:=fun _ _ h=>by simp at h
 row:=fun _ _ h=>by simp at h
 rowinj:=fun _ _ h=>absurd h (Nat.not_lt_zero _)
 loop:=⟨rfl,fun _ _ h=>absurd h (Nat.not_lt_zero _),fun _ _ h=>by simp at h⟩
theorem RI {P:Program} {f:FuncId} {W:World} {vals:Array Value} {args:List AV} {r:Value} (h:ACalls P W f args ⟨[],[],[]⟩ fun v st=>v = .val r/\st=⟨[],[],[]⟩) (hr:RowR W Mem.start W vals args) :
  Calls P f vals W fun e w'=>e = .returned r/\Below W.heap.size W w' :=
 (h.2 Mem.start W vals (Z1 W) hr).mono fun en w' ⟨v,M',a,st,h1,⟨h2,_⟩,_,h4,h5⟩=>by
  subst h2
  have:=h5.val_inv.1
  subst this
  exact ⟨h1,h4.below⟩
theorem YK {W:World} {v u t:Value} {x y z:AV} (h:R W Mem.start W v x) (k:R W Mem.start W u y) (l:R W Mem.start W t z):RowR W Mem.start W #[v,u,t] [x,y,z]:=⟨rfl,fun i b a=>by
 have:i=0\/i=1\/i=2:=by simp at a;omega
 rcases this with rfl | rfl | rfl
 ·exact h
 ·exact k
 ·exact l⟩
end Go.Ev
namespace Go.Proofs.YtcpmjgdlioggjaaGreatDoor
open Go Go.Shelf Go.ChangeShapes Go.WideShapes Go.ChangeAt Go.RowKit Go.Lib Go.Ev
open Go.ChangeMaps (open_string shut_string)
set_option maxRecDepth 100000
theorem ZeZ:ownKnob Tryz.prog.godebug=none:=by kernel_rfl
def Zig:DataW Unit->List Value
 | .lit (.int k z)=>[.int k z]
 | .agg l=>l.flatMap fun | .lit (.int k z)=>[.int k z] | _=>[]
 | _=>[]
def ZiW:DataW Unit->List Value
 | .agg l=>l.flatMap Zig
 | _=>[]
theorem TF {W:World} (h:Lib.VarReads Tryz.prog W Ou Rows.laid_internal_strconv_uint64pow10):Pow10 W:=by
 obtain ⟨g,t,cs,a,p,f,c,d,b⟩:=h
 obtain rfl:=Option.some.inj ((show Tryz.prog.globalNamed Ou=some 3 by kernel_rfl).symm.trans f)
 obtain rfl:=Option.some.inj ((show (Tryz.prog.globals[3]?).map (·.type)=some 303 by kernel_rfl).symm.trans c)
 have e:(Rows.laid_internal_strconv_uint64pow10:DataW Unit)=Lib.tabData .u64 Lib.pow10Tab:=by kernel_rfl
 rw [e] at b
 unfold Pow10 Lib.TabIs
 rw [d,<-Lib.cells_of_tab (n:=20) (k := .u64) (zs:=Lib.pow10Tab) Tryz.underlying303 Tryz.underlying202 (by kernel_rfl) (by kernel_rfl) b]
section
variable {H:Type} {enc:TypeId × Value->H} {W:World} {base:Nat} {v:Value} {d:DataW H} {p:List MemPlace}
theorem X0 (hv:Value.okWide Tryz.prog W .any base 5 v) (h:DataW.Trod enc Tryz.prog W 0 (fun _=>true) true 5 v d p):∃ n:Int,(0<=n/\n<=255)/\R W Mem.start W v (.val (.int .u8 n)):=by
 obtain ⟨n,rfl,rfl,rfl,a⟩:=open_int Tryz.underlying5 hv h
 refine ⟨n,?_,.flat rfl⟩
 simp [Lit.wf,IntKind.min,IntKind.max,IntKind.signed,IntKind.bits] at a
 omega
end
set_option maxRecDepth 100000
noncomputable def YQ:Nat:=(World.holding Tryz.prog default ⟨#[],#[],[]⟩).heap.size
noncomputable def RU (os:Os):World :=
 let w0:=World.holding Tryz.prog os ⟨#[.cells #[.string ⟨#[118,97,108,117,101,32,111,117,116,32,111,102,32,114,97,110,103,101]⟩] 428,.cells #[.string ⟨#[105,110,118,97,108,105,100,32,115,121,110,116,97,120]⟩] 428],#[],[]⟩
 let put (h:Array Obj) (g:Nat) (d:DataW Unit):Array Obj:=h.modify g fun
  | .cells _ t frozen => .cells (ZiW d).toArray t frozen
  | o=>o
 let one (h:Array Obj) (g:Nat) (v:Value):Array Obj:=h.modify g fun
  | .cells _ t frozen => .cells #[v] t frozen
  | o=>o
 { w0 with heap:=one (one (put (put (put (put (put w0.heap 1 Rows.laid_unicode_utf8_first) 2 Rows.laid_unicode_utf8_acceptRanges) 3 Rows.laid_internal_strconv_uint64pow10) 4 Rows.laid_math_bits_deBruijn32tab) 5 Rows.laid_math_bits_deBruijn64tab)
   7 (.iface 426 (.pointer (some ⟨YQ,0,none⟩)))) 6 (.iface 426 (.pointer (some ⟨YQ+1,0,none⟩))) }
theorem Xn (os:Os) (args:Array Value):laidMet Tryz.prog Rows.sagaLimitsRow.laid ((RU os).forCall (fun _ _=>0) ⟨#[],args,[]⟩).memory :=
 (LaidIn.of_run (l:=Rows.sagaLimitsRow.laid) [4,5,3,2,7,6,1,YQ,YQ+1] 8 (by kernel_rfl) (by kernel_rfl) (by kernel_rfl) (by kernel_rfl)).met
theorem ZeW {W:World} (hL:laidMet Tryz.prog Rows.sagaLimitsRow.laid W):Lib.Utf8Tabs 1 2 W/\Pow10 W :=
 ⟨utf8Tabs_of_readsT (U8Types.of196 Tryz.laysValid) ⟨by kernel_rfl,by kernel_rfl,by kernel_rfl,by kernel_rfl,by kernel_rfl,by kernel_rfl,by kernel_rfl⟩ (Lib.laidMet.reads hL (.tail _ (.tail _ (.tail _ (.tail _ (.tail _ (.tail _ (.head _)))))))) (Lib.laidMet.reads hL (.tail _ (.tail _ (.tail _ (.head _))))),
  TF (Lib.laidMet.reads hL (.tail _ (.tail _ (.head _))))⟩
theorem PT {W:World} {name:String} {d:DataW Unit} {g:Nat} {t:TypeId} {ms:Array (String × TypeId)} (h:Lib.VarReads Tryz.prog W name d) (hg:Tryz.prog.globalNamed name=some g) (ht:(Tryz.prog.globals[g]?).map (·.type)=some t) (hu:Tryz.prog.underlying t=some (.interface ms)) :
  ∃ ev,W.cell? ⟨g,0,none⟩=some ev/\(ev = .nilIface\/∃ te pe,ev = .iface te pe):=by
 obtain ⟨j,i,cs,fuel,p,c,e,f,a⟩:=h
 obtain rfl:=Option.some.inj (hg.symm.trans c)
 obtain rfl:=Option.some.inj (ht.symm.trans e)
 have b:=World.var?_cell c f 0
 obtain ⟨l⟩:=cs
 cases fuel with
 | zero=>simp [DataW.trod] at a
 | succ n =>
  unfold DataW.trod at a
  simp only [hu] at a
  split at a
  all_goals first
   | (rename_i q _;simp at q;done)
   | exact ⟨_,by simpa using b,.inl rfl⟩
   | exact ⟨_,by simpa using b,.inr ⟨_,_,rfl⟩⟩
   | simp_all
theorem ZeL {W:World} (hL:laidMet Tryz.prog Rows.sagaLimitsRow.laid W):Ry W :=
 ⟨PT (Lib.laidMet.reads hL (.tail _ (.tail _ (.tail _ (.tail _ (.tail _ (.head _))))))) (by kernel_rfl) (by kernel_rfl) (t:=309) Tryz.underlying309,
  PT (Lib.laidMet.reads hL (.tail _ (.tail _ (.tail _ (.tail _ (.head _)))))) (by kernel_rfl) (by kernel_rfl) (t:=309) Tryz.underlying309⟩
theorem Ze8 {W:World} (hS:W.ShapedOpen Tryz.prog):RJ W :=
 cell_of_shapedOpen_int (zero := #[.int .i64 0]) (t:=3) hS (of_decide_eq_true (by kernel_rfl)) (by kernel_rfl) rfl (by kernel_rfl) (by kernel_rfl) Tryz.underlying3
end Go.Proofs.YtcpmjgdlioggjaaGreatDoor
namespace Go.Proofs.YtcpmjgdlioggjaaGreatDoor
open Go Go.RowKit Go.Ev
def saB:Vl:=Vl.mk 9 0 0 ⟨#[]⟩ [] [(⟨#[110]⟩,Vl.mk 2 3 0 ⟨#[]⟩ [] [])]
def saM:Msg:=Msg.mk (1,[1]) 1048576 [1] saB
def saU (k:Int):Otc:=Otc.mk (Stt.mk k 0 []) [] [] [Fte.mk (1,[1]) 4 ⟨#[115,97,103,97]⟩ [] ⟨#[117,110,100,111,110,101]⟩] [saM]
def Zih (k:Int) (r:Option Otc):Bool:=match r with
 | none=>false
 | some o=>o.requests.isEmpty&&o.state.slots.isEmpty&&decide (o.state.number=k)&&decide (o.state.time=0)&&((o.outputs.length == 1&&o.letters.isEmpty)||(o.outputs.isEmpty&&o.letters.length == 1&&(match o.fates with
  | [f] => !(OA f.text ⟨#[117,110,100,111,110,101]⟩)
  | _=>false)))
def ZiD:Nat->List Int
 | 0=>[]
 | j+1=>(j:Int)::ZiD j
section
variable (m0:Nat) (l:List (Int × Int × Bool)) (k:Nat) (t most:Int) (o:Nat->Int)
structure SaArg:Prop where
 k1:1<=k
 k5:k<=5
 len:l.length=k
 ht:0<=t/\t<=255
 hmost:0<=most/\most<=11
 how:∀ (j:Nat) (x:Int × Int × Bool),l[j]? = some x->(0<=x.1/\x.1<=255)/\(0<=x.2.1/\x.2.1<=255)
 ho:∀ (j:Nat) (x:Int × Int × Bool),l[j]? = some x->x.2.1.tmod 10=o j
 o9:∀ j,0<=o j/\o j<=9
variable {m0 l k t most o}
theorem SaArg.at (h:SaArg l k t most o) {j:Nat} (hj:j<k):∃ x,l[j]? = some x:=⟨_,List.getElem?_eq_getElem (by rw [h.len];exact hj)⟩
inductive SaGood (k:Nat):List Bool × List Int × Otc × Bool->Prop
 | undone (top:Nat) (h:top<=k):SaGood k (List.replicate k false,ZiD top,saU k,true)
 | done (o:Otc) (h:Zih k (some o)=true):SaGood k (List.replicate k true,[],o,true)
end
end Go.Proofs.YtcpmjgdlioggjaaGreatDoor
namespace Go.Proofs.YtcpmjgdlioggjaaGreatDoor
open Go Go.Shelf Go.ChangeShapes Go.WideShapes Go.ChangeAt Go.RowKit Go.Lib Go.Ev
set_option maxRecDepth 100000
mutual
def Vl.wf:Vl->Prop
 | .mk k i s t l f=>B1 k/\B1 i/\B1 s/\t.size<=maxLen/\l.length<=maxLen/\f.length<=maxLen/\Zid l/\Zje f
def Zid:List Vl->Prop
 | []=>True
 | v::r=>v.wf/\Zid r
def Zje:List (ByteArray × Vl)->Prop
 | []=>True
 | (n,v)::r=>n.size<=maxLen/\v.wf/\Zje r
end
mutual
def Ty.wf:Ty->Prop
 | .mk k lo hi s w e f=>B1 k/\B1 lo/\B1 hi/\B1 s/\(∀ x∈w,x.size<=maxLen)/\w.length<=maxLen/\e.length<=maxLen/\f.length<=maxLen/\ZiX e/\Zf2 f
def ZiX:List Ty->Prop
 | []=>True
 | v::r=>v.wf/\ZiX r
def Zf2:List (Int × ByteArray × Int × Ty × List Vl)->Prop
 | []=>True
 | (n,s,d,t,l)::r=>(B1 n/\s.size<=maxLen/\B1 d/\t.wf/\l.length<=maxLen/\∀ v∈l,v.wf)/\Zf2 r
end
def Part.wf (p:Part):Prop:=B1 p.kind/\B1 p.index/\p.name.size<=maxLen
def Sch.wf (s:Sch):Prop:=s.name.size<=maxLen/\B1 s.version/\s.type.wf
section
variable {H:Type} {enc:TypeId × Value->H} {W:World}
def RC (W:World) (cs:List Value) (xs:List AV):Prop:=cs.length=xs.length/\∀ i (h1:i<cs.length) (h2:i<xs.length),R W Mem.start W cs[i] xs[i]
theorem RC.nil:RC W [] []:=⟨rfl,fun i a=>absurd a (by simp)⟩
theorem RC.cons {v:Value} {x:AV} {cs:List Value} {xs:List AV} (h:R W Mem.start W v x) (k:RC W cs xs):RC W (v::cs) (x::xs):=⟨by simp [k.1],fun i b a=>by
 cases i with
 | zero=>exact h
 | succ i=>simpa using k.2 i (by simpa using b) (by simpa using a)⟩
theorem RC.agg {cs:List Value} {xs:List AV} (h:RC W cs xs) (h1:∀ x∈xs,x.one=true):R W Mem.start W (.agg cs.toArray) (.agg xs) := .agg (by simpa using h.1) h1 (fun i a b=>by simpa using h.2 i (by simpa using a) b)
end
end Go.Proofs.YtcpmjgdlioggjaaGreatDoor
