/-
  Part 9 of the proof: rules and walks that the claim's last text uses.
-/
import Derived.Test.YtbfenpeblbonlaaGreatDoorCb1
import Derived.Test.YtbfenpeblbonlaaGreatDoorCb2
import Derived.Test.YtbfenpeblbonlaaGreatDoorCb3
import Derived.Test.YtbfenpeblbonlaaGreatDoorCb4
import Derived.Test.YtbfenpeblbonlaaGreatDoorCb5
import Derived.Test.YtbfenpeblbonlaaGreatDoorCb6
import Derived.Test.YtbfenpeblbonlaaGreatDoorCb7
import Derived.Test.YtbfenpeblbonlaaGreatDoorCb8
set_option linter.unusedSimpArgs false
set_option linter.unusedVariables false
set_option maxRecDepth 100000
set_option maxHeartbeats 4000000
namespace Go.Proofs.YtbfenpeblbonlaaGreatDoor
open Go Go.RowKit Go.Ev
def Db (n:Nat) (g:Int->Stt->(List Fte)->(List Msg)->Option Otc) (b:Int) (pla0_k8_43:Stt) (pla0_k8_48:List Fte) (pla0_k8_49:List Msg):Option Otc :=
 if BN (b+1) then
  g (b+1) pla0_k8_43 pla0_k8_48 pla0_k8_49
 else none
def BA (n:Nat) (g:Int->Stt->(List Fte)->(List Msg)->Option Otc) (a0n:Nod) (h:Int) (q:Slt) (y13:(Stt × Bool)):Nat->Int->(List Fte)->(List Msg)->Option Otc
 | 0,_,_,_=>none
 | m+1,b,pla0_l15_48,pla0_l15_49 =>
  if decide (b<(q.items.length:Int)) then
   (Dw q.items b).bind fun x21 =>
   (J3 n a0n pla0_l15_48 pla0_l15_49 x21 ((⟨#[116,105,109,101,111,117,116]⟩:ByteArray))).bind fun y =>
   if BN (b+1) then
    (BA n g a0n h q y13 m) (b+1) y.1 y.2
   else none
  else
   Db n g h y13.1 pla0_l15_48 pla0_l15_49
def A2 (n:Nat) (a0n:Nod) (q:(List Slt)):Nat->Int->Stt->(List Fte)->(List Msg)->Option Otc
 | 0,_,_,_,_=>none
 | m+1,b,pla0_l3_43,pla0_l3_48,pla0_l3_49 =>
  if decide (b<(q.length:Int)) then
   (Dw q b).bind fun g =>
   (Gm n pla0_l3_43 g.key).bind fun h =>
   BA n (A2 n a0n q m) a0n b g h n 0 pla0_l3_48 pla0_l3_49
  else
   some (Otc.mk pla0_l3_43 ([]) ([]) pla0_l3_48 pla0_l3_49)
def Do (n:Nat) (a0n:Nod) (a0in:Inp) (a0state:Stt):Option Otc :=
 (GN n a0state a0in.time).bind fun b =>
 A2 n a0n b n 0 a0state ([]) ([])
theorem LV (w0:World) (n:Nat) (B:Ao) (Rw:Ap) (L:Aq) (la0:Nat) (a0n:Nod) (a0in:Inp) (a0state:Stt) (hla0:B[la0]? = some (AY a0n a0in a0state (.list ([]) .full) (.list ([]) .full) (.list ([]) .full) (.list ([]) .full))) (r:Otc) (h:Do n a0n a0in a0state=some r) :
  ACalls Tryz.prog w0 40 [.box la0 0] ⟨B,Rw,L⟩ fun x st=>x = .tup []/\st=⟨(B.set la0 (AY a0n a0in r.state (.list (r.outputs.map M8) .none) (.list (r.requests.map N5) .none) (.list (r.fates.map F3) .none) (.list (r.letters.map Dn) .none))),Rw,L⟩:=by
 rw [Do] at h
 refine hd [] Tryz.func40 Tryz.ntmps40 fun M0 W0 hN ab ad D hu C hs=>?_
 simp only [Ax]
 have G:=(Aj.1 hla0).1
 apply MW;intro KE au
 refine MI (B':=B.set la0 (AY a0n a0in a0state (.list ([]) .full) (.list ([]) .full) (.list ([]) .full) (.list ([]) .full))) (by simp only [Bd hla0]) ?_
 obtain ⟨H,a1,h⟩:=bind_some h
 have hs:=Ad (AC hla0) hs
 apply Am;intro K1 ag
 refine dk 13 2 1 [0,16,17,18] hs G6 ?_
 refine Av _ (RE w0 n _ _ _ a0state a0in.time _ a1) (hv hs) ?_
 refine dn hs ag ?_
 clear ag
 apply Ar
 refine AA (fun m e st=>∃ (v:Int) (o:Stt) (i:List Fte) (j:List Msg) (l:Ev.Own) (k:Ev.Own) (Xl3:Ao) (Rl3:Ap),e=[(0,true,.box la0 0),(16,true,.list (H.map AZ) .none),(17,true,Ak (H.length:Int)),(18,true,Ak v)]/\st=⟨(B.set la0 (AY a0n a0in o (.list ([]) .full) (.list ([]) .full) (.list (i.map F3) l) (.list (j.map Dn) k)))++([]++Xl3),Rl3,L⟩/\Owns Rw Rl3 [(6,i.length,l),(10,j.length,k)]/\A2 n a0n H m v o i j=some r) n ⟨0,a0state,([]),([]),.full,.full,([]),Rw,ef hs,ef hs,Owns.of_eq (((C).full 10 0).full 6 0) Fh,h⟩ ?_
 rintro ml3 e st ⟨v,o,i,j,l,k,Xl3,Rl3,rfl,rfl,C,h⟩ Ul3 Vl3
 cases ml3 with
 | zero=>cases h
 | succ ml3 =>
 rw [A2] at h
 have V:=C.unders
 simp only [List.mem_cons,List.not_mem_nil,or_false,forall_eq_or_imp,forall_eq] at V
 obtain ⟨am,aj⟩:=V
 refine EA hN ab ad MZ (AK (DY D C.len) ow) C ow ow ?_
 refine rg [0,16,17,18,19] hs ?_
 apply Am;intro K5 ao
 refine B6 h hs ?_ ?_<;>intro hs h
 rotate_left
 ·have E:=hs.1
  refine EZ (C9 [] _) ?_ (BI _ _)
  apply Gn;simp +decide only [go_sem,Nat.reduceAdd]
  (repeat' apply Ad)<;>first | refine au _ _ _ (LO G) ?_ | refine au _ _ _ (JJ G) ?_ | exact cl
  simp +decide only [go_sem,Nat.reduceAdd,AC hla0,E]
  have hgt:=Option.some.inj h;subst hgt
  first | refine FV (AK D ev) MZ C.pre ev ⟨?_,rfl⟩ | refine HM (AK D ev) MZ C.pre ev ⟨?_,rfl⟩
  first | rfl | (simp +decide only [go_sem,Nat.reduceAdd,AC hla0,E];done) | (simp +decide only [go_sem,Nat.reduceAdd,Vl.cs,Ty.cs,AC hla0,E];done)
 have E:=hs.1
 refine sk [0,16,17,18] hs ao ?_
 clear ao
 refine AD (fun e st=>∃ (w:Stt) (p:List Fte) (q:List Msg) (u:Ev.Own) (t:Ev.Own) (Xk8:Ao) (Rk8:Ap),e=[(0,true,.box la0 0),(16,true,.list (H.map AZ) .none),(17,true,Ak (H.length:Int)),(18,true,Ak v)]/\st=⟨(B.set la0 (AY a0n a0in w (.list ([]) .full) (.list ([]) .full) (.list (p.map F3) u) (.list (q.map Dn) t)))++([]++Xk8),Rk8,L⟩/\Owns Rw Rk8 [(6,p.length,u),(10,q.length,t)]/\Db n (A2 n a0n H ml3) v w p q=some r) ?_ ?_
 ·intro K9 ax
  apply Ar
  obtain ⟨F,ai,h⟩:=bind_some h
  obtain ⟨aw,ay,ae⟩:=Bo ai
  have y:=Bz (f:=AZ) ae
  have hs:=Ad y hs
  refine rg [0,3,16,17,18] hs ?_
  apply Am;intro K12 Y
  obtain ⟨J,Q,h⟩:=bind_some h
  apply JG G6 [15] [5] [0,3,16,17,18] kr (fun s=>∃ (X:Ao) (rows:Ap) (O:Stt),s=⟨(B.set la0 (AY a0n a0in O (.list ([]) .full) (.list ([]) .full) (.list (i.map F3) l) (.list (j.map Dn) k)))++([O4 F]++X),rows,L⟩) 2 (B.length+1)
  ·simp +decide only [go_sem,Nat.reduceAdd]
  ·refine ⟨2,?_⟩
   rw [An];simp +decide only [go_sem,Nat.reduceAdd,Bh,AC hla0,E,y]
   (repeat' apply Ad)<;>first | refine Av _ (H9 w0 n _ _ _ o F.key _ Q) (hv hs) ?_ | exact cl
   rw [An];simp +decide only [go_sem,Nat.reduceAdd,AC hla0,E,y]
   (repeat' apply Ad)<;>first | rfl | exact cl
  ·rintro s ⟨X,rows,O,rfl⟩
   refine ⟨2,?_⟩
   rw [An];simp +decide only [go_sem,Nat.reduceAdd,Bh,List.append_eq,List.cons_append,List.nil_append,AC hla0,E,y]
   (repeat' apply Ad)<;>first | refine Av _ (H9 w0 n _ _ _ o F.key _ Q) (hv hs) ?_ | exact cl
   rw [An];simp +decide only [go_sem,Nat.reduceAdd,AC hla0,E,y]
   (repeat' apply Ad)<;>first | rfl | ((repeat (first | exact .nil | refine .cons (ef hs) ?_));done) | exact cl
  ·exact gd (tg (a:=(15,[0,3,16,17,18]))) (Ad y (Ad (AC hla0) hs))
  simp +decide only [go_sem,Nat.reduceAdd,AC hla0,E,y]
  (repeat' apply Ad)<;>first | refine Y _ _ ?_ | exact cl
  clear Y
  refine rg [0,16,17,18,38,39,40] hs ?_
  apply Ar
  refine AA (fun m e st=>∃ (z:Int) (b:List Fte) (c:List Msg) (d:Ev.Own) (g:Ev.Own) (Xl15:Ao) (Rl15:Ap),e=[(0,true,.box la0 0),(16,true,.list (H.map AZ) .none),(17,true,Ak (H.length:Int)),(18,true,Ak v),(38,true,.list (F.items.map Dn) .none),(39,true,Ak (F.items.length:Int)),(40,true,Ak z)]/\st=⟨(B.set la0 (AY a0n a0in J.1 (.list ([]) .full) (.list ([]) .full) (.list (b.map F3) d) (.list (c.map Dn) g)))++([O4 F]++Xl15),Rl15,L⟩/\Owns Rw Rl15 [(6,b.length,d),(10,c.length,g)]/\BA n (A2 n a0n H ml3) a0n v F J m z b c=some r) n ⟨0,i,j,l,k,([]),Rl3,ef hs,ef hs,Owns.of_eq (((C).swap (List.Perm.swap _ _ _)).swap (List.Perm.swap _ _ _)) Fh,h⟩ ?_
  rintro ml15 e st ⟨z,b,c,d,g,Xl15,Rl15,rfl,rfl,C,h⟩ Ul15 Vl15
  cases ml15 with
  | zero=>cases h
  | succ ml15 =>
  rw [BA] at h
  have V:=C.unders
  simp only [List.mem_cons,List.not_mem_nil,or_false,forall_eq_or_imp,forall_eq] at V
  obtain ⟨am,aj⟩:=V
  refine EA hN ab ad MZ (AK (DY D C.len) ow) C ow ow ?_
  refine rg [0,16,17,18,38,39,40,41] hs ?_
  apply Am;intro K17 U
  refine B6 h hs ?_ ?_<;>intro hs h
  rotate_left
  ·refine sx [0,16,17,18] hs ax ?_
   exact ⟨J.1,b,c,d,g,([O4 F]),Rl15,ef hs,ef hs,Owns.of_eq (((C).swap (List.Perm.swap _ _ _)).swap (List.Perm.swap _ _ _)) Fh,h⟩
  refine sk [0,16,17,18,38,39,40] hs U ?_
  clear U
  apply Am;intro K19 Z
  apply Ar
  obtain ⟨av,ah,h⟩:=bind_some h
  obtain ⟨az,a0,af⟩:=Bo ah
  have aa:=Bz (f:=Dn) af
  have hs:=Ad aa hs
  refine rg [0,5,16,17,18,38,39,40] hs ?_
  have C:=C.swap (List.Perm.swap _ _ _)
  have C:=C.swap (List.Perm.swap _ _ _)
  obtain ⟨ak,ap,h⟩:=bind_some h
  refine rk 2 [0,16,17,18,38,39,40] hs ?_
  refine BE _ (I4 w0 n _ _ _ la0 a0n a0in J.1 (.list ([]) .full) (.list ([]) .full) b c d g (ef hs) C.enter2a C.enter2b C.apart2 av ((⟨#[116,105,109,101,111,117,116]⟩:ByteArray)) _ ap) (hv hs) ?_;rintro _ _ ⟨rfl,Rg23,Rh24,ar,aq,rfl,N,K⟩
  have C:=C.call2 N K
  refine ne hs Z ?_
  clear Z
  obtain ⟨a2,h⟩:=Au h
  refine rl [0,16,17,18,38,39,40] hs (fun e s=>Vl15 ml15 e s (Nat.lt_succ_self _)) ?_
  exact ⟨(z+1),ak.1,ak.2,ar,aq,([Qu av]),Rh24,ef hs,ef hs,Owns.of_eq (((C).swap (List.Perm.swap _ _ _)).swap (List.Perm.swap _ _ _)) Fh,h⟩
 ·clear h;rintro e st ⟨w,p,q,u,t,Xk8,Rk8,rfl,rfl,C,h⟩
  rw [Db] at h
  have V:=C.unders
  simp only [List.mem_cons,List.not_mem_nil,or_false,forall_eq_or_imp,forall_eq] at V
  obtain ⟨am,aj⟩:=V
  refine EA hN ab ad MZ (AK (DY D C.len) ow) C ow ow ?_
  obtain ⟨a3,h⟩:=Au h
  refine rl [0,16,17,18] hs (fun e s=>Vl3 ml3 e s (Nat.lt_succ_self _)) ?_
  exact ⟨(v+1),w,p,q,u,t,([]),Rk8,ef hs,ef hs,Owns.of_eq (((C).swap (List.Perm.swap _ _ _)).swap (List.Perm.swap _ _ _)) Fh,h⟩
def Ce (b:Nod):Bool :=
 (decide (0<(b.calls.length:Int)))&&(decide (1<(b.types.length:Int)))
theorem Nh (w0:World) (B:Ao) (Rw:Ap) (L:Aq) (a0:Nod) (r:Bool) (h:Ce a0=r) :
  ACalls Tryz.prog w0 60 [.agg (PD a0)] ⟨B,Rw,L⟩ fun x st=>x = .val (.bool r)/\st=⟨B,Rw,L⟩:=by
 rw [Ce] at h
 refine hd [.tmp 2] Tryz.func60 Tryz.ntmps60 fun M0 W0 f b d a e c hs=>?_
 simp only [Ax]
 refine rg [1] hs ?_
 refine rg [2] hs ?_
 exact rT h hs a c
theorem Iq (w0:World) (B:Ao) (Rw:Ap) (L:Aq) (a0:Nod) :
  ACalls Tryz.prog w0 60 [.agg (PD a0)] ⟨B,Rw,L⟩ fun x st=>x = .val (.bool (Ce a0))/\st=⟨B,Rw,L⟩:=Nh w0 B Rw L a0 _ rfl
def D6 (g:Int) (b:Int):Option Int :=
 if BN (17592186044416-b) then
  if decide ((17592186044416-b)<g) then
   AM
  else
   if BN (g+b) then
    some (g+b)
   else none
 else none
theorem Pz (w0:World) (B:Ao) (Rw:Ap) (L:Aq) (a0:Int) (a1:Int) (r:Int) (h:D6 a0 a1=some r) :
  ACalls Tryz.prog w0 65 [Ak a0,Ak a1] ⟨B,Rw,L⟩ fun x st=>x=Ak r/\st=⟨B,Rw,L⟩:=by
 rw [D6] at h
 refine hd [.tmp 4] Tryz.func65 Tryz.ntmps65 fun M0 W0 f c d b g e hs=>?_
 simp only [Ax]
 exact go (tg (a:=([0,1],[0,1,8],((),()),[0,1],[4],()))) h hs f c d b e trivial trivial
def CN (b:Int):Option ByteArray :=
 if decide (b=18) then
  some ((⟨#[116,121,112,101]⟩:ByteArray))
 else
  AM
theorem Es (w0:World) (B:Ao) (Rw:Ap) (L:Aq) (a0:Int) (r:ByteArray) (h:CN a0=some r) :
  ACalls Tryz.prog w0 62 [Ak a0] ⟨B,Rw,L⟩ fun x st=>x = .val (.string r)/\st=⟨B,Rw,L⟩:=by
 rw [CN] at h
 refine hd [.tmp 2] Tryz.func62 Tryz.ntmps62 fun M0 W0 f c d b g e hs=>?_
 simp only [Ax]
 exact go (tg (a:=([0],[0,4],([2],()),((),())))) h hs f c d b e trivial trivial
def BM (b:Int × List Int) (g:Int):Option ((Int × List Int)) :=
 if b.2.length*8<=140737488355328 then
  if (b.2.length+1)*8<=140737488355328/\b.2.length+1<=4611686018427387904 then
   some ((b.1,b.2++([g])))
  else none
 else none
theorem HL (w0:World) (B:Ao) (Rw:Ap) (L:Aq) (a0:Int × List Int) (a1:Int) (r:(Int × List Int)) (h:BM a0 a1=some r) :
  ACalls Tryz.prog w0 15 [.agg (Ak a0.1::([.list (a0.2.map Ci) .none])),Ak a1] ⟨B,Rw,L⟩ fun x st=>x = .agg (Ak r.1::([.list (r.2.map Ci) .none]))/\st=⟨B,Rw,L⟩:=by
 rw [BM] at h
 refine hd [.cell 4 45] Tryz.func15 Tryz.ntmps15 fun M0 W0 p l m c o f hs=>?_
 simp only [Ax]
 refine rg [1,2,4] hs ?_
 apply Am;intro K2 d
 obtain ⟨g,h⟩:=Au h
 have f:=f.clone 1 a0.2.length
 obtain ⟨e,h⟩:=Au h
 obtain ⟨n,j,f,b⟩:=f.append (P:=Tryz.prog) Zjb (by rw [Zf3];rfl) (by decide) 1 e.1 e.2
 replace b:=fun (ys:List AV) B L o2=>b (a0.2.map Ci) ys B L o2 Fh
 replace b:=fun (y:AV) B L o2=>b [y] B L o2 Fh ev
 try simp only [List.mem_singleton,List.mem_cons,List.not_mem_nil,or_false,forall_eq_or_imp,forall_eq,List.map_append,List.map_cons,List.map_nil,Fe,E6,E9,E8,Fb,EP,D2,D4,E3,CJ,CL,D1,DX,DZ,Fa,DW,E5] at b
 apply D9 G6 [4,7,8,9] [4] kr (fun s=>∃ (X:Ao) (rows:Ap) (k:List AV),s=⟨B++([Ak a0.1::([.list (a0.2.map Ci) .none]),k]++X),rows,L⟩) 5 (B.length+2)
 ·simp +decide only [go_sem,Nat.reduceAdd]
 ·rintro s ⟨X,rows,k,rfl⟩
  refine ⟨1,?_⟩
  rw [An];simp +decide only [go_sem,Nat.reduceAdd,Bh,b]
  (repeat' apply Ad)<;>first | rfl | exact cl
 ·refine Good.mk [4] kr ⟨[],_,_,by first | rfl | simp only [List.append_nil,List.nil_append]⟩ ?_ ?_
  ·intro h;exact absurd h (by decide)
  ·intro i hi;simp only [List.mem_cons,List.not_mem_nil,or_false] at hi
   subst hi
   ·apply Bl rfl rfl ev
    ·simp +decide only [go_sem,Nat.reduceAdd,Cd,b]
     have hs:=Ad b hs
     (repeat' with_reducible apply Ad)<;>first | exact MD (RN w0 _ _ _ a0.2 g) (hv hs) | rfl | exact cl
    ·simp +decide only [go_sem,Nat.reduceAdd,b]
     exact gd (tg (a:=(7,8,9,[4]))) (Ad b hs)
 simp +decide only [go_sem,Nat.reduceAdd,b]
 (repeat' apply Ad)<;>first | refine d _ _ ?_ | exact cl
 clear d
 have hs:=Ad b hs
 exact rt h hs c f
def BH (n:Nat) (a0n:Nod) (a0in:Inp) (a0state:Stt) (q:ByteArray × List (ByteArray × Ex)) (h:(Vl × Int)) (b3_k45_7:Int):Option Otc :=
 (Gt n a0state (Slt.mk ((AB (a0state.number+1))) 0 b3_k45_7 ([a0in.message]) ([]))).bind fun b =>
 if !(decide (b.2=0)) then
  (J3 n a0n ([]) ([]) a0in.message ((⟨#[102,117,108,108]⟩:ByteArray))).bind fun g =>
  some (Otc.mk a0state ([]) ([]) g.1 g.2)
 else
  (BM a0in.message.stamp 0).bind fun y =>
  some (Otc.mk (Stt.mk (a0state.number+1) b.1.time b.1.slots) ([]) ([Rqs.mk y q.1 (a0state.number+1) false h.1]) ([]) ([]))
def CW (n:Nat) (a0n:Nod) (a0in:Inp) (a0state:Stt):Option Otc :=
 if !(Ce a0n) then
  (CN 4).bind fun y6 =>
  (J3 n a0n ([]) ([]) a0in.message y6).bind fun y9 =>
  some (Otc.mk a0state ([]) ([]) y9.1 y9.2)
 else
  if ((decide (a0n.limit<=(a0state.slots.length:Int)))||(decide (256<=(a0state.slots.length:Int))))||(decide (1099511627776<=a0state.number)) then
   (J3 n a0n ([]) ([]) a0in.message ((⟨#[102,117,108,108]⟩:ByteArray))).bind fun q =>
   some (Otc.mk a0state ([]) ([]) q.1 q.2)
  else
   (Dw a0n.calls 0).bind fun g =>
   (FQ n a0in.message.body).bind fun y26 =>
   (Dw a0n.types 0).bind fun y =>
   (BO n g.2 y26 y).bind fun b =>
   if !(decide (b.2=0)) then
    (CN b.2).bind fun y33 =>
    (J3 n a0n ([]) ([]) a0in.message y33).bind fun h =>
    some (Otc.mk a0state ([]) ([]) h.1 h.2)
   else
    if BN (a0state.number+1) then
     if decide (0<a0n.time) then
      (D6 a0in.time a0n.time).bind fun y49 =>
      BH n a0n a0in a0state g b y49
     else
      BH n a0n a0in a0state g b 0
    else none
theorem KZ (w0:World) (hE:QU w0) (hM:Qx w0) (hP:Pow10 w0) (hT:Lib.Utf8Tabs 1 2 w0) (n:Nat) (B:Ao) (Rw:Ap) (L:Aq) (la0:Nat) (a0n:Nod) (a0in:Inp) (a0state:Stt) (hla0:B[la0]? = some (AY a0n a0in a0state (.list ([]) .full) (.list ([]) .full) (.list ([]) .full) (.list ([]) .full))) (r:Otc) (h:CW n a0n a0in a0state=some r) :
  ACalls Tryz.prog w0 38 [.box la0 0] ⟨B,Rw,L⟩ fun x st=>x = .tup []/\st=⟨(B.set la0 (AY a0n a0in r.state (.list (r.outputs.map M8) .none) (.list (r.requests.map N5) .none) (.list (r.fates.map F3) .none) (.list (r.letters.map Dn) .none))),Rw,L⟩:=by
 rw [CW] at h
 refine hd [] Tryz.func38 Tryz.ntmps38 fun M0 W0 hN v w p hu m hs=>?_
 simp only [Ax]
 have l:=(Aj.1 hla0).1
 apply MW;intro KE aq
 refine MI (B':=B.set la0 (AY a0n a0in a0state (.list ([]) .full) (.list ([]) .full) (.list ([]) .full) (.list ([]) .full))) (by simp only [Bd hla0]) ?_
 apply Am;intro K1 aa
 apply D9 G6 [10,11,12,13] [0,2,3] kr (fun s=>∃ (X:Ao) (rows:Ap),s=⟨(B.set la0 (AY a0n a0in a0state (.list ([]) .full) (.list ([]) .full) (.list ([]) .full) (.list ([]) .full)))++([]++X),rows,L⟩) 5 (B.length+0)
 ·simp +decide only [go_sem,Nat.reduceAdd]
 ·rintro s ⟨X,rows,rfl⟩
  refine ⟨1,?_⟩
  rw [An];simp +decide only [go_sem,Nat.reduceAdd,Bh,AC hla0]
  (repeat' apply Ad)<;>first | rfl | exact cl
 ·refine Good.mk [10,11] kr ⟨[],_,by first | rfl | (simp only [List.append_nil,List.nil_append];done) | (simp only [List.append_nil,List.nil_append];rfl)⟩ ?_ ?_
  ·intro h;exact absurd h (by decide)
  ·intro i hi;simp only [List.mem_cons,List.not_mem_nil,or_false] at hi
   rcases hi with rfl | rfl
   ·apply Bl rfl rfl ev
    ·simp +decide only [go_sem,Nat.reduceAdd,Cd,AC hla0]
     (repeat' apply Ad)<;>first | rfl | exact cl
    ·simp +decide only [go_sem,Nat.reduceAdd,AC hla0]
     refine Good.mk [11] kr ⟨_,_,by first | rfl | (simp only [List.append_nil,List.nil_append];done) | (simp only [List.append_nil,List.nil_append];rfl)⟩ ?_ ?_
     ·intro h;exact absurd h (by decide)
     ·intro i hi;simp only [List.mem_cons,List.not_mem_nil,or_false] at hi
      subst hi
      ·apply Bl rfl rfl ev
       ·simp +decide only [go_sem,Nat.reduceAdd,Cd,AC hla0]
        (repeat' apply Ad)<;>first | rfl | exact cl
       ·simp +decide only [go_sem,Nat.reduceAdd,AC hla0]
        refine Good.mk [12] kr ⟨_,_,by first | rfl | (simp only [List.append_nil,List.nil_append];done) | (simp only [List.append_nil,List.nil_append];rfl)⟩ ?_ ?_
        ·intro h;exact absurd h (by decide)
        ·intro i hi;simp only [List.mem_cons,List.not_mem_nil,or_false] at hi
         subst hi
         ·apply Bl rfl rfl ev
          ·simp +decide only [go_sem,Nat.reduceAdd,Cd,AC hla0]
           (repeat' apply Ad)<;>first | rfl | exact cl
          ·simp +decide only [go_sem,Nat.reduceAdd,AC hla0]
           refine Good.mk [13] kr ⟨_,_,by first | rfl | (simp only [List.append_nil,List.nil_append];done) | (simp only [List.append_nil,List.nil_append];rfl)⟩ ?_ ?_
           ·intro h;exact absurd h (by decide)
           ·intro i hi;simp only [List.mem_cons,List.not_mem_nil,or_false] at hi
            subst hi
            ·apply Bl rfl rfl ev
             ·simp +decide only [go_sem,Nat.reduceAdd,Cd,AC hla0]
              (repeat' apply Ad)<;>first | rfl | exact cl
             ·simp +decide only [go_sem,Nat.reduceAdd,AC hla0]
              refine Good.mk [] kr ⟨_,_,by first | rfl | (simp only [List.append_nil,List.nil_append];done) | (simp only [List.append_nil,List.nil_append];rfl)⟩ ?_ ?_
              ·intro _;apply EB [0,2,3];first | (simp +decide only [go_sem,Nat.reduceAdd,AC hla0];done) | (simp +decide only [go_sem,Nat.reduceAdd,AC hla0];rfl)
              ·intro i hi;cases hi
   ·apply Bl rfl rfl ev
    ·simp +decide only [go_sem,Nat.reduceAdd,Cd,AC hla0]
     (repeat' apply Ad)<;>first | rfl | exact cl
    ·simp +decide only [go_sem,Nat.reduceAdd,AC hla0]
     refine Good.mk [10] kr ⟨_,_,by first | rfl | (simp only [List.append_nil,List.nil_append];done) | (simp only [List.append_nil,List.nil_append];rfl)⟩ ?_ ?_
     ·intro h;exact absurd h (by decide)
     ·intro i hi;simp only [List.mem_cons,List.not_mem_nil,or_false] at hi
      subst hi
      ·apply Bl rfl rfl ev
       ·simp +decide only [go_sem,Nat.reduceAdd,Cd,AC hla0]
        (repeat' apply Ad)<;>first | rfl | exact cl
       ·simp +decide only [go_sem,Nat.reduceAdd,AC hla0]
        refine Good.mk [12] kr ⟨_,_,by first | rfl | (simp only [List.append_nil,List.nil_append];done) | (simp only [List.append_nil,List.nil_append];rfl)⟩ ?_ ?_
        ·intro h;exact absurd h (by decide)
        ·intro i hi;simp only [List.mem_cons,List.not_mem_nil,or_false] at hi
         subst hi
         ·apply Bl rfl rfl ev
          ·simp +decide only [go_sem,Nat.reduceAdd,Cd,AC hla0]
           (repeat' apply Ad)<;>first | rfl | exact cl
          ·simp +decide only [go_sem,Nat.reduceAdd,AC hla0]
           refine Good.mk [13] kr ⟨_,_,by first | rfl | (simp only [List.append_nil,List.nil_append];done) | (simp only [List.append_nil,List.nil_append];rfl)⟩ ?_ ?_
           ·intro h;exact absurd h (by decide)
           ·intro i hi;simp only [List.mem_cons,List.not_mem_nil,or_false] at hi
            subst hi
            ·apply Bl rfl rfl ev
             ·simp +decide only [go_sem,Nat.reduceAdd,Cd,AC hla0]
              (repeat' apply Ad)<;>first | rfl | exact cl
             ·simp +decide only [go_sem,Nat.reduceAdd,AC hla0]
              refine Good.mk [] kr ⟨_,_,by first | rfl | (simp only [List.append_nil,List.nil_append];done) | (simp only [List.append_nil,List.nil_append];rfl)⟩ ?_ ?_
              ·intro _;refine YY MZ (own:=[]) rfl (Yp MZ (AK (DY p m.len) ow) m ow) ow ow ?_
               refine Jt (by first | exact .inl ⟨rfl,rfl,rfl⟩ | exact .inr (.inl ⟨rfl,rfl,rfl⟩) | (refine .inr (.inr ⟨rfl,?_⟩);(simp +decide only [go_sem,Nat.reduceAdd])<;>(try (repeat' apply Ad))<;>first | omega | assumption)) ?_
               refine Jt (by first | exact .inl ⟨rfl,rfl,rfl⟩ | exact .inr (.inl ⟨rfl,rfl,rfl⟩) | (refine .inr (.inr ⟨rfl,?_⟩);(simp +decide only [go_sem,Nat.reduceAdd])<;>(try (repeat' apply Ad))<;>first | omega | assumption)) ?_
               refine Jt (by first | exact .inl ⟨rfl,rfl,rfl⟩ | exact .inr (.inl ⟨rfl,rfl,rfl⟩) | (refine .inr (.inr ⟨rfl,?_⟩);(simp +decide only [go_sem,Nat.reduceAdd])<;>(try (repeat' apply Ad))<;>first | omega | assumption)) ?_
               exact trivial
              ·intro i hi;cases hi
 simp +decide only [go_sem,Nat.reduceAdd,AC hla0]
 (repeat' apply Ad)<;>first | refine aa _ _ ?_ | exact cl
 clear aa
 apply Am;intro K2 ah
 apply Ar
 have hs:=Ad (AC hla0) hs
 refine rc 2 [0,2,3,19] hs ?_;intro K3 ak
 refine Av _ (Iq w0 _ _ _ a0n) (hv hs) ?_
 refine ne hs ak ?_
 clear ak
 refine B6 h hs ?_ ?_<;>intro hs h
 ·have k:=hs.1
  apply Am;intro K5 ab
  obtain ⟨y6,av,h⟩:=bind_some h
  have m:=m.full 10 0
  have m:=m.full 6 0
  obtain ⟨y9,ax,h⟩:=bind_some h
  apply JF G6 [3] [] kr (fun s=>∃ (X:Ao) (rows:Ap) (u:List AV),s=⟨(B.set la0 u)++([Qu a0in.message,Dx a0state]++X),rows,L⟩) 2 (B.length+2)
  ·simp +decide only [go_sem,Nat.reduceAdd]
  ·rintro s ⟨X,rows,u,rfl⟩
   refine ⟨2,?_⟩
   rw [An];simp +decide only [go_sem,Nat.reduceAdd,Bh,AC hla0,k]
   (repeat' apply Ad)<;>first | refine Av _ (Es w0 _ _ _ 4 _ av) (hv hs) ?_ | exact cl
   rw [An];simp +decide only [go_sem,Nat.reduceAdd,AC hla0,k]
   (repeat' apply Ad)<;>first | rfl | exact cl
  ·refine Good.mk [3] kr ⟨[],_,_,by first | rfl | simp only [List.append_nil,List.nil_append]⟩ ?_ ?_
   ·intro h;exact absurd h (by decide)
   ·intro i hi;simp only [List.mem_cons,List.not_mem_nil,or_false] at hi
    subst hi
    ·apply Ib rfl rfl ev rfl
     ·simp +decide only [go_sem,Nat.reduceAdd,AC hla0,k]
     ·simp +decide only [go_sem,Nat.reduceAdd,AC hla0,k]
     ·simp +decide only [go_sem,Nat.reduceAdd,AC hla0,k]
      exact (I4 w0 n _ _ _ la0 a0n a0in a0state (.list ([]) .full) (.list ([]) .full) ([]) ([]) .full .full (ef hs) m.enter2a m.enter2b m.apart2 a0in.message y6 _ ax).pub (hv hs)
     ·rintro _ _ ⟨rfl,Rg10,Rh11,a6,a9,rfl,D,y⟩
      have m:=m.call2 D y
      simp +decide only [go_sem,Nat.reduceAdd,AC hla0,k]
      refine Good.mk [] kr ⟨[],_,_,by first | rfl | simp only [List.append_nil,List.nil_append]⟩ ?_ ?_
      ·intro _;refine ⟨_,_,EB [] (by first | (simp +decide only [go_sem,Nat.reduceAdd,AC hla0,k];done) | (simp +decide only [go_sem,Nat.reduceAdd,AC hla0,k];rfl)),?_⟩
       try simp +decide only [go_sem,Nat.reduceAdd,AC hla0,k]
       (repeat' apply Ad)<;>first | refine ab _ _ ?_ | exact cl
       clear ab
       first | refine MV l ?_ | refine Kw l ?_
       exact go (tg (a:=((),()))) h hs hN v w p m trivial trivial
      ·intro i hi;cases hi
 have k:=hs.1
 refine dg 21 1 1 [0,2,3,30] hs G6 ?_
 refine B6 h hs ?_ ?_<;>intro hs h
 ·have g:=hs.1
  have m:=m.full 10 0
  have m:=m.full 6 0
  obtain ⟨bg,am,h⟩:=bind_some h
  refine rc 2 [] hs ?_;intro K16 K
  refine BE _ (I4 w0 n _ _ _ la0 a0n a0in a0state (.list ([]) .full) (.list ([]) .full) ([]) ([]) .full .full (ef hs) m.enter2a m.enter2b m.apart2 a0in.message ((⟨#[102,117,108,108]⟩:ByteArray)) _ am) (hv hs) ?_;rintro _ _ ⟨rfl,Rg20,Rh21,a4,a5,rfl,E,G⟩
  have m:=m.call2 E G
  refine ne hs K ?_
  clear K
  first | refine MV l ?_ | refine Kw l ?_
  exact go (tg (a:=((),()))) h hs hN v w p m trivial trivial
 have g:=hs.1
 refine sk [0,2,3] hs ah ?_
 clear ah
 apply Am;intro K24 Z
 obtain ⟨ai,au,aw,b,h⟩:=ix Ob h
 have d:(a0n.calls.map Ob).getD 0 .junk=_:=b
 obtain ⟨ay,ar,h⟩:=bind_some h
 obtain ⟨a0,a1,az,c,h⟩:=ix Rm h
 have f:(a0n.types.map Rm).getD 0 .junk=_:=c
 obtain ⟨t,ap,h⟩:=bind_some h
 apply D9 G6 [22,23] [0,2,3,4,5] kr (fun s=>∃ (X:Ao) (rows:Ap),s=⟨(B.set la0 (AY a0n a0in a0state (.list ([]) .full) (.list ([]) .full) (.list ([]) .full) (.list ([]) .full)))++([Qu a0in.message,Dx a0state]++X),rows,L⟩) 3 (B.length+2)
 ·simp +decide only [go_sem,Nat.reduceAdd]
 ·rintro s ⟨X,rows,rfl⟩
  refine ⟨3,?_⟩
  rw [An];simp +decide only [go_sem,Nat.reduceAdd,Bh,AC hla0,k,g,b,d,c,f]
  have hs:=Ad b hs
  have hs:=Ad d hs
  have hs:=Ad c hs
  have hs:=Ad f hs
  (repeat' apply Ad)<;>first | refine Av _ (OD w0 n _ _ _ a0in.message.body _ ar) (hv hs) ?_ | exact cl
  rw [An];simp +decide only [go_sem,Nat.reduceAdd,AC hla0,k,g,b,d,c,f]
  (repeat' apply Ad)<;>first | refine Av _ (HG w0 hE hM hP hT n _ _ _ ai.2 ay a0 _ ap) (hv hs) ?_ | exact cl
  rw [An];simp +decide only [go_sem,Nat.reduceAdd,AC hla0,k,g,b,d,c,f]
  (repeat' apply Ad)<;>first | rfl | exact cl
 ·exact gd (tg (a:=(22,23,[0,2,3,4,5]))) (Ad f (Ad c (Ad d (Ad b (Ad (AC hla0) hs)))))
 simp +decide only [go_sem,Nat.reduceAdd,AC hla0,k,g,b,d,c,f]
 (repeat' apply Ad)<;>first | refine Z _ _ ?_ | exact cl
 clear Z
 apply Am;intro K29 Q
 have hs:=Ad b hs
 have hs:=Ad d hs
 have hs:=Ad c hs
 have hs:=Ad f hs
 refine rg [0,2,3,4,5,77] hs ?_
 refine B6 h hs ?_ ?_<;>intro hs h
 ·have j:=hs.1
  apply Am;intro K32 V
  obtain ⟨a2,ad,h⟩:=bind_some h
  have m:=m.full 10 0
  have m:=m.full 6 0
  obtain ⟨bd,ag,h⟩:=bind_some h
  apply JF G6 [4] [] kr (fun s=>∃ (X:Ao) (rows:Ap) (u:List AV),s=⟨(B.set la0 u)++([Qu a0in.message,Dx a0state,t.1.cs]++X),rows,L⟩) 2 (B.length+3)
  ·simp +decide only [go_sem,Nat.reduceAdd]
  ·rintro s ⟨X,rows,u,rfl⟩
   refine ⟨2,?_⟩
   rw [An];simp +decide only [go_sem,Nat.reduceAdd,Bh,AC hla0,k,g,b,d,c,f,j]
   (repeat' apply Ad)<;>first | refine Av _ (Es w0 _ _ _ t.2 _ ad) (hv hs) ?_ | exact cl
   rw [An];simp +decide only [go_sem,Nat.reduceAdd,AC hla0,k,g,b,d,c,f,j]
   (repeat' apply Ad)<;>first | rfl | exact cl
  ·refine Good.mk [4] kr ⟨[],_,_,by first | rfl | simp only [List.append_nil,List.nil_append]⟩ ?_ ?_
   ·intro h;exact absurd h (by decide)
   ·intro i hi;simp only [List.mem_cons,List.not_mem_nil,or_false] at hi
    subst hi
    ·apply Ib rfl rfl ev rfl
     ·simp +decide only [go_sem,Nat.reduceAdd,AC hla0,k,g,b,d,c,f,j]
     ·simp +decide only [go_sem,Nat.reduceAdd,AC hla0,k,g,b,d,c,f,j]
     ·simp +decide only [go_sem,Nat.reduceAdd,AC hla0,k,g,b,d,c,f,j]
      exact (I4 w0 n _ _ _ la0 a0n a0in a0state (.list ([]) .full) (.list ([]) .full) ([]) ([]) .full .full (ef hs) m.enter2a m.enter2b m.apart2 a0in.message a2 _ ag).pub (hv hs)
     ·rintro _ _ ⟨rfl,Rg37,Rh38,ba,a7,rfl,C,J⟩
      have m:=m.call2 C J
      simp +decide only [go_sem,Nat.reduceAdd,AC hla0,k,g,b,d,c,f,j]
      refine Good.mk [] kr ⟨[],_,_,by first | rfl | simp only [List.append_nil,List.nil_append]⟩ ?_ ?_
      ·intro _;refine ⟨_,_,EB [] (by first | (simp +decide only [go_sem,Nat.reduceAdd,AC hla0,k,g,b,d,c,f,j];done) | (simp +decide only [go_sem,Nat.reduceAdd,AC hla0,k,g,b,d,c,f,j];rfl)),?_⟩
       try simp +decide only [go_sem,Nat.reduceAdd,AC hla0,k,g,b,d,c,f,j]
       (repeat' apply Ad)<;>first | refine V _ _ ?_ | exact cl
       clear V
       first | refine MV l ?_ | refine Kw l ?_
       exact go (tg (a:=((),()))) h hs hN v w p m trivial trivial
      ·intro i hi;cases hi
 have j:=hs.1
 refine sk [0,2,3,4] hs Q ?_
 clear Q
 obtain ⟨bb,h⟩:=Au h
 refine rg [0,2,3,4,6] hs ?_
 apply Am;intro K43 O
 apply D9 G6 [5,6] [0,2,3,4,6,7] kr (fun s=>∃ (X:Ao) (rows:Ap),s=⟨(B.set la0 (AY a0n a0in a0state (.list ([]) .full) (.list ([]) .full) (.list ([]) .full) (.list ([]) .full)))++([Qu a0in.message,Dx a0state,t.1.cs]++X),rows,L⟩) 3 (B.length+3)
 ·simp +decide only [go_sem,Nat.reduceAdd]
 ·rintro s ⟨X,rows,rfl⟩
  refine ⟨2,?_⟩
  rw [An];simp +decide only [go_sem,Nat.reduceAdd,Bh,AC hla0,k,g,b,d,c,f,j,Vl.cs_eqs (AB (a0state.number+1))]
  have hs:=Ad (Vl.cs_eqs (AB (a0state.number+1))) hs
  (repeat' apply Ad)<;>first | refine Av _ (Im w0 _ _ _ (a0state.number+1)) (hv hs) ?_ | exact cl
  rw [An];simp +decide only [go_sem,Nat.reduceAdd,AC hla0,k,g,b,d,c,f,j,Vl.cs_eqs (AB (a0state.number+1))]
  (repeat' apply Ad)<;>first | rfl | exact cl
 ·exact gd (tg (a:=(5,6,[0,2,3,4,6,7]))) (Ad (Vl.cs_eqs (AB (a0state.number+1))) (Ad f (Ad c (Ad d (Ad b (Ad (AC hla0) hs))))))
 simp +decide only [go_sem,Nat.reduceAdd,AC hla0,k,g,b,d,c,f,j,Vl.cs_eqs (AB (a0state.number+1))]
 (repeat' apply Ad)<;>first | refine O _ _ ?_ | exact cl
 clear O
 refine AD (fun e st=>∃ (q:Int) (Xk45:Ao) (Rk45:Ap),e=[(0,true,.box la0 0),(2,true,.box B.length 0),(3,true,.box (B.length+1) 0),(4,true,.box (B.length+2) 0),(6,true,Ak (a0state.number+1)),(7,true,.box (B.length+3) 0)]/\st=⟨(B.set la0 (AY a0n a0in a0state (.list ([]) .full) (.list ([]) .full) (.list ([]) .full) (.list ([]) .full)))++([Qu a0in.message,Dx a0state,t.1.cs,[Ak ((AB (a0state.number+1)).kind),Ak ((AB (a0state.number+1)).int),Ak ((AB (a0state.number+1)).scale),.val (.string ((AB (a0state.number+1)).text)),.list (((AB (a0state.number+1)).list).map En) .none,.list (((AB (a0state.number+1)).fields).map Di) .none,Ak 0,Ak q,.list (([a0in.message]).map Dn) .full,.list ([]) .full]]++Xk45),Rk45,L⟩/\Owns Rw Rk45 []/\BH n a0n a0in a0state ai t q=some r) ?_ ?_
 ·intro K46 aj
  have hs:=Ad (Vl.cs_eqs (AB (a0state.number+1))) hs
  exact go (tg (a:=([0,2,3,4,6,7,96],([12,0,2,3,4,6,7],()),[0,2,3,4,6,7],()))) h hs hN v w p m (q1 (Pz w0)) (q1 aj)
 ·clear h;rintro e st ⟨q,Xk45,Rk45,rfl,rfl,m,h⟩
  rw [BH] at h
  refine EA hN v w MZ (AK (DY p m.len) ow) m ow ow ?_
  obtain ⟨be,af,h⟩:=bind_some h
  have hs:=Ad (Vl.cs_eqs (AB (a0state.number+1))) hs
  refine rc 2 [0,2,4,5,6,8] hs ?_;intro K50 N
  refine Av _ (QL w0 n _ _ _ a0state (Slt.mk ((AB (a0state.number+1))) 0 q ([a0in.message]) ([])) _ af) (hv hs) ?_
  refine ne hs N ?_
  clear N
  apply Am;intro K52 Y
  refine rg [0,2,4,6,8,116] hs ?_
  refine B6 h hs ?_ ?_<;>intro hs h
  ·have o:=hs.1
   have m:=m.full 10 0
   have m:=m.full 6 0
   obtain ⟨bf,ae,h⟩:=bind_some h
   refine rc 2 [] hs ?_;intro K55 U
   refine BE _ (I4 w0 n _ _ _ la0 a0n a0in a0state (.list ([]) .full) (.list ([]) .full) ([]) ([]) .full .full (ef hs) m.enter2a m.enter2b m.apart2 a0in.message ((⟨#[102,117,108,108]⟩:ByteArray)) _ ae) (hv hs) ?_;rintro _ _ ⟨rfl,Rg59,Rh60,a3,a8,rfl,F,H⟩
   have m:=m.call2 F H
   refine ne hs U ?_
   clear U
   first | refine MV l ?_ | refine Kw l ?_
   apply BB;simp +decide only [go_sem,Nat.reduceAdd,AC hla0,k,g,b,d,c,f,j,Vl.cs_eqs (AB (a0state.number+1)),o]
   have hgt:=Option.some.inj h;subst hgt
   first | refine FV (AK p ev) MZ m.pre ev ⟨?_,(by first | rfl | exact congrArg (fun z=>St.mk z Rw L) (Bd hla0).symm | (simp +decide only [go_sem,Nat.reduceAdd,AC hla0,k,g,b,d,c,f,j,Vl.cs_eqs (AB (a0state.number+1)),o];done))⟩ | refine HM (AK p ev) MZ m.pre ev ⟨?_,(by first | rfl | exact congrArg (fun z=>St.mk z Rw L) (Bd hla0).symm | (simp +decide only [go_sem,Nat.reduceAdd,AC hla0,k,g,b,d,c,f,j,Vl.cs_eqs (AB (a0state.number+1)),o];done))⟩
   first | rfl | (simp +decide only [go_sem,Nat.reduceAdd,AC hla0,k,g,b,d,c,f,j,Vl.cs_eqs (AB (a0state.number+1)),o];done) | (simp +decide only [go_sem,Nat.reduceAdd,Vl.cs,Ty.cs,AC hla0,k,g,b,d,c,f,j,Vl.cs_eqs (AB (a0state.number+1)),o];done)
  have o:=hs.1
  refine sk [0,2,4,6,8] hs Y ?_
  clear Y
  refine rg [0,2,4,6,8] hs ?_
  refine rg [0,2,4,6] hs ?_
  obtain ⟨bc,ao,h⟩:=bind_some h
  apply Q3 G6 19 2 1 [] kr
  rw [An];simp +decide only [go_sem,Nat.reduceAdd,AC hla0,k,g,b,d,c,f,j,Vl.cs_eqs (AB (a0state.number+1)),o,Vl.cs_eqs t.1]
  have hs:=Ad (Vl.cs_eqs t.1) hs
  (repeat' apply Ad)<;>first | refine Av _ (HL w0 _ _ _ a0in.message.stamp 0 _ ao) (hv hs) ?_ | exact cl
  rw [An];simp +decide only [go_sem,Nat.reduceAdd,AC hla0,k,g,b,d,c,f,j,Vl.cs_eqs (AB (a0state.number+1)),o,Vl.cs_eqs t.1]
  (repeat' with_reducible apply Ad)<;>first | (rw [An];simp +decide only [go_sem,Nat.reduceAdd,AC hla0,k,g,b,d,c,f,j,Vl.cs_eqs (AB (a0state.number+1)),o,Vl.cs_eqs t.1]) | exact cl
  (repeat' apply Ad)<;>first | refine aq _ _ _ (LO l) ?_ | refine aq _ _ _ (JJ l) ?_ | exact cl
  simp +decide only [go_sem,Nat.reduceAdd,AC hla0,k,g,b,d,c,f,j,Vl.cs_eqs (AB (a0state.number+1)),o,Vl.cs_eqs t.1]
  have hgt:=Option.some.inj h;subst hgt
  first | refine FV (AK p ev) MZ m.pre ev ⟨?_,(by first | rfl | exact congrArg (fun z=>St.mk z Rw L) (Bd hla0).symm | (simp +decide only [go_sem,Nat.reduceAdd,AC hla0,k,g,b,d,c,f,j,Vl.cs_eqs (AB (a0state.number+1)),o,Vl.cs_eqs t.1];done))⟩ | refine HM (AK p ev) MZ m.pre ev ⟨?_,(by first | rfl | exact congrArg (fun z=>St.mk z Rw L) (Bd hla0).symm | (simp +decide only [go_sem,Nat.reduceAdd,AC hla0,k,g,b,d,c,f,j,Vl.cs_eqs (AB (a0state.number+1)),o,Vl.cs_eqs t.1];done))⟩
  first | rfl | (simp +decide only [go_sem,Nat.reduceAdd,AC hla0,k,g,b,d,c,f,j,Vl.cs_eqs (AB (a0state.number+1)),o,Vl.cs_eqs t.1];done) | (simp +decide only [go_sem,Nat.reduceAdd,Vl.cs,Ty.cs,AC hla0,k,g,b,d,c,f,j,Vl.cs_eqs (AB (a0state.number+1)),o,Vl.cs_eqs t.1];done)
def Gj (n:Nat) (g:Msg) (q:Int × List Int):Option Msg :=
 (DV n g).bind fun b =>
 (AW q).bind fun h =>
 some (Msg.mk h b.mass b.origins b.body)
theorem NT (w0:World) (n:Nat) (B:Ao) (Rw:Ap) (L:Aq) (a0:Msg) (a1:Int × List Int) (r:Msg) (h:Gj n a0 a1=some r) :
  ACalls Tryz.prog w0 79 [.agg (Qu a0),.agg (Ak a1.1::([.list (a1.2.map Ci) .none]))] ⟨B,Rw,L⟩ fun x st=>x = .agg (Qu r)/\st=⟨B,Rw,L⟩:=by
 rw [Gj] at h
 refine hd [.cell 4 51] Tryz.func79 Tryz.ntmps79 fun M0 W0 j e f b m i hs=>?_
 simp only [Ax]
 refine rg [2,3,4] hs ?_
 obtain ⟨g,d,h⟩:=bind_some h
 refine rc 2 [2,3,4] hs ?_;intro K2 c
 refine Av _ (Gk w0 n _ _ _ a0 _ d) (hv hs) ?_
 refine ne hs c ?_
 clear c
 obtain ⟨l,k,h⟩:=bind_some h
 have hs:=Ad (Vl.cs_eqs g.body) hs
 exact go (tg (a:=([2,4],[4],()))) h hs j e f b i (q1 (Eh w0)) trivial
def G3 (n:Nat) (a0stamp:Int × List Int) (a0kind:Int) (a0node:ByteArray) (a0text:ByteArray) (g:List (Int × List Int)):Nat->Int->(List (Int × List Int))->Option Fte
 | 0,_,_=>none
 | m+1,b,pla0_l2_4 =>
  if decide (b<(g.length:Int)) then
   (Dw g b).bind fun h =>
   (AW h).bind fun q =>
   if (pla0_l2_4.length+1)*32<=140737488355328/\pla0_l2_4.length+1<=4611686018427387904 then
    if BN (b+1) then
     (G3 n a0stamp a0kind a0node a0text g m) (b+1) (pla0_l2_4++([q]))
    else none
   else none
  else
   some (Fte.mk a0stamp a0kind a0node pla0_l2_4 a0text)
def Hq (n:Nat) (a0stamp:Int × List Int) (a0kind:Int) (a0node:ByteArray) (a0text:ByteArray) (b:List (Int × List Int)):Option Fte :=
 G3 n a0stamp a0kind a0node a0text b n 0 ([])
theorem QG (w0:World) (n:Nat) (B:Ao) (Rw:Ap) (L:Aq) (la0:Nat) (a0stamp:Int × List Int) (a0kind:Int) (a0node:ByteArray) (a0text:ByteArray) (hla0:B[la0]? = some (IW a0stamp a0kind a0node (.list ([]) .full) a0text)) (la1:Nat) (a1:List (Int × List Int)) (hla1:B[la1]? = some ([.list (a1.map J7) .none])) (r:Fte) (h:Hq n a0stamp a0kind a0node a0text a1=some r) :
  ACalls Tryz.prog w0 149 [.box la0 0,.box la1 0] ⟨B,Rw,L⟩ fun x st=>x = .tup []/\st=⟨(B.set la0 (IW r.stamp r.kind r.node (.list (r.into.map J7) .none) r.text)),Rw,L⟩:=by
 rw [Hq] at h
 refine hd [] Tryz.func149 Tryz.ntmps149 fun M0 W0 U G H k Y o hs=>?_
 simp only [Ax]
 have l:=(Aj.1 hla0).1
 have E:=(Aj.1 hla1).1
 apply MW;intro KE C
 have hs:=Ad (AH hla0) hs
 have hs:=Ad (AH hla1) hs
 refine rg [0,5,6,7] hs ?_
 apply Ar
 refine AA (fun m e st=>∃ (i:Int) (c:List (Int × List Int)) (d:Ev.Own) (Xl2:Ao) (Rl2:Ap),e=[(0,true,.box la0 0),(5,true,.list (a1.map J7) .none),(6,true,Ak (a1.length:Int)),(7,true,Ak i)]/\st=⟨(B.set la0 (IW a0stamp a0kind a0node (.list (c.map J7) d) a0text))++([]++Xl2),Rl2,L⟩/\Owns Rw Rl2 [(2,c.length,d)]/\G3 n a0stamp a0kind a0node a0text a1 m i c=some r) n ⟨0,([]),.full,([]),Rw,ef hs,ef hs,Owns.of_eq ((o).full 2 0) Fh,h⟩ ?_
 rintro ml2 e st ⟨i,c,d,Xl2,Rl2,rfl,rfl,o,h⟩ Ul2 Vl2
 cases ml2 with
 | zero=>cases h
 | succ ml2 =>
 rw [G3] at h
 have Q:=o.unders
 simp only [List.mem_cons,List.not_mem_nil,or_false,forall_eq_or_imp,forall_eq] at Q
 refine EA U G H MZ (AK (DY k o.len) ow) o ow ow ?_
 refine rg [0,5,6,7,8] hs ?_
 apply Am;intro K4 v
 refine B6 h hs ?_ ?_<;>intro hs h
 rotate_left
 ·have j:=hs.1
  refine EZ (C9 [] _) ?_ (BI _ _)
  apply Gn;simp +decide only [go_sem,Nat.reduceAdd]
  (repeat' apply Ad)<;>first | refine C _ _ _ (ZgK l) ?_ | refine C _ _ _ (Zea l) ?_ | exact cl
  simp +decide only [go_sem,Nat.reduceAdd,AH hla0,AH hla1,j]
  have hgt:=Option.some.inj h;subst hgt
  first | refine FV (AK k ev) MZ o.pre ev ⟨?_,rfl⟩ | refine HM (AK k ev) MZ o.pre ev ⟨?_,rfl⟩
  first | rfl | (simp +decide only [go_sem,Nat.reduceAdd,AH hla0,AH hla1,j];done) | (simp +decide only [go_sem,Nat.reduceAdd,Vl.cs,Ty.cs,AH hla0,AH hla1,j];done)
 have j:=hs.1
 refine sk [0,5,6,7] hs v ?_
 clear v
 apply Am;intro K6 D
 apply Ar
 obtain ⟨t,J,h⟩:=bind_some h
 obtain ⟨K,O,z⟩:=Bo J
 have g:=Bz (f:=J7) z
 have hs:=Ad g hs
 refine rg [0,4,5,6,7] hs ?_
 obtain ⟨V,u,h⟩:=bind_some h
 obtain ⟨q,h⟩:=Au h
 obtain ⟨F,p,o,b⟩:=o.append (P:=Tryz.prog) ZjF (by rw [Zez];rfl) (by decide) 1 q.1 q.2
 replace b:=fun (ys:List AV) B L o2=>b (c.map J7) ys B L o2 Fh
 replace b:=fun (y:AV) B L o2=>b [y] B L o2 Fh ev
 try simp only [List.mem_singleton,List.mem_cons,List.not_mem_nil,or_false,forall_eq_or_imp,forall_eq,List.map_append,List.map_cons,List.map_nil,Fe,E6,E9,E8,Fb,EP,D2,D4,E3,CJ,CL,D1,DX,DZ,Fa,DW,E5] at b
 apply JG G6 [8,11] [4] [0,5,6,7] kr (fun s=>∃ (X:Ao) (rows:Ap) (w:AV),s=⟨(B.set la0 (IW a0stamp a0kind a0node w a0text))++([Ak t.1::([.list (t.2.map Ci) .none])]++X),rows,L⟩) 3 (B.length+1)
 ·simp +decide only [go_sem,Nat.reduceAdd]
 ·refine ⟨2,?_⟩
  rw [An];simp +decide only [go_sem,Nat.reduceAdd,Bh,AH hla0,AH hla1,j,g,b]
  have hs:=Ad b hs
  (repeat' apply Ad)<;>first | refine Av _ (Eh w0 _ _ _ t _ u) (hv hs) ?_ | exact cl
  rw [An];simp +decide only [go_sem,Nat.reduceAdd,AH hla0,AH hla1,j,g,b]
  (repeat' apply Ad)<;>first | rfl | exact cl
 ·rintro s ⟨X,rows,w,rfl⟩
  refine ⟨2,?_⟩
  rw [An];simp +decide only [go_sem,Nat.reduceAdd,Bh,List.append_eq,List.cons_append,List.nil_append,AH hla0,AH hla1,j,g,b]
  have hs:=Ad b hs
  (repeat' apply Ad)<;>first | refine Av _ (Eh w0 _ _ _ t _ u) (hv hs) ?_ | exact cl
  rw [An];simp +decide only [go_sem,Nat.reduceAdd,AH hla0,AH hla1,j,g,b]
  (repeat' apply Ad)<;>first | rfl | ((repeat (first | exact .nil | refine .cons (ef hs) ?_));done) | exact cl
 ·exact gd (tg (a:=(8,11,[0,5,6,7]))) (Ad b (Ad g (Ad (AH hla1) (Ad (AH hla0) hs))))
 simp +decide only [go_sem,Nat.reduceAdd,AH hla0,AH hla1,j,g,b]
 (repeat' apply Ad)<;>first | refine D _ _ ?_ | exact cl
 clear D
 obtain ⟨N,h⟩:=Au h
 have hs:=Ad b hs
 refine rl [0,5,6,7] hs (fun e s=>Vl2 ml2 e s (Nat.lt_succ_self _)) ?_
 exact ⟨(i+1),(c++([V])),F,([Ak t.1::([.list (t.2.map Ci) .none])]),p,ef hs,ef hs,Owns.of_eq (o) Fh,h⟩
theorem Zhg (w0:World) (B:Ao) (Rw:Ap) (L:Aq) (l:List (Int × List Int)) :
  ACalls Tryz.prog w0 113 [.list (l.map J7) .none] ⟨B,Rw,L⟩ fun r st=>r = .clo 149 [.box B.length 0]/\st=⟨B++[[.list (l.map J7) .none]],Rw,L⟩:=by
 refine B7 (rs:=[.tmp 2]) Tryz.func113 rfl rfl Tryz.ntmps113 (AL Tryz.func113 rfl (by decide)) (Nat.le_of_ble_eq_true rfl) ?_
 intro M0 W0 g d e c f
 simp only [Ax]
 apply Am;intro K1 a
 apply As 1 [1,2]
 rw [An];simp +decide only [go_sem]
 (repeat' apply Ad)<;>first | refine a _ _ ?_ | exact cl
 clear a
 apply Am;intro K2 b
 apply As 1 [2]
 rw [An];simp +decide only [go_sem]
 (repeat' apply Ad)<;>first | refine b _ _ ?_ | exact cl
 apply BB;simp +decide only [go_sem]
def Le (n:Nat) (m:Msg) (nm:ByteArray) (l:List (Int × List Int)):Option Fte:=(AW m.stamp).bind fun y=>Hq n y 1 nm ⟨#[]⟩ l
theorem Yc (w0:World) (n:Nat) (B:Ao) (Rw:Ap) (L:Aq) (lb:Nat) (m:Msg) (nm:ByteArray) (l:List (Int × List Int)) (hb:B[lb]? = some [.list (l.map J7) .none]) (r:Fte) (h:Le n m nm l=some r) :
  ACalls Tryz.prog w0 112 [Dn m,.val (.string nm),Ak 1,.list [.clo 149 [.box lb 0]] .none] ⟨B,Rw,L⟩ fun x st=>x=F3 r/\st=⟨B,Rw,L⟩:=by
 rw [Le] at h
 obtain ⟨y,c,h⟩:=bind_some h
 refine Zar w0 B Rw L m nm 1 _ _ (IW r.stamp r.kind r.node (.list (r.into.map J7) .none) r.text) _ y c rfl rfl rfl rfl (by simp +decide only [go_sem]) ?_
 intro X b
 obtain ⟨u,v,rfl⟩:∃ u v,X=[u,v]:=by
  match X,b with
  | [u,v],_=>exact ⟨u,v,rfl⟩
 have a:=(Aj.1 hb).1
 have:=(QG w0 n (B++([u,v]++[IW y 1 nm (.list [] .full) ⟨#[]⟩])) Rw L (B.length+2) y 1 nm ⟨#[]⟩ (by simp [List.getElem?_append_right]) lb l (by rw [List.getElem?_append_left a];exact hb) r h).mono fun x st q=>q.2
 simpa [List.set_append_right,IW] using this
def CC (n:Nat) (g:Msg) (b:ByteArray) (q:List (Int × List Int)):Option Fte :=
 (Le n g b q).bind fun h =>
 some (h)
theorem HS (w0:World) (n:Nat) (B:Ao) (Rw:Ap) (L:Aq) (a0:Msg) (a1:ByteArray) (a2:List (Int × List Int)) (r:Fte) (h:CC n a0 a1 a2=some r) :
  ACalls Tryz.prog w0 80 [.agg (Qu a0),.val (.string a1),.list (a2.map J7) .none] ⟨B,Rw,L⟩ fun x st=>x = .agg (ftL r)/\st=⟨B,Rw,L⟩:=by
 rw [CC] at h
 refine hd [.cell 6 75] Tryz.func80 Tryz.ntmps80 fun M0 W0 l e g a j f hs=>?_
 simp only [Ax]
 refine rg [1,2,3,6] hs ?_
 apply Am;intro K2 b
 obtain ⟨k,c,h⟩:=bind_some h
 apply D9 G6 [3,4,5,6] [6] kr (fun s=>∃ (X:Ao) (rows:Ap) (d:List AV),s=⟨B++([Qu a0,d]++X),rows,L⟩) 5 (B.length+2)
 ·simp +decide only [go_sem,Nat.reduceAdd]
 ·rintro s ⟨X,rows,d,rfl⟩
  refine ⟨1,?_⟩
  rw [An];simp +decide only [go_sem,Nat.reduceAdd,Bh]
  (repeat' apply Ad)<;>first | rfl | exact cl
 ·refine Good.mk [3] kr ⟨[],_,_,by first | rfl | simp only [List.append_nil,List.nil_append] | (simp only [List.append_assoc,List.cons_append,List.nil_append];rfl)⟩ ?_ ?_
  ·intro h;exact absurd h (by decide)
  ·intro i hi;simp only [List.mem_cons,List.not_mem_nil,or_false] at hi
   subst hi
   ·apply Bl rfl rfl ev
    ·simp +decide only [go_sem,Nat.reduceAdd,Cd]
     (repeat' with_reducible apply Ad)<;>first | exact MD (Zhg w0 _ _ _ a2) (hv hs) | rfl | exact cl
    ·simp +decide only [go_sem,Nat.reduceAdd]
     refine Good.mk [4] kr ⟨_,_,_,by first | rfl | simp only [List.append_nil,List.nil_append] | (simp only [List.append_assoc,List.cons_append,List.nil_append];rfl)⟩ ?_ ?_
     ·intro h;exact absurd h (by decide)
     ·intro i hi;simp only [List.mem_cons,List.not_mem_nil,or_false] at hi
      subst hi
      ·apply Bl rfl rfl ev
       ·simp +decide only [go_sem,Nat.reduceAdd,Cd]
        (repeat' apply Ad)<;>first | rfl | exact cl
       ·simp +decide only [go_sem,Nat.reduceAdd]
        refine Good.mk [5] kr ⟨_,_,_,by first | rfl | simp only [List.append_nil,List.nil_append] | (simp only [List.append_assoc,List.cons_append,List.nil_append];rfl)⟩ ?_ ?_
        ·intro h;exact absurd h (by decide)
        ·intro i hi;simp only [List.mem_cons,List.not_mem_nil,or_false] at hi
         subst hi
         ·apply Bl rfl rfl ev
          ·simp +decide only [go_sem,Nat.reduceAdd,Cd]
           (repeat' with_reducible apply Ad)<;>first | exact Zel (Yc w0 n _ _ _ (B.length+2) a0 a1 a2 ev _ c) (hv hs) | rfl | exact cl
          ·simp +decide only [go_sem,Nat.reduceAdd]
           refine Good.mk [6] kr ⟨_,_,_,by first | rfl | simp only [List.append_nil,List.nil_append] | (simp only [List.append_assoc,List.cons_append,List.nil_append];rfl)⟩ ?_ ?_
           ·intro h;exact absurd h (by decide)
           ·intro i hi;simp only [List.mem_cons,List.not_mem_nil,or_false] at hi
            subst hi
            ·apply Bl rfl rfl ev
             ·simp +decide only [go_sem,Nat.reduceAdd,Cd]
              (repeat' apply Ad)<;>first | rfl | exact cl
             ·simp +decide only [go_sem,Nat.reduceAdd]
              refine Good.mk [] kr ⟨_,_,_,by first | rfl | simp only [List.append_nil,List.nil_append] | (simp only [List.append_assoc,List.cons_append,List.nil_append];rfl)⟩ ?_ ?_
              ·intro _;apply EB [6];first | (simp +decide only [go_sem,Nat.reduceAdd];done) | (simp +decide only [go_sem,Nat.reduceAdd];rfl)
              ·intro i hi;cases hi
 simp +decide only [go_sem,Nat.reduceAdd]
 (repeat' apply Ad)<;>first | refine b _ _ ?_ | exact cl
 clear b
 exact rt h hs a f
def Dh (n:Nat) (g:Msg) (q:Vl):Option Msg :=
 (DV n g).bind fun b =>
 (B8 n q).bind fun h =>
 some (Msg.mk b.stamp b.mass b.origins h)
theorem NP (w0:World) (n:Nat) (B:Ao) (Rw:Ap) (L:Aq) (a0:Msg) (a1:Vl) (r:Msg) (h:Dh n a0 a1=some r) :
  ACalls Tryz.prog w0 78 [.agg (Qu a0),.agg (a1.cs)] ⟨B,Rw,L⟩ fun x st=>x = .agg (Qu r)/\st=⟨B,Rw,L⟩:=by
 rw [Dh] at h
 refine hd [.cell 4 51] Tryz.func78 Tryz.ntmps78 fun M0 W0 k e f b m j hs=>?_
 simp only [Ax]
 refine rg [2,3,4] hs ?_
 obtain ⟨i,d,h⟩:=bind_some h
 refine rc 2 [2,3,4] hs ?_;intro K2 c
 refine Av _ (Gk w0 n _ _ _ a0 _ d) (hv hs) ?_
 refine ne hs c ?_
 clear c
 obtain ⟨g,l,h⟩:=bind_some h
 have hs:=Ad (Vl.cs_eqs i.body) hs
 have hs:=Ad (Vl.cs_eqs g) hs
 exact go (tg (a:=([2,4],[4],()))) h hs k e f b j (q1 (CZ w0 n)) trivial
def CG (n:Nat) (a0n:Nod) (a0in:Inp) (a0state:Stt) (h:Msg):Option Otc :=
 (FU n ([((⟨#[98,111,100,121]⟩:ByteArray),h.body),((⟨#[114,101,112,108,121]⟩:ByteArray),a0in.body)])).bind fun y3 =>
 (BO n a0n.mapping y3 a0n.type).bind fun y =>
 if !(decide (y.2=0)) then
  (CN y.2).bind fun y10 =>
  (J3 n a0n ([]) ([]) h y10).bind fun b =>
  some (Otc.mk a0state ([]) ([]) b.1 b.2)
 else
  (BM a0in.stamp 0).bind fun g =>
  (Dh n h y.1).bind fun y21 =>
  (Gj n y21 g).bind fun q =>
  (CC n h a0n.name ([g])).bind fun y23 =>
  if (0+1)*96<=140737488355328/\0+1<=4611686018427387904 then
   some (Otc.mk a0state ([(0,q)]) ([]) ([y23]) ([]))
  else none
theorem Ku (w0:World) (hE:QU w0) (hM:Qx w0) (hP:Pow10 w0) (hT:Lib.Utf8Tabs 1 2 w0) (n:Nat) (B:Ao) (Rw:Ap) (L:Aq) (la0:Nat) (a0n:Nod) (a0in:Inp) (a0state:Stt) (hla0:B[la0]? = some (AY a0n a0in a0state (.list ([]) .full) (.list ([]) .full) (.list ([]) .full) (.list ([]) .full))) (a1:Msg) (r:Otc) (h:CG n a0n a0in a0state a1=some r) :
  ACalls Tryz.prog w0 99 [.box la0 0,.agg (Qu a1)] ⟨B,Rw,L⟩ fun x st=>x = .tup []/\st=⟨(B.set la0 (AY a0n a0in r.state (.list (r.outputs.map M8) .none) (.list (r.requests.map N5) .none) (.list (r.fates.map F3) .none) (.list (r.letters.map Dn) .none))),Rw,L⟩:=by
 rw [CG] at h
 refine hd [] Tryz.func99 Tryz.ntmps99 fun M0 W0 hN U V f hu e hs=>?_
 simp only [Ax]
 have d:=(Aj.1 hla0).1
 apply MW;intro KE G
 refine MI (B':=B.set la0 (AY a0n a0in a0state (.list ([]) .full) (.list ([]) .full) (.list ([]) .full) (.list ([]) .full))) (by simp only [Bd hla0]) ?_
 have hs:=Ad (AC hla0) hs
 refine rg [0,3] hs ?_
 apply Am;intro K2 E
 obtain ⟨N,aa,h⟩:=bind_some h
 apply D9 G6 [11,12] [0,3,4] kr (fun s=>∃ (X:Ao) (rows:Ap),s=⟨(B.set la0 (AY a0n a0in a0state (.list ([]) .full) (.list ([]) .full) (.list ([]) .full) (.list ([]) .full)))++([Qu a1]++X),rows,L⟩) 3 (B.length+1)
 ·simp +decide only [go_sem,Nat.reduceAdd]
 ·rintro s ⟨X,rows,rfl⟩
  refine ⟨2,?_⟩
  rw [An];simp +decide only [go_sem,Nat.reduceAdd,Bh,AC hla0]
  (repeat' apply Ad)<;>first | refine Av _ (LE w0 n _ _ _ ([((⟨#[98,111,100,121]⟩:ByteArray),a1.body),((⟨#[114,101,112,108,121]⟩:ByteArray),a0in.body)]) _ aa) (hv hs) ?_ | exact cl
  rw [An];simp +decide only [go_sem,Nat.reduceAdd,AC hla0]
  (repeat' apply Ad)<;>first | rfl | exact cl
 ·exact gd (tg (a:=(11,12,[0,3,4]))) (Ad (AC hla0) hs)
 simp +decide only [go_sem,Nat.reduceAdd,AC hla0]
 (repeat' apply Ad)<;>first | refine E _ _ ?_ | exact cl
 clear E
 apply Am;intro K4 w
 obtain ⟨J,Y,h⟩:=bind_some h
 apply D9 G6 [15,16] [0,3,5,6] kr (fun s=>∃ (X:Ao) (rows:Ap),s=⟨(B.set la0 (AY a0n a0in a0state (.list ([]) .full) (.list ([]) .full) (.list ([]) .full) (.list ([]) .full)))++([Qu a1,N.cs]++X),rows,L⟩) 3 (B.length+2)
 ·simp +decide only [go_sem,Nat.reduceAdd]
 ·rintro s ⟨X,rows,rfl⟩
  refine ⟨2,?_⟩
  rw [An];simp +decide only [go_sem,Nat.reduceAdd,Bh,AC hla0]
  (repeat' apply Ad)<;>first | refine Av _ (HG w0 hE hM hP hT n _ _ _ a0n.mapping N a0n.type _ Y) (hv hs) ?_ | exact cl
  rw [An];simp +decide only [go_sem,Nat.reduceAdd,AC hla0]
  (repeat' apply Ad)<;>first | rfl | exact cl
 ·exact gd (tg (a:=(15,16,[0,3,5,6]))) (Ad (AC hla0) hs)
 simp +decide only [go_sem,Nat.reduceAdd,AC hla0]
 (repeat' apply Ad)<;>first | refine w _ _ ?_ | exact cl
 clear w
 apply Am;intro K6 H
 refine rg [0,3,5,6,35] hs ?_
 refine B6 h hs ?_ ?_<;>intro hs h
 ·have c:=hs.1
  apply Am;intro K9 z
  obtain ⟨O,C,h⟩:=bind_some h
  have e:=e.full 10 0
  have e:=e.full 6 0
  obtain ⟨af,u,h⟩:=bind_some h
  apply JF G6 [4] [] kr (fun s=>∃ (X:Ao) (rows:Ap) (q:List AV),s=⟨(B.set la0 q)++([Qu a1,N.cs,J.1.cs]++X),rows,L⟩) 2 (B.length+3)
  ·simp +decide only [go_sem,Nat.reduceAdd]
  ·rintro s ⟨X,rows,q,rfl⟩
   refine ⟨2,?_⟩
   rw [An];simp +decide only [go_sem,Nat.reduceAdd,Bh,AC hla0,c]
   (repeat' apply Ad)<;>first | refine Av _ (Es w0 _ _ _ J.2 _ C) (hv hs) ?_ | exact cl
   rw [An];simp +decide only [go_sem,Nat.reduceAdd,AC hla0,c]
   (repeat' apply Ad)<;>first | rfl | exact cl
  ·refine Good.mk [4] kr ⟨[],_,_,by first | rfl | simp only [List.append_nil,List.nil_append]⟩ ?_ ?_
   ·intro h;exact absurd h (by decide)
   ·intro i hi;simp only [List.mem_cons,List.not_mem_nil,or_false] at hi
    subst hi
    ·apply Ib rfl rfl ev rfl
     ·simp +decide only [go_sem,Nat.reduceAdd,AC hla0,c]
     ·simp +decide only [go_sem,Nat.reduceAdd,AC hla0,c]
     ·simp +decide only [go_sem,Nat.reduceAdd,AC hla0,c]
      exact (I4 w0 n _ _ _ la0 a0n a0in a0state (.list ([]) .full) (.list ([]) .full) ([]) ([]) .full .full (ef hs) e.enter2a e.enter2b e.apart2 a1 O _ u).pub (hv hs)
     ·rintro _ _ ⟨rfl,Rg14,Rh15,ad,ab,rfl,j,k⟩
      have e:=e.call2 j k
      simp +decide only [go_sem,Nat.reduceAdd,AC hla0,c]
      refine Good.mk [] kr ⟨[],_,_,by first | rfl | simp only [List.append_nil,List.nil_append]⟩ ?_ ?_
      ·intro _;refine ⟨_,_,EB [] (by first | (simp +decide only [go_sem,Nat.reduceAdd,AC hla0,c];done) | (simp +decide only [go_sem,Nat.reduceAdd,AC hla0,c];rfl)),?_⟩
       try simp +decide only [go_sem,Nat.reduceAdd,AC hla0,c]
       (repeat' apply Ad)<;>first | refine z _ _ ?_ | exact cl
       clear z
       first | refine MV d ?_ | refine Kw d ?_
       exact go (tg (a:=((),()))) h hs hN U V f e trivial trivial
      ·intro i hi;cases hi
 have c:=hs.1
 refine sk [0,3,5] hs H ?_
 clear H
 obtain ⟨g,D,h⟩:=bind_some h
 refine rc 2 [0,3,5,7] hs ?_;intro K18 o
 refine Av _ (HL w0 _ _ _ a0in.stamp 0 _ D) (hv hs) ?_
 refine ne hs o ?_
 clear o
 obtain ⟨Z,v,h⟩:=bind_some h
 obtain ⟨Q,F,h⟩:=bind_some h
 apply Am;intro K20 l
 refine dk 11 3 1 [0,3,7] hs G6 ?_
 refine Av _ (NP w0 n _ _ _ a1 J.1 _ v) (hv hs) ?_
 refine nc hs ?_
 refine Av _ (NT w0 n _ _ _ Z g _ F) (hv hs) ?_
 refine dn hs l ?_
 clear l
 obtain ⟨ag,p,h⟩:=bind_some h
 obtain ⟨m,h⟩:=Au h
 have e:=e.full 6 0
 obtain ⟨ae,K,e,b⟩:=e.append (P:=Tryz.prog) WU (by rw [QI];rfl) (by decide) 1 m.1 m.2
 simp only [Nat.zero_add] at e
 replace b:=fun (ys:List AV) B L o2=>b ([]) ys B L o2 Fh
 replace b:=fun (y:AV) B L o2=>b [y] B L o2 Fh ev
 try simp only [List.mem_singleton,List.mem_cons,List.not_mem_nil,or_false,forall_eq_or_imp,forall_eq,List.map_append,List.map_cons,List.map_nil,Fe,E6,E9,E8,Fb,EP,D2,D4,E3,CJ,CL,D1,DX,DZ,Fa,DW,E5] at b
 apply JG G6 [16,20] [5,11] [] kr (fun s=>∃ (X:Ao) (rows:Ap) (t:AV),s=⟨(B.set la0 (AY a0n a0in a0state (.list (([(0,Q)]).map M8) .full) (.list ([]) .full) t (.list ([]) .full)))++([Qu a1,N.cs,J.1.cs,Ak g.1::([.list (g.2.map Ci) .none])]++X),rows,L⟩) 3 (B.length+4)
 ·simp +decide only [go_sem,Nat.reduceAdd]
 ·refine ⟨2,?_⟩
  rw [An];simp +decide only [go_sem,Nat.reduceAdd,Bh,AC hla0,c,b]
  have hs:=Ad b hs
  (repeat' apply Ad)<;>first | refine Av _ (HS w0 n _ _ _ a1 a0n.name ([g]) _ p) (hv hs) ?_ | exact cl
  rw [An];simp +decide only [go_sem,Nat.reduceAdd,AC hla0,c,b]
  (repeat' apply Ad)<;>first | rfl | exact cl
 ·rintro s ⟨X,rows,t,rfl⟩
  refine ⟨2,?_⟩
  rw [An];simp +decide only [go_sem,Nat.reduceAdd,Bh,List.append_eq,List.cons_append,List.nil_append,AC hla0,c,b]
  have hs:=Ad b hs
  (repeat' apply Ad)<;>first | refine Av _ (HS w0 n _ _ _ a1 a0n.name ([g]) _ p) (hv hs) ?_ | exact cl
  rw [An];simp +decide only [go_sem,Nat.reduceAdd,AC hla0,c,b]
  (repeat' apply Ad)<;>first | rfl | ((repeat (first | exact .nil | refine .cons (ef hs) ?_));done) | exact cl
 ·exact gd (tg (a:=(16,20,([]:List Nat)))) (Ad b (Ad (AC hla0) hs))
 simp +decide only [go_sem,Nat.reduceAdd,AC hla0,c,b]
 (repeat' apply Ad)<;>first | refine G _ _ _ (LO d) ?_ | refine G _ _ _ (JJ d) ?_ | exact cl
 simp +decide only [go_sem,Nat.reduceAdd,AC hla0,c,b]
 have hgt:=Option.some.inj h;subst hgt
 first | refine FV (AK f ev) MZ e.pre ev ⟨?_,rfl⟩ | refine HM (AK f ev) MZ e.pre ev ⟨?_,rfl⟩
 first | rfl | (simp +decide only [go_sem,Nat.reduceAdd,AC hla0,c,b];done) | (simp +decide only [go_sem,Nat.reduceAdd,Vl.cs,Ty.cs,AC hla0,c,b];done)
def Iy  : Unit :=
 ()
theorem MG (w0:World) (B:Ao) (Rw:Ap) (L:Aq) (la0:Nat) (r:Unit) (h:Iy  = r) :
  ACalls Tryz.prog w0 69 [.box la0 0] ⟨B,Rw,L⟩ fun x st=>x = .agg ([.clo 98 [.box B.length 0,.box (B.length+2) 0],.clo 98 [.box B.length 0,.box (B.length+3) 0],.bnd 99 [.box la0 0]])/\st=⟨B++[[.box la0 0],[.clo 98 [.box B.length 0,.box (B.length+2) 0],.clo 98 [.box B.length 0,.box (B.length+3) 0],.bnd 99 [.box la0 0]],[.val (.string ((⟨#[114,101,102,117,115,101,100]⟩:ByteArray)))],[.val (.string ((⟨#[116,121,112,101]⟩:ByteArray)))]],Rw,L⟩:=by
 rw [Iy] at h
 refine B7 (rs:=[.cell 2 144]) Tryz.func69 rfl rfl Tryz.ntmps69 (AL Tryz.func69 rfl (by decide)) (Nat.le_of_ble_eq_true rfl) ?_
 intro M0 W0 g c d a f
 dsimp only at g c d a f
 simp only [Ax]
 have j:=Owns.none Rw
 have hs:=Uu
 refine rg [1,2] hs ?_
 refine rg [1,2,3] hs ?_
 apply Am;intro K3 b
 apply D9 G6 [1,3,6,7] [2] kr (fun s=>∃ (X:Ao) (rows:Ap) (e:List AV),s=⟨B++([[.box la0 0],e]++X),rows,L⟩) 5 (B.length+2)
 ·simp +decide only [go_sem,Nat.reduceAdd]
 ·rintro s ⟨X,rows,e,rfl⟩
  refine ⟨1,?_⟩
  rw [An];simp +decide only [go_sem,Nat.reduceAdd,Bh]
  (repeat' apply Ad)<;>first | rfl | exact cl
 ·refine Good.mk [1] kr ⟨[],_,_,by first | rfl | simp only [List.append_nil,List.nil_append] | (simp only [List.append_assoc,List.cons_append,List.nil_append];rfl)⟩ ?_ ?_
  ·intro h;exact absurd h (by decide)
  ·intro i hi;simp only [List.mem_cons,List.not_mem_nil,or_false] at hi
   subst hi
   ·apply Bl rfl rfl ev
    ·simp +decide only [go_sem,Nat.reduceAdd,Cd]
     (repeat' with_reducible apply Ad)<;>first | exact MD (XN w0 _ _ _ ((⟨#[114,101,102,117,115,101,100]⟩:ByteArray)) B.length) (hv hs) | rfl | exact cl
    ·simp +decide only [go_sem,Nat.reduceAdd]
     refine Good.mk [3] kr ⟨_,_,_,by first | rfl | simp only [List.append_nil,List.nil_append] | (simp only [List.append_assoc,List.cons_append,List.nil_append];rfl)⟩ ?_ ?_
     ·intro h;exact absurd h (by decide)
     ·intro i hi;simp only [List.mem_cons,List.not_mem_nil,or_false] at hi
      subst hi
      ·apply Bl rfl rfl ev
       ·simp +decide only [go_sem,Nat.reduceAdd,Cd]
        (repeat' with_reducible apply Ad)<;>first | exact MD (XN w0 _ _ _ ((⟨#[116,121,112,101]⟩:ByteArray)) B.length) (hv hs) | rfl | exact cl
       ·simp +decide only [go_sem,Nat.reduceAdd]
        refine Good.mk [6] kr ⟨_,_,_,by first | rfl | simp only [List.append_nil,List.nil_append] | (simp only [List.append_assoc,List.cons_append,List.nil_append];rfl)⟩ ?_ ?_
        ·intro h;exact absurd h (by decide)
        ·intro i hi;simp only [List.mem_cons,List.not_mem_nil,or_false] at hi
         subst hi
         ·apply Bl rfl rfl ev
          ·simp +decide only [go_sem,Nat.reduceAdd,Cd]
           (repeat' apply Ad)<;>first | rfl | exact cl
          ·simp +decide only [go_sem,Nat.reduceAdd]
           refine Good.mk [7] kr ⟨_,_,_,by first | rfl | simp only [List.append_nil,List.nil_append] | (simp only [List.append_assoc,List.cons_append,List.nil_append];rfl)⟩ ?_ ?_
           ·intro h;exact absurd h (by decide)
           ·intro i hi;simp only [List.mem_cons,List.not_mem_nil,or_false] at hi
            subst hi
            ·apply Bl rfl rfl ev
             ·simp +decide only [go_sem,Nat.reduceAdd,Cd]
              (repeat' apply Ad)<;>first | rfl | exact cl
             ·simp +decide only [go_sem,Nat.reduceAdd]
              refine Good.mk [] kr ⟨_,_,_,by first | rfl | simp only [List.append_nil,List.nil_append] | (simp only [List.append_assoc,List.cons_append,List.nil_append];rfl)⟩ ?_ ?_
              ·intro _;apply EB [2];first | (simp +decide only [go_sem,Nat.reduceAdd];done) | (simp +decide only [go_sem,Nat.reduceAdd];rfl)
              ·intro i hi;cases hi
 simp +decide only [go_sem,Nat.reduceAdd]
 (repeat' apply Ad)<;>first | refine b _ _ ?_ | exact cl
 clear b
 apply BB
 (simp +decide only [go_sem,Nat.reduceAdd])<;>first | done | exact ⟨rfl,rfl⟩ | rfl
def Bc (n:Nat) (g:Msg) (a1n:Nod) (a1in:Inp) (a1state:Stt) (h:ByteArray):Option Otc :=
 (J3 n a1n ([]) ([]) g h).bind fun b =>
 some (Otc.mk a1state ([]) ([]) b.1 b.2)
theorem G4 (w0:World) (n:Nat) (B:Ao) (Rw:Ap) (L:Aq) (a0:Msg) (la1p:Nat) (la1:Nat) (a1n:Nod) (a1in:Inp) (a1state:Stt) (hla1p:B[la1p]? = some [.box la1 0]) (hla1:B[la1]? = some (AY a1n a1in a1state (.list ([]) .full) (.list ([]) .full) (.list ([]) .full) (.list ([]) .full))) (la2:Nat) (a2:ByteArray) (hla2:B[la2]? = some ([.val (.string a2)])) (r:Otc) (h:Bc n a0 a1n a1in a1state a2=some r) :
  ACalls Tryz.prog w0 98 [.agg (Qu a0),.box la1p 0,.box la2 0] ⟨B,Rw,L⟩ fun x st=>x = .tup []/\st=⟨(B.set la1 (AY a1n a1in r.state (.list (r.outputs.map M8) .none) (.list (r.requests.map N5) .none) (.list (r.fates.map F3) .none) (.list (r.letters.map Dn) .none))),Rw,L⟩:=by
 rw [Bc] at h
 refine hd [] Tryz.func98 Tryz.ntmps98 fun M0 W0 s m o b p c hs=>?_
 simp only [Ax]
 have g:=(Aj.1 hla1p).1
 have a:=(Aj.1 hla1).1
 have i:=(Aj.1 hla2).1
 apply MW;intro KE f
 have hs:=Ad (AH hla1p) hs
 have hs:=Ad (AH hla1) hs
 have hs:=Ad (AH hla2) hs
 refine rg [1,2,3] hs ?_
 have c:=c.full 10 0
 have c:=c.full 6 0
 obtain ⟨q,j,h⟩:=bind_some h
 apply As 2 []
 rw [An];simp +decide only [go_sem,Nat.reduceAdd,AH hla1p,AH hla1,AH hla2]
 (repeat' apply Ad)<;>first | (refine BE _ (I4 w0 n _ _ _ la1 a1n a1in a1state (.list ([]) .full) (.list ([]) .full) ([]) ([]) .full .full (ef hs) c.enter2a c.enter2b c.apart2 a0 a2 _ j) (hv hs) ?_;rintro _ _ ⟨rfl,Rg5,Rh6,k,l,rfl,e,d⟩) | exact cl
 have c:=c.call2 e d
 rw [An];simp +decide only [go_sem,Nat.reduceAdd,AH hla1p,AH hla1,AH hla2]
 (repeat' apply Ad)<;>first | refine f _ _ _ (LO a) ?_ | refine f _ _ _ (JJ a) ?_ | exact cl
 simp +decide only [go_sem,Nat.reduceAdd,AH hla1p,AH hla1,AH hla2]
 have hgt:=Option.some.inj h;subst hgt
 first | refine FV (AK b ev) MZ c.pre ev ⟨?_,rfl⟩ | refine HM (AK b ev) MZ c.pre ev ⟨?_,rfl⟩
 first | rfl | (simp +decide only [go_sem,Nat.reduceAdd,AH hla1p,AH hla1,AH hla2];done) | (simp +decide only [go_sem,Nat.reduceAdd,Vl.cs,Ty.cs,AH hla1p,AH hla1,AH hla2];done)
def Dp (n:Nat) (a0n:Nod) (a0in:Inp) (a0state:Stt):Option Otc :=
 (Hg n a0state (AB a0in.call)).bind fun y =>
 if (a0in.undo||(!y.2))||(!(decide ((y.1.items.length:Int)=1))) then
  some (Otc.mk a0state ([]) ([]) ([]) ([]))
 else
  (Gm n a0state (AB a0in.call)).bind fun q =>
  (Dw y.1.items 0).bind fun b =>
  if !a0in.done then
   (Bc n b a0n a0in q.1 ((⟨#[114,101,102,117,115,101,100]⟩:ByteArray))).bind fun y14 =>
   some (y14)
  else
   if !(Ce a0n) then
    AM
   else
    (Dw a0n.types 1).bind fun h =>
    (Gz n h a0in.body).bind fun g =>
    if !g then
     (Bc n b a0n a0in q.1 ((⟨#[116,121,112,101]⟩:ByteArray))).bind fun y20 =>
     some (y20)
    else
     (CG n a0n a0in q.1 b).bind fun y21 =>
     some (y21)
theorem L8 (w0:World) (hE:QU w0) (hM:Qx w0) (hP:Pow10 w0) (hT:Lib.Utf8Tabs 1 2 w0) (n:Nat) (B:Ao) (Rw:Ap) (L:Aq) (la0:Nat) (a0n:Nod) (a0in:Inp) (a0state:Stt) (hla0:B[la0]? = some (AY a0n a0in a0state (.list ([]) .full) (.list ([]) .full) (.list ([]) .full) (.list ([]) .full))) (r:Otc) (h:Dp n a0n a0in a0state=some r) :
  ACalls Tryz.prog w0 39 [.box la0 0] ⟨B,Rw,L⟩ fun x st=>x = .tup []/\st=⟨(B.set la0 (AY a0n a0in r.state (.list (r.outputs.map M8) .none) (.list (r.requests.map N5) .none) (.list (r.fates.map F3) .none) (.list (r.letters.map Dn) .none))),Rw,L⟩:=by
 rw [Dp] at h
 refine hd [] Tryz.func39 Tryz.ntmps39 fun M0 W0 hN Q U l hu u hs=>?_
 simp only [Ax]
 have i:=(Aj.1 hla0).1
 apply MW;intro KE m
 refine MI (B':=B.set la0 (AY a0n a0in a0state (.list ([]) .full) (.list ([]) .full) (.list ([]) .full) (.list ([]) .full))) (by simp only [Bd hla0]) ?_
 have hs:=Ad (AC hla0) hs
 refine rc 2 [0,2] hs ?_;intro K1 v
 refine Av _ (Im w0 _ _ _ a0in.call) (hv hs) ?_
 refine ne hs v ?_
 clear v
 apply Am;intro K2 H
 obtain ⟨y3,Z,h⟩:=bind_some h
 apply D9 G6 [10,11] [0,2,3,4] kr (fun s=>∃ (X:Ao) (rows:Ap),s=⟨(B.set la0 (AY a0n a0in a0state (.list ([]) .full) (.list ([]) .full) (.list ([]) .full) (.list ([]) .full)))++([(AB a0in.call).cs]++X),rows,L⟩) 3 (B.length+1)
 ·simp +decide only [go_sem,Nat.reduceAdd]
 ·rintro s ⟨X,rows,rfl⟩
  refine ⟨2,?_⟩
  rw [An];simp +decide only [go_sem,Nat.reduceAdd,Bh,AC hla0]
  (repeat' apply Ad)<;>first | refine Av _ (WL w0 n _ _ _ a0state (AB a0in.call) _ Z) (hv hs) ?_ | exact cl
  rw [An];simp +decide only [go_sem,Nat.reduceAdd,AC hla0]
  (repeat' apply Ad)<;>first | rfl | exact cl
 ·exact gd (tg (a:=(10,11,[0,2,3,4]))) (Ad (AC hla0) hs)
 simp +decide only [go_sem,Nat.reduceAdd,AC hla0]
 (repeat' apply Ad)<;>first | refine H _ _ ?_ | exact cl
 clear H
 apply Am;intro K4 D
 refine rg [0,2,3,37] hs ?_
 refine B6 h hs ?_ ?_<;>intro hs h
 ·have j:=hs.1
  first | refine MV i ?_ | refine Kw i ?_
  exact go (tg (a:=((),()))) h hs hN Q U l u trivial trivial
 have j:=hs.1
 refine sk [0,2,3] hs D ?_
 clear D
 apply Am;intro K7 w
 obtain ⟨y8,G,h⟩:=bind_some h
 apply JG G6 [14] [5] [0,3] kr (fun s=>∃ (X:Ao) (rows:Ap) (o:Stt),s=⟨(B.set la0 (AY a0n a0in o (.list ([]) .full) (.list ([]) .full) (.list ([]) .full) (.list ([]) .full)))++([(AB a0in.call).cs,O4 y3.1]++X),rows,L⟩) 2 (B.length+2)
 ·simp +decide only [go_sem,Nat.reduceAdd]
 ·refine ⟨2,?_⟩
  rw [An];simp +decide only [go_sem,Nat.reduceAdd,Bh,AC hla0,j]
  (repeat' apply Ad)<;>first | refine Av _ (H9 w0 n _ _ _ a0state (AB a0in.call) _ G) (hv hs) ?_ | exact cl
  rw [An];simp +decide only [go_sem,Nat.reduceAdd,AC hla0,j]
  (repeat' apply Ad)<;>first | rfl | exact cl
 ·rintro s ⟨X,rows,o,rfl⟩
  refine ⟨2,?_⟩
  rw [An];simp +decide only [go_sem,Nat.reduceAdd,Bh,List.append_eq,List.cons_append,List.nil_append,AC hla0,j]
  (repeat' apply Ad)<;>first | refine Av _ (H9 w0 n _ _ _ a0state (AB a0in.call) _ G) (hv hs) ?_ | exact cl
  rw [An];simp +decide only [go_sem,Nat.reduceAdd,AC hla0,j]
  (repeat' apply Ad)<;>first | rfl | ((repeat (first | exact .nil | refine .cons (ef hs) ?_));done) | exact cl
 ·exact gd (tg (a:=(14,[0,3]))) (Ad (AC hla0) hs)
 simp +decide only [go_sem,Nat.reduceAdd,AC hla0,j]
 (repeat' apply Ad)<;>first | refine w _ _ ?_ | exact cl
 clear w
 refine rc 2 [0,3,5] hs ?_;intro K9 E
 refine BE _ (MG w0 _ _ _ la0 _ rfl) (hv hs) ?_;rintro _ _ ⟨rfl,rfl⟩
 refine ne hs E ?_
 clear E
 obtain ⟨q,z,h⟩:=bind_some h
 obtain ⟨O,V,t⟩:=Bo z
 have b:=Bz (f:=Dn) t
 have c:(y3.1.items.map Dn).getD 0 .junk=_:=b
 have hs:=Ad b hs
 have hs:=Ad c hs
 refine rg [0,5,6] hs ?_
 apply Ar
 refine rg [0,5,6,62] hs ?_
 refine B6 h hs ?_ ?_<;>intro hs h
 ·have e:=hs.1
  obtain ⟨aa,F,h⟩:=bind_some h
  apply As 2 []
  rw [An];simp +decide only [go_sem,Nat.reduceAdd,AC hla0,j,b,c,e]
  (repeat' apply Ad)<;>first | (refine BE _ (G4 w0 n _ _ _ q (B.length+2) la0 a0n a0in y8.1 (ef hs) (ef hs) (B.length+4) ((⟨#[114,101,102,117,115,101,100]⟩:ByteArray)) (ef hs) _ F) (hv hs) ?_;rintro _ _ ⟨rfl,rfl⟩) | exact cl
  rw [An];simp +decide only [go_sem,Nat.reduceAdd,AC hla0,j,b,c,e]
  (repeat' apply Ad)<;>first | refine m _ _ _ (LO i) ?_ | refine m _ _ _ (JJ i) ?_ | exact cl
  simp +decide only [go_sem,Nat.reduceAdd,AC hla0,j,b,c,e]
  have hgt:=Option.some.inj h;subst hgt
  first | refine FV (AK l ev) MZ u.pre ev ⟨?_,rfl⟩ | refine HM (AK l ev) MZ u.pre ev ⟨?_,rfl⟩
  first | rfl | (simp +decide only [go_sem,Nat.reduceAdd,AC hla0,j,b,c,e];done) | (simp +decide only [go_sem,Nat.reduceAdd,Vl.cs,Ty.cs,AC hla0,j,b,c,e];done)
 have e:=hs.1
 apply Am;intro K15 p
 rcases Bool.eq_false_or_eq_true (!(Ce a0n)) with hf16 | hf16
 ·replace h:=Cj h hf16
  exact nS h
 ·replace h:=Cm h hf16
  obtain ⟨K,N,Y,d,h⟩:=ix Rm h
  have g:(a0n.types.map Rm).getD 1 .junk=_:=d
  obtain ⟨ab,C,h⟩:=bind_some h
  have hs:=Ad hf16 hs
  have hs:=Ad d hs
  have hs:=Ad g hs
  refine dk 23 3 1 [5,6,73] hs G6 ?_
  refine Av _ (Iq w0 _ _ _ a0n) (hv hs) ?_
  refine nc hs ?_
  refine Av _ (Ol w0 n _ _ _ K a0in.body _ C) (hv hs) ?_
  refine dn hs p ?_
  clear p
  refine B6 h hs ?_ ?_<;>intro hs h
  ·have k:=hs.1
   obtain ⟨ae,J,h⟩:=bind_some h
   apply As 2 []
   rw [An];simp +decide only [go_sem,Nat.reduceAdd,AC hla0,j,b,c,e,hf16,d,g,k]
   (repeat' apply Ad)<;>first | (refine BE _ (G4 w0 n _ _ _ q (B.length+2) la0 a0n a0in y8.1 (ef hs) (ef hs) (B.length+5) ((⟨#[116,121,112,101]⟩:ByteArray)) (ef hs) _ J) (hv hs) ?_;rintro _ _ ⟨rfl,rfl⟩) | exact cl
   rw [An];simp +decide only [go_sem,Nat.reduceAdd,AC hla0,j,b,c,e,hf16,d,g,k]
   (repeat' apply Ad)<;>first | refine m _ _ _ (LO i) ?_ | refine m _ _ _ (JJ i) ?_ | exact cl
   simp +decide only [go_sem,Nat.reduceAdd,AC hla0,j,b,c,e,hf16,d,g,k]
   have hgt:=Option.some.inj h;subst hgt
   first | refine FV (AK l ev) MZ u.pre ev ⟨?_,rfl⟩ | refine HM (AK l ev) MZ u.pre ev ⟨?_,rfl⟩
   first | rfl | (simp +decide only [go_sem,Nat.reduceAdd,AC hla0,j,b,c,e,hf16,d,g,k];done) | (simp +decide only [go_sem,Nat.reduceAdd,Vl.cs,Ty.cs,AC hla0,j,b,c,e,hf16,d,g,k];done)
  have k:=hs.1
  obtain ⟨ad,y,h⟩:=bind_some h
  apply As 2 []
  rw [An];simp +decide only [go_sem,Nat.reduceAdd,AC hla0,j,b,c,e,hf16,d,g,k]
  (repeat' apply Ad)<;>first | (refine Zba _ (Ku w0 hE hM hP hT n _ _ _ la0 a0n a0in y8.1 (ef hs) q _ y) (hv hs) ?_;rintro _ _ ⟨rfl,rfl⟩) | exact cl
  rw [An];simp +decide only [go_sem,Nat.reduceAdd,AC hla0,j,b,c,e,hf16,d,g,k]
  (repeat' apply Ad)<;>first | refine m _ _ _ (LO i) ?_ | refine m _ _ _ (JJ i) ?_ | exact cl
  simp +decide only [go_sem,Nat.reduceAdd,AC hla0,j,b,c,e,hf16,d,g,k]
  have hgt:=Option.some.inj h;subst hgt
  first | refine FV (AK l ev) MZ u.pre ev ⟨?_,rfl⟩ | refine HM (AK l ev) MZ u.pre ev ⟨?_,rfl⟩
  first | rfl | (simp +decide only [go_sem,Nat.reduceAdd,AC hla0,j,b,c,e,hf16,d,g,k];done) | (simp +decide only [go_sem,Nat.reduceAdd,Vl.cs,Ty.cs,AC hla0,j,b,c,e,hf16,d,g,k];done)
def ET (n:Nat)  (b4_k5_43:Stt) (b4_k5_46:List (Int × Msg)) (b4_k5_47:List Rqs) (b4_k5_48:List Fte) (b4_k5_49:List Msg):Option Otc :=
 some (Otc.mk b4_k5_43 b4_k5_46 b4_k5_47 b4_k5_48 b4_k5_49)
def BU (n:Nat) (y:Nod) (a1:Stt) (q:Inp):Option Otc :=
 (GQ n a1).bind fun y3 =>
 if decide (q.kind=1) then
  (CW n y q y3).bind fun h =>
  ET n h.state h.outputs h.requests h.fates h.letters
 else
  if decide (q.kind=3) then
   (Dp n y q y3).bind fun g =>
   ET n g.state g.outputs g.requests g.fates g.letters
  else
   if decide (q.kind=2) then
    (Do n y q y3).bind fun b =>
    ET n b.state b.outputs b.requests b.fates b.letters
   else
    AM
theorem P3 (w0:World) (hE:QU w0) (hM:Qx w0) (hP:Pow10 w0) (hT:Lib.Utf8Tabs 1 2 w0) (n:Nat) (B:Ao) (Rw:Ap) (L:Aq) (a0:Nod) (a1:Stt) (a2:Inp) (r:Otc) (h:BU n a0 a1 a2=some r) :
  ACalls Tryz.prog w0 19 [.agg (PD a0),.agg (Dx a1),.agg (Vw a2)] ⟨B,Rw,L⟩ fun x st=>x = .agg (TE r)/\st=⟨B,Rw,L⟩:=by
 rw [BU] at h
 refine hd [.cell 6 62] Tryz.func19 Tryz.ntmps19 fun M0 W0 J C D p K s hs=>?_
 simp only [Ax]
 refine rg [3,4,5,6] hs ?_
 obtain ⟨H,G,h⟩:=bind_some h
 apply Am;intro K2 v
 refine dk 6 2 1 [5,6,7] hs G6 ?_
 refine Av _ (UV w0 n _ _ _ a1 _ G) (hv hs) ?_
 refine dn hs v ?_
 clear v
 refine AD (fun e st=>∃ (c:Stt) (f:List (Int × Msg)) (b:List Rqs) (a:List Fte) (d:List Msg) (k:AV) (j:AV) (i:AV) (g:AV),Ck e st B Rw L [(6,true,.box (B.length+3) 0),(7,true,.box (B.length+4) 0)] [PD a0,Dx a1,Vw a2,[Ak 0,Ak 0,.list ([]) .full,.list ([]) .full,.list ([]) .full,.list ([]) .full,.list ([]) .full],AY a0 a2 c (k) (j) (i) (g)] [] (k.pub = .list (f.map M8) .none/\j.pub = .list (b.map N5) .none/\i.pub = .list (a.map F3) .none/\g.pub = .list (d.map Dn) .none/\ET n c f b a d=some r)) ?_ ?_
 ·intro K6 q
  refine rg [6,7,16] hs ?_
  apply Ar
  refine rg [6,7,16,17] hs ?_
  refine B6 h hs ?_ ?_<;>intro hs h
  ·obtain ⟨m,u,h⟩:=bind_some h
   refine rk 2 [6,7] hs ?_
   refine BE _ (KZ w0 hE hM hP hT n _ _ _ (B.length+4) a0 a2 H (ef hs) _ u) (hv hs) ?_;rintro _ _ ⟨rfl,rfl⟩
   refine ne hs q ?_
   exact ⟨m.state,m.outputs,m.requests,m.fates,m.letters,_,_,_,_,([]),Rw,ef hs,ef hs,s,ef hs,ef hs,ef hs,ef hs,h⟩
  refine rg [6,7,16,21] hs ?_
  refine B6 h hs ?_ ?_<;>intro hs h
  ·obtain ⟨l,t,h⟩:=bind_some h
   refine rk 2 [6,7] hs ?_
   refine BE _ (L8 w0 hE hM hP hT n _ _ _ (B.length+4) a0 a2 H (ef hs) _ t) (hv hs) ?_;rintro _ _ ⟨rfl,rfl⟩
   refine ne hs q ?_
   exact ⟨l.state,l.outputs,l.requests,l.fates,l.letters,_,_,_,_,([]),Rw,ef hs,ef hs,s,ef hs,ef hs,ef hs,ef hs,h⟩
  refine rg [6,7,25] hs ?_
  refine B6 h hs ?_ ?_<;>intro hs h
  ·obtain ⟨o,w,h⟩:=bind_some h
   refine rk 2 [6,7] hs ?_
   refine BE _ (LV w0 n _ _ _ (B.length+4) a0 a2 H (ef hs) _ w) (hv hs) ?_;rintro _ _ ⟨rfl,rfl⟩
   refine ne hs q ?_
   exact ⟨o.state,o.outputs,o.requests,o.fates,o.letters,_,_,_,_,([]),Rw,ef hs,ef hs,s,ef hs,ef hs,ef hs,ef hs,h⟩
  exact nS h
 ·clear h;rintro e st ⟨c,f,b,a,d,k,j,i,g,Xk5,Rk5,rfl,rfl,s,z,E,y,F,h⟩
  rw [ET] at h
  refine Gx (B.length+4) 46 (by first | rfl | (simp only [Ea,Da,EF,DR];rfl)) Zdf z ?_;simp +decide only [go_sem,Nat.reduceAdd]
  refine Gx (B.length+4) 47 (by first | rfl | (simp only [Ea,Da,EF,DR];rfl)) ZcJ E ?_;simp +decide only [go_sem,Nat.reduceAdd]
  refine Gx (B.length+4) 48 (by first | rfl | (simp only [Ea,Da,EF,DR];rfl)) ZcE y ?_;simp +decide only [go_sem,Nat.reduceAdd]
  refine Gx (B.length+4) 49 (by first | rfl | (simp only [Ea,Da,EF,DR];rfl)) Zdm F ?_;simp +decide only [go_sem,Nat.reduceAdd]
  show D8 _ _ _ _ _ _ _ _ [(6,true,.box (B.length+3) 0),(7,true,.box (B.length+4) 0)] ⟨B++([PD a0,Dx a1,Vw a2,[Ak 0,Ak 0,.list ([]) .full,.list ([]) .full,.list ([]) .full,.list ([]) .full,.list ([]) .full],AY a0 a2 c (.list (f.map M8) .none) (.list (b.map N5) .none) (.list (a.map F3) .none) (.list (d.map Dn) .none)]++Xk5),Rk5,L⟩
  refine td J C D p s ?_
  refine rg [6] hs ?_
  exact rt h hs p s
def Be (p:CP):Nod:=Nod.mk MN 9 0 0 0 p.T p.lim eS (Zbf p.res) [OU Yz p.req,OU nV 9] [] Zch [(MA,Xy)] []
theorem Vf (i:Nat) (l:List Int) (hl:l.length<=5):AW ((i:Int)+1,l)=some ((i:Int)+1,l):=by
 rw [AW,Ah (by simp only;omega)]
theorem SI (m:CM) (w:CR):Jk (B5 m) MN (Tz w)=some (HU (m,w)):=by
 rw [Jk]
 have:AW (B5 m).stamp=some ((m.i:Int)+1,[1]):=Vf m.i [1] (by decide)
 rw [this];rfl
theorem ZdB (n:Nat) (hn:100000<=n) (nd:Nod) (hnd:nd.name=MN) (l:List (CM × CR)) (hl:l.length<=1000) (m:CM) (w:CR) :
  J3 n nd (l.map HU) (l.map fun r=>B5 r.1) (B5 m) (Tz w)=some ((l++[(m,w)]).map HU,(l++[(m,w)]).map fun r=>B5 r.1):=by
 rw [J3,Ah (by simp only [List.length_map];omega),hnd,SI,Ae,Qz n hn _ (KX m),Ae,List.map_append,List.map_append]
 rfl
theorem Zgh (n:Nat) (hn:100000<=n) (nd:Nod) (hnd:nd.name=MN) (m:CM) (w:CR):J3 n nd [] [] (B5 m) (Tz w)=some ([HU (m,w)],[B5 m]):=ZdB n hn nd hnd [] (by simp) m w
theorem QO (i:Nat):BM ((i:Int)+1,[1]) 0=some ((i:Int)+1,[1,0]):=by
 rw [BM,Ah (by simp),Ah (by simp)]
 rfl
theorem Vq (n:Nat) (hn:100000<=n) (s:CS) (hl:s.es.length<=1000):GQ n (Aw s)=some (Aw s):=Z7 n hn _ (NC s hl)
theorem Rb:CN 18=some (Tz .type):=rfl
theorem SX (p:CP):Ce (Be p)=true:=rfl
theorem Zdd (n:Nat) (hn:100000<=n) (p:CP) (hp:p.ok) (s:CS) {now0:Int} {k0:Nat} (hs:s.ok p now0 k0) (hk0:k0<=1000) (m:CM) (now:Int) (hm:m.k<6/\m.v<4) (h0:0<=now) (h1:now<=100000) :
  BU n (Be p) (Aw s) (B9 (.msg m now))=some (Hi (Du p s (.msg m now))):=by
 have C:=hs.len
 have h:=hp.lim
 have j:=hs.num
 have b:((Aw s).slots.length:Int)=(s.es.length:Int):=by simp [Aw]
 have z:CW n (Be p) (B9 (.msg m now)) (Aw s)=some (Hi (Du p s (.msg m now))):=by
  rw [CW,SX]
  simp only [Bool.not_true,Bool.false_eq_true,if_false]
  by_cases c1:p.lim<=s.es.length
  ·have g:(((decide ((Be p).limit<=(((Aw s).slots.length:Int))))||(decide (256<=(((Aw s).slots.length:Int)))))||(decide (1099511627776<=(Aw s).number)))=true:=by
    have:decide ((Be p).limit<=(((Aw s).slots.length:Int)))=true:=Ag (by rw [b];show (p.lim:Int)<=_;omega)
    rw [this];rfl
   rw [Ah g]
   have e:J3 n (Be p) [] [] (B9 (.msg m now)).message (⟨#[102,117,108,108]⟩:ByteArray)=some ([HU (m,.full)],[B5 m]):=Zgh n hn (Be p) rfl m .full
   rw [e,Ae]
   simp only [Du,Ah c1]
   rfl
  ·have g:¬ (((decide ((Be p).limit<=(((Aw s).slots.length:Int))))||(decide (256<=(((Aw s).slots.length:Int)))))||(decide (1099511627776<=(Aw s).number)))=true:=by
    have a1:decide ((Be p).limit<=(((Aw s).slots.length:Int)))=false:=Af (by rw [b];show ¬ (p.lim:Int)<=_;omega)
    have a2:decide ((256:Int)<=(((Aw s).slots.length:Int)))=false:=Af (by rw [b];omega)
    have a3:decide (1099511627776<=(Aw s).number)=false:=Af (by show ¬ 1099511627776<=(s.num:Int);omega)
    rw [a1,a2,a3];decide
   rw [Ai g]
   have o:Dw (Be p).calls 0=some (MA,Xy):=rfl
   have q:Dw (Be p).types 0=some (OU Yz p.req):=rfl
   have u:FQ n (B9 (.msg m now)).message.body=some (Zee m.k m.v):=Zay n (by omega) m.k m.v
   have y:=Zc2 n (by omega) m.k m.v p.req hm.1 hm.2 hp.req
   rw [o,Ae,u,Ae,q,Ae,y,Ae]
   by_cases c2:m.k<=p.req
   ·rw [Ah c2]
    have d:(!(decide ((rV [(Yz,iV m.k)],(0:Int)).2=0)))=false:=rfl
    rw [d,Ai (by decide),Ah (show BN ((Aw s).number+1) from A8 (show s.num<1000000000000 by omega))]
    have a:∀ t:Int,BH n (Be p) (B9 (.msg m now)) (Aw s) (MA,Xy) (rV [(Yz,iV m.k)],0) t=some (Otc.mk (Aw ⟨s.num+1,s.es++[⟨s.num+1,t,m⟩]⟩) [] [Rqs.mk ((m.i:Int)+1,[1,0]) MA ((s.num+1:Nat):Int) false (rV [(Yz,iV m.k)])] [] []):=by
     intro t
     have q1:=Zaw n hn s (by omega) hs.inc ⟨s.num+1,t,m⟩ (fun x w=>by have:=(hs.rng x w).2;simp only;omega)
     have q1:Gt n (Aw s) (Slt.mk (AB ((Aw s).number+1)) 0 t [(B9 (.msg m now)).message] [])=some (Aw ⟨s.num,s.es++[⟨s.num+1,t,m⟩]⟩,0):=q1
     rw [BH,q1,Ae]
     have d:(!(decide ((Aw ⟨s.num,s.es++[⟨s.num+1,t,m⟩]⟩,(0:Int)).2=0)))=false:=rfl
     have l:BM (B9 (.msg m now)).message.stamp 0=some ((m.i:Int)+1,[1,0]):=QO m.i
     rw [d,Ai (by decide),l,Ae]
     rfl
    simp only [Du,Ai c1]
    rw [Ai (show ¬ p.req<m.k by omega)]
    by_cases c3:0<p.T
    ·have f:decide (0<(Be p).time)=true:=Ag c3
     have c:D6 (B9 (.msg m now)).time (Be p).time=some (now+p.T):=by
      have:=hp.T1
      show D6 now p.T=_
      rw [D6,Ah (by unfold BN;omega),Ac,Ai (by decide),Ah (by unfold BN;omega)]
     rw [f,Ah rfl,c,Ae,a,Ah c3]
     rfl
    ·have f:decide (0<(Be p).time)=false:=Af c3
     rw [f,Ai (by decide),a,Ai c3]
     rfl
   ·rw [Ai c2]
    have d:(!(decide ((zV,(18:Int)).2=0)))=true:=rfl
    have e:J3 n (Be p) [] [] (B9 (.msg m now)).message (Tz .type)=some ([HU (m,.type)],[B5 m]):=Zgh n hn (Be p) rfl m .type
    rw [d,Ah rfl,Rb,Ae,e,Ae]
    simp only [Du,Ai c1]
    rw [Ah (show p.req<m.k by omega)]
    rfl
 have r:decide ((B9 (.msg m now)).kind=1)=true:=rfl
 rw [BU,Vq n hn s (by omega),Ae,r,Ah rfl,z]
 rfl
theorem Yr (n:Nat) (hn:100000<=n) (p:CP) (j:Inp) (s:CS) (m:CM) (w:CR):Bc n (B5 m) (Be p) j (Aw s) (Tz w)=some (Hi ⟨s,none,none,[(m,w)]⟩):=by
 rw [Bc,Zgh n hn (Be p) rfl m w]
 rfl
theorem Zak (n:Nat) (hn:100000<=n) (m:Msg) (hm:SY m) (v:Vl) (hv:v.size<=1000):Dh n m v=some (Msg.mk m.stamp m.mass m.origins v):=by
 rw [Dh,Qz n hn m hm,Ae,O0 n v (by omega) (by omega)]
 rfl
theorem ZaS (n:Nat) (hn:100000<=n) (m:Msg) (hm:SY m) (s:Int × List Int) (hs:s.2.length<=1000):Gj n m s=some (Msg.mk s m.mass m.origins m.body):=by
 rw [Gj,Qz n hn m hm,Ae,AW,Ab]
 rfl
def QV (m:CM) (w:Nat):Vl:=rV [(nK,iV m.k),(nV,iV ((m.v:Int)+(w:Int)))]
theorem Pi (m:CM) (w:Nat):(QV m w).size<=1000:=by simp [QV,rV,iV,Vl.size,JS,JZ]
theorem S8 (n:Nat) (hn:100000<=n) (m:CM) (i:Nat):CC n (B5 m) MN [((i:Int)+1,[1,0])]=some (Fte.mk ((m.i:Int)+1,[1]) 1 MN [((i:Int)+1,[1,0])] eS):=by
 obtain ⟨n,rfl⟩:∃ q,n=q+10:=⟨n-10,by omega⟩
 have a:AW (B5 m).stamp=some ((m.i:Int)+1,[1]):=Vf m.i [1] (by decide)
 have b:Hq (n+10) ((m.i:Int)+1,[1]) 1 MN (⟨#[]⟩:ByteArray) [((i:Int)+1,[1,0])]=some (Fte.mk ((m.i:Int)+1,[1]) 1 MN [((i:Int)+1,[1,0])] eS):=rfl
 have c:Le (n+10) (B5 m) MN [((i:Int)+1,[1,0])]=some (Fte.mk ((m.i:Int)+1,[1]) 1 MN [((i:Int)+1,[1,0])] eS):=by
  rw [Le,a,Ae,b]
 rw [CC,c]
 rfl
theorem Zer (n:Nat) (hn:100000<=n) (p:CP) (hp:p.ok) (s:CS) {now0:Int} {k0:Nat} (hs:s.ok p now0 k0) (i:Nat) (now:Int) (c:Nat) (done undo:Bool) (w:Nat) (hw:w<12) :
  BU n (Be p) (Aw s) (B9 (.rep i now c done undo w))=some (Hi (Du p s (.rep i now c done undo w))):=by
 have O:=hs.len
 have y:=hp.lim
 have H:Dp n (Be p) (B9 (.rep i now c done undo w)) (Aw s)=some (Hi (Du p s (.rep i now c done undo w))):=by
  rw [Dp]
  have a:AB (B9 (.rep i now c done undo w)).call=iV c:=rfl
  rw [a]
  cases hf:LC c s.es with
  | none =>
   obtain ⟨x,C⟩:=Zd0 n hn s (by omega) hs.inc c hf
   rw [C,Ae]
   have r:(((B9 (.rep i now c done undo w)).undo || !(x,false).2) || !(decide ((((x,false).1.items.length:Int))=1)))=true:=by simp
   rw [Ah r]
   have:(if undo=true then none else LC c s.es)=none:=by rw [hf];split<;>rfl
   simp only [Du,this]
   rfl
  | some e =>
   rw [Zdl n hn s (by omega) hs.inc c hf,Ae]
   cases hu:undo with
   | true =>
    rw [Ah (by simp [B9])]
    simp only [Du]
    rfl
   | false =>
    have r:¬ (((B9 (.rep i now c done false w)).undo || !(BS e,true).2) || !(decide ((((BS e,true).1.items.length:Int))=1)))=true:=by simp [B9,BS]
    rw [Ai r,SJ n hn s (by omega) hs.inc c hf,Ae]
    have N:Dw (BS e,true).1.items 0=some (B5 e.m):=rfl
    rw [N,Ae]
    have z:=hs.msg e (KG hf).1
    have u:Du p s (.rep i now c done false w)=(if done=false then ⟨⟨s.num,s.es.filter fun x=>x.num != c⟩,none,none,[(e.m,.refused)]⟩ else if 9<w\/p.res<e.m.v+w then ⟨⟨s.num,s.es.filter fun x=>x.num != c⟩,none,none,[(e.m,.type)]⟩ else ⟨⟨s.num,s.es.filter fun x=>x.num != c⟩,some (i,e.m,w),none,[]⟩:CO):=by
     simp only [Du,Bool.false_eq_true,if_false,hf]
    rw [u]
    generalize hS:(⟨s.num,s.es.filter fun x=>x.num != c⟩:CS)=S
    cases hd:done with
    | false =>
     have t:Bc n (B5 e.m) (Be p) (B9 (.rep i now c false false w)) (Aw S,true).1 (⟨#[114,101,102,117,115,101,100]⟩:ByteArray)=some (Hi ⟨S,none,none,[(e.m,.refused)]⟩):=Yr n hn p _ S e.m .refused
     have b:(!(B9 (.rep i now c false false w)).done)=true:=rfl
     rw [b,Ah rfl,t]
     rfl
    | true =>
     have b:(!(B9 (.rep i now c true false w)).done)=false:=rfl
     rw [b,Ai (by decide),SX]
     simp only [Bool.not_true,Bool.false_eq_true,if_false]
     have K:Dw (Be p).types 1=some (OU nV 9):=rfl
     have d:Gz n (OU nV 9) (B9 (.rep i now c true false w)).body=some (decide (w<=9)):=Zij n (by omega) w hw
     rw [K,Ae,d,Ae]
     have t:Bc n (B5 e.m) (Be p) (B9 (.rep i now c true false w)) (Aw S) (⟨#[116,121,112,101]⟩:ByteArray)=some (Hi ⟨S,none,none,[(e.m,.type)]⟩):=Yr n hn p _ S e.m .type
     rw [Ai (show ¬ (true=false) by decide)]
     by_cases c1:w<=9
     ·rw [Ag c1]
      simp only [Bool.not_true,Bool.false_eq_true,if_false]
      have G:FU n [(ZaM,(B5 e.m).body),(ZD,(B9 (.rep i now c true false w)).body)]=some (XZ e.m.k e.m.v w):=ZaF n (by omega) e.m.k e.m.v w
      have E:CG n (Be p) (B9 (.rep i now c true false w)) (Aw S) (B5 e.m)=some (Hi (if 9<w\/p.res<e.m.v+w then ⟨S,none,none,[(e.m,.type)]⟩ else ⟨S,some (i,e.m,w),none,[]⟩)):=by
       have J:BO n (Be p).mapping (XZ e.m.k e.m.v w) (Be p).type=_:=Zdq n (by omega) e.m.k e.m.v w p.res z.2.1 z.2.2 (by omega) hp.res
       have j:FU n [((⟨#[98,111,100,121]⟩:ByteArray),(B5 e.m).body),((⟨#[114,101,112,108,121]⟩:ByteArray),(B9 (.rep i now c true false w)).body)]=some (XZ e.m.k e.m.v w):=G
       rw [CG,j,Ae,J,Ae]
       by_cases c2:e.m.v+w<=p.res
       ·rw [Ah c2,Ai (show ¬ (9<w\/p.res<e.m.v+w) by omega)]
        have q:(!(decide (((rV [(nK,iV e.m.k),(nV,iV ((e.m.v:Int)+(w:Int)))]),(0:Int)).2=0)))=false:=rfl
        have o:BM (B9 (.rep i now c true false w)).stamp 0=some ((i:Int)+1,[1,0]):=QO i
        have l:Dh n (B5 e.m) (QV e.m w)=_:=Zak n hn _ (KX e.m) _ (Pi e.m w)
        have f:=ZaS n hn (Msg.mk (B5 e.m).stamp (B5 e.m).mass (B5 e.m).origins (QV e.m w)) ⟨by simp [B5],by simp [B5],Pi e.m w⟩ ((i:Int)+1,[1,0]) (by simp)
        have g:CC n (B5 e.m) (Be p).name [((i:Int)+1,[1,0])]=_:=S8 n hn e.m i
        rw [q,Ai (by decide),o,Ae]
        show (Dh n (B5 e.m) (QV e.m w)).bind _=_
        rw [l,Ae,f,Ae,g,Ae,Ah (by decide)]
        rfl
       ·rw [Ai c2,Ah (show (9<w\/p.res<e.m.v+w) by omega)]
        have q:(!(decide ((zV,(18:Int)).2=0)))=true:=rfl
        have D:J3 n (Be p) [] [] (B5 e.m) (Tz .type)=some ([HU (e.m,.type)],[B5 e.m]):=Zgh n hn (Be p) rfl e.m .type
        rw [q,Ah rfl,Rb,Ae,D]
        rfl
      rw [E]
      rfl
     ·rw [Af c1]
      simp only [Bool.not_false,if_true]
      rw [t,Ah (show (9<w\/p.res<e.m.v+w) by omega)]
      rfl
 have h:decide ((B9 (.rep i now c done undo w)).kind=1)=false:=rfl
 have F:decide ((B9 (.rep i now c done undo w)).kind=3)=true:=rfl
 rw [BU,Vq n hn s (by omega),Ae,h,Ai (by decide),F,Ah rfl,H]
 rfl
def TY (es:List CE) (R:List CE):List CE:=R.foldl (fun es e=>es.filter fun x=>x.num != e.num) es
theorem PM:∀ (R es:List CE),TY es R=es.filter fun x=>R.all fun r=>x.num != r.num
 | [],es=>by
  have:(es.filter fun x=>([]:List CE).all fun r=>x.num != r.num)=es:=List.filter_eq_self.2 fun _ _=>rfl
  rw [this];rfl
 | r::R,es=>by
  have:TY es (r::R)=TY (es.filter fun x=>x.num != r.num) R:=rfl
  rw [this,PM R,List.filter_filter]
  refine List.filter_congr fun x _=>?_
  rw [List.all_cons,Bool.and_comm]
theorem Zaj {es:List CE} (hi:es.Pairwise fun a b=>a.num<b.num) {a b:CE} (ha:a∈es) (hb:b∈es) (h:a.num=b.num):a=b:=by
 obtain ⟨i,d,rfl⟩:=List.mem_iff_getElem.1 ha
 obtain ⟨j,e,rfl⟩:=List.mem_iff_getElem.1 hb
 rcases Nat.lt_trichotomy i j with c | c | c
 ·have:=(List.pairwise_iff_getElem.1 hi) i j d e c;omega
 ·subst c;rfl
 ·have:=(List.pairwise_iff_getElem.1 hi) j i e d c;omega
theorem Z2 {es:List CE} (hi:es.Pairwise fun a b=>a.num<b.num) (now:Int):TY es (es.filter (Hn now))=es.filter fun e => !Hn now e:=by
 rw [PM]
 refine List.filter_congr fun x d=>?_
 cases hd:Hn now x with
 | true =>
  refine Bool.eq_false_iff.2 fun h=>?_
  have:=List.all_eq_true.1 h x (List.mem_filter.2 ⟨d,hd⟩)
  simp at this
 | false =>
  refine List.all_eq_true.2 fun r f=>?_
  obtain ⟨c,hr2⟩:=List.mem_filter.1 f
  refine bne_iff_ne.2 fun e=>?_
  have:=Zaj hi d c e
  subst this
  rw [hd] at hr2;cases hr2
theorem Zdu {es:List CE} (hi:es.Pairwise fun a b=>a.num<b.num) {e:CE} (he:e∈es):LC e.num es=some e:=by
 cases hf:LC e.num es with
 | none =>
  have:=List.find?_eq_none.1 hf e he
  simp at this
 | some x =>
  obtain ⟨c,d⟩:=KG hf
  rw [Zaj hi c he d]
theorem Zhe (n:Nat) (hn:100000<=n) (again:Int->Stt->List Fte->List Msg->Option Otc) (nd:Nod) (hnd:nd.name=MN) (i:Int) (e:CE) (y:Stt × Bool) (m:Nat) (l:List (CM × CR)) (hl:l.length<=900) :
  BA n again nd i (BS e) y (m+2) 0 (l.map HU) (l.map fun r=>B5 r.1)=Db n again i y.1 ((l++[(e.m,CR.timeout)]).map HU) ((l++[(e.m,CR.timeout)]).map fun r=>B5 r.1):=by
 have a:J3 n nd (l.map HU) (l.map fun r=>B5 r.1) (B5 e.m) (⟨#[116,105,109,101,111,117,116]⟩:ByteArray)=_:=ZdB n hn nd hnd l (by omega) e.m .timeout
 have b:Dw (BS e).items 0=some (B5 e.m):=rfl
 rw [BA,Ag (show (0:Int)<((BS e).items.length:Int) from Int.zero_lt_one),Ah rfl,b,Ae,a,Ae,Ah (by unfold BN;omega),BA,Af (show ¬ ((0:Int)+1<((BS e).items.length:Int)) from Int.lt_irrefl 1)]
 rfl
theorem ZcF (n:Nat) (hn:100000<=n) (nd:Nod) (hnd:nd.name=MN) (D:List CE) (hD:D.length<=19) (num:Nat):∀ (R:List CE) (m i:Nat) (es:List CE) (l:List (CM × CR)),D.drop i=R->i<=D.length->l.length=i->R.length<m->es.length<=900 ->
  es.Pairwise (fun a b=>a.num<b.num)->(∀ r∈R,r∈es)->R.Pairwise (fun a b=>a.num<b.num) ->
  A2 n nd (D.map BS) m (i:Int) (Aw ⟨num,es⟩) (l.map HU) (l.map fun r=>B5 r.1)=some (Hi ⟨⟨num,TY es R⟩,none,none,l++R.map fun e=>(e.m,.timeout)⟩)
 | R,0,_,_,_,_,_,_,hm,_,_,_,_=>absurd hm (Nat.not_lt_zero _)
 | [],m+1,i,es,l,hd,hi,hl,hm,_,_,_,_=>by
  have:i=D.length:=by have:=List.drop_eq_nil_iff.1 hd;omega
  rw [A2,List.length_map,A4,Ac,Ai (by decide)]
  rw [List.map_nil,List.append_nil]
  unfold Hi
  simp only [Option.toList_none,List.map_nil,List.append_nil]
  rfl
 | r::R,m+1,i,es,l,hd,hi,hl,hm,hes,hinc,hin,hR=>by
  have c:i<D.length:=by
   rcases Nat.lt_or_ge i D.length with h | h
   ·exact h
   ·rw [List.drop_eq_nil_of_le h] at hd;cases hd
  have p:D[i]=r:=by
   rw [List.drop_eq_getElem_cons c] at hd;exact (List.cons.inj hd).1
  have j:D.drop (i+1)=R:=by
   rw [List.drop_eq_getElem_cons c] at hd;exact (List.cons.inj hd).2
  obtain ⟨n',hn'⟩:∃ q,n=q+2:=⟨n-2,by omega⟩
  have k:=hin r (List.mem_cons_self ..)
  have f:=SJ n hn ⟨num,es⟩ (by simp only;omega) hinc r.num (Zdu hinc k)
  have d:(BS r).key=iV r.num:=rfl
  rw [A2,List.length_map,A4,Ag c,Ah rfl,Bj (by rw [List.length_map];exact c),Ae,List.getElem_map,p,d,f,Ae]
  have g:=Zhe n hn (A2 n nd (D.map BS) m) nd hnd (i:Int) r (Aw ⟨num,es.filter fun x=>x.num != r.num⟩,true) n' l (by omega)
  rw [<-hn'] at g
  rw [g,Db,Ah (A8 (by omega))]
  have ih:=ZcF n hn nd hnd D hD num R m (i+1) (es.filter fun x=>x.num != r.num) (l++[(r.m,.timeout)]) j c (by rw [List.length_append,hl];rfl) (by simpa using hm) (Nat.le_trans (List.length_filter_le _ _) hes) (hinc.sublist List.filter_sublist)
   (fun x o=>List.mem_filter.2 ⟨hin x (List.mem_cons_of_mem _ o),bne_iff_ne.2 fun e=>by have:=(List.pairwise_cons.1 hR).1 x o;omega⟩) (List.pairwise_cons.1 hR).2
  rw [show ((i:Int)+1)=((i+1:Nat):Int) from rfl]
  refine ih.trans ?_
  rw [List.append_assoc]
  rfl
theorem Zdy (n:Nat) (hn:100000<=n) (p:CP) (hp:p.ok) (s:CS) {now0:Int} {k0:Nat} (hs:s.ok p now0 k0) (i:Nat) (now:Int) :
    BU n (Be p) (Aw s) (B9 (.clk i now))=some (Hi (Du p s (.clk i now))):=by
  have j:=hs.len
  have d:=hp.lim
  have e:Do n (Be p) (B9 (.clk i now)) (Aw s)=some (Hi (Du p s (.clk i now))):=by
    have h:GN n (Aw s) (B9 (.clk i now)).time=some ((s.es.filter (Hn now)).map BS):=ZI n hn s (by omega) hs.ord now
    rw [Do,h,Ae]
    have f:=List.length_filter_le (Hn now) s.es
    have:=ZcF n hn (Be p) rfl (s.es.filter (Hn now)) (by omega) s.num (s.es.filter (Hn now)) n 0 s.es [] rfl (Nat.zero_le _) rfl (by omega) (by omega) hs.inc (fun r g=>(List.mem_filter.1 g).1) (hs.inc.sublist List.filter_sublist)
    rw [Z2 hs.inc now] at this
    exact this
  have c:decide ((B9 (.clk i now)).kind=1)=false:=rfl
  have a:decide ((B9 (.clk i now)).kind=3)=false:=rfl
  rw [BU,Vq n hn s (by omega),Ae,c,Ai (by decide),a,Ai (by decide)]
  first
  | rw [e];rfl
  | (have b:decide ((B9 (.clk i now)).kind=2)=true:=rfl
     rw [b,Ah rfl,e];rfl)
def CI.fit:CI->Prop
 | .msg m now=>(m.k<6/\m.v<4)/\0<=now/\now<=100000
 | .rep _ now c _ _ w=>w<12/\0<=now/\now<=100000
 | .clk _ now=>0<=now/\now<=100000
theorem Zhk (n:Nat) (hn:100000<=n) (p:CP) (hp:p.ok) (s:CS) {now0:Int} {k0:Nat} (hs:s.ok p now0 k0) (hk0:k0<=1000) (j:CI) (hj:j.fit) :
  BU n (Be p) (Aw s) (B9 j)=some (Hi (Du p s j)):=by
 cases j with
 | msg m now=>exact Zdd n hn p hp s hs hk0 m now hj.1 hj.2.1 hj.2.2
 | rep i now c d u w=>exact Zer n hn p hp s hs i now c d u w hj.1
 | clk i now=>exact Zdy n hn p hp s hs i now
def Nl (n:Nat)  (b:List Otc) (b1_k5:Stt):Option ((List Otc)) :=
 some (b)
def Ia (n:Nat) (a0:Nod) (y:List Inp):Nat->(List Otc)->Int->Stt->Option ((List Otc))
 | 0,_,_,_=>none
 | m+1,g,b,b1_l8 =>
  if decide (b<(y.length:Int)) then
   (Dw y b).bind fun q =>
   (BU n a0 b1_l8 q).bind fun h =>
   if (g.length+1)*136<=140737488355328/\g.length+1<=4611686018427387904 then
    if BN (b+1) then
     (Ia n a0 y m) (g++([h])) (b+1) h.state
    else none
   else none
  else
   Nl n g b1_l8
def MQ (n:Nat) (b:Nod) (g:List Inp):Option ((List Otc)) :=
 Ia n b g n ([]) 0 (Stt.mk 0 0 ([]))
theorem U9 (w0:World) (hE:QU w0) (hM:Qx w0) (hP:Pow10 w0) (hT:Lib.Utf8Tabs 1 2 w0) (n:Nat) (B:Ao) (Rw:Ap) (L:Aq) (a0:Nod) (a1:List Inp) (r:(List Otc)) (h:MQ n a0 a1=some r) :
  ACalls Tryz.prog w0 12 [.agg (PD a0),.list (a1.map NA) .none] ⟨B,Rw,L⟩ fun x st=>x = .list (r.map NJ) .none/\st=⟨B,Rw,L⟩:=by
 rw [MQ] at h
 refine hd [.tmp 4] Tryz.func12 Tryz.ntmps12 fun M0 W0 V G H t hu u hs=>?_
 simp only [Ax]
 refine rg [1,2] hs ?_
 refine rg [1,2,5] hs ?_
 refine rg [1,2,5,6] hs ?_
 refine AD (fun e st=>∃ (j:List Otc) (p:Stt) (i:Ev.Own) (o:List AV),Ck e st B Rw L [(5,true,.list (j.map NJ) i)] [PD a0,o] [(7,j.length,i)] (o.map AV.pubCell=Dx p/\Nl n j p=some r)) ?_ ?_
 ·intro K6 Q
  refine rg [1,2,5,6,7] hs ?_
  apply Ar
  refine AA (fun m e st=>∃ (b:List Otc) (k:Int) (c:Stt) (d:Ev.Own) (l:List AV),Ck e st B Rw L [(1,true,.list (a1.map NA) .none),(2,true,.box B.length 0),(5,true,.list (b.map NJ) d),(6,true,.box (B.length+1) 0),(7,true,Ak k)] [PD a0,l] [(7,b.length,d)] (l.map AV.pubCell=Dx c/\Ia n a0 a1 m b k c=some r)) n ⟨([]),0,(Stt.mk 0 0 ([])),.full,_,([]),Rw,ef hs,ef hs,Owns.of_eq ((u).full 7 0) Fh,ef hs,h⟩ ?_
  rintro ml8 e st ⟨b,k,c,d,l,Xl8,Rl8,rfl,rfl,u,D,h⟩ Ul8 Vl8
  cases ml8 with
  | zero=>cases h
  | succ ml8 =>
  rw [Ia] at h
  refine GR (B.length+1) (by first | rfl | (simp only [Ea,Da,EF,DR];rfl)) D ?_;simp +decide only [go_sem,Nat.reduceAdd]
  show D8 _ _ _ _ _ _ _ _ [(1,true,.list (a1.map NA) .none),(2,true,.box B.length 0),(5,true,.list (b.map NJ) d),(6,true,.box (B.length+1) 0),(7,true,Ak k)] ⟨B++([PD a0,Dx c]++Xl8),Rl8,L⟩
  have Z:=u.unders
  simp only [List.mem_cons,List.not_mem_nil,or_false,forall_eq_or_imp,forall_eq] at Z
  refine td V G H t u ?_
  apply Am;intro K9 F
  refine rg [1,2,5,6,7,12] hs ?_
  refine B6 h hs ?_ ?_<;>intro hs h
  rotate_left
  ·have q:=hs.1
   refine sx [5] hs Q ?_
   exact ⟨b,c,d,_,([]),Rl8,ef hs,ef hs,Owns.of_eq (u) Fh,ef hs,h⟩
  have q:=hs.1
  refine sk [1,2,5,6,7] hs F ?_
  clear F
  apply Am;intro K12 z
  apply Ar
  apply Am;intro K13 w
  obtain ⟨N,O,U,f,h⟩:=ix NA h
  obtain ⟨E,J,h⟩:=bind_some h
  apply D9 G6 [7,8] [1,2,5,6,7,8] kr (fun s=>∃ (X:Ao) (rows:Ap),s=⟨B++([PD a0,Dx c]++X),rows,L⟩) 3 (B.length+2)
  ·simp +decide only [go_sem,Nat.reduceAdd]
  ·rintro s ⟨X,rows,rfl⟩
   refine ⟨2,?_⟩
   rw [An];simp +decide only [go_sem,Nat.reduceAdd,Bh,q,f]
   have hs:=Ad f hs
   (repeat' apply Ad)<;>first | refine Av _ (P3 w0 hE hM hP hT n _ _ _ a0 c N _ J) (hv hs) ?_ | exact cl
   rw [An];simp +decide only [go_sem,Nat.reduceAdd,q,f]
   (repeat' apply Ad)<;>first | rfl | exact cl
  ·exact gd (tg (a:=(7,8,[1,2,5,6,7,8]))) (Ad f hs)
  simp +decide only [go_sem,Nat.reduceAdd,q,f]
  (repeat' apply Ad)<;>first | refine w _ _ ?_ | exact cl
  clear w
  obtain ⟨C,h⟩:=Au h
  obtain ⟨K,v,u,g⟩:=u.append (P:=Tryz.prog) ZjC (by rw [ZcI];rfl) (by decide) 1 C.1 C.2
  replace g:=fun (ys:List AV) B L o2=>g (b.map NJ) ys B L o2 Fh
  replace g:=fun (y:AV) B L o2=>g [y] B L o2 Fh (by simp +decide only [go_sem,Nat.reduceAdd])
  try simp only [List.mem_singleton,List.mem_cons,List.not_mem_nil,or_false,forall_eq_or_imp,forall_eq,List.map_append,List.map_cons,List.map_nil,Fe,E6,E9,E8,Fb,EP,D2,D4,E3,CJ,CL,D1,DX,DZ,Fa,DW,E5] at g
  have hs:=Ad f hs
  have hs:=Ad g hs
  refine rg [1,2,5,6,7,8] hs ?_
  refine rl [1,2,5,6,7] hs z ?_
  clear z
  obtain ⟨Y,h⟩:=Au h
  refine rl [1,2,5,6,7] hs (fun e s=>Vl8 ml8 e s (Nat.lt_succ_self _)) ?_
  exact ⟨(b++([E])),(k+1),E.state,K,_,([TE E]),v,ef hs,ef hs,Owns.of_eq (u) Fh,ef hs,h⟩
 ·clear h;rintro e st ⟨j,p,i,o,Xk5,Rk5,rfl,rfl,u,D,h⟩
  rw [Nl] at h
  refine GR (B.length+1) (by first | rfl | (simp only [Ea,Da,EF,DR];rfl)) D ?_;simp +decide only [go_sem,Nat.reduceAdd]
  show D8 _ _ _ _ _ _ _ _ [(5,true,.list (j.map NJ) i)] ⟨B++([PD a0,Dx p]++Xk5),Rk5,L⟩
  exact go (tg (a:=([4],()))) h hs V G H t u trivial trivial
def Eg (n:Nat) (h:(List Inp)->Int->Int->Option ((List Inp))) (q:Int) (g:Int) (y:Int × Int × Int × Int) (b:List Inp) (b2_k22_0:Int) (b2_k22_3:List Int) (b2_k22_4:Int) (b2_k22_5:List Int) (b2_k22_6:Int) (b2_k22_7:List Int) (b2_k22_8:Int) (b2_k22_13:List (ByteArray × Vl)) (b2_k22_14:Int) (b2_k22_15:Bool) (b2_k22_16:Bool) (b2_k22_17:Int) (b2_k22_22:List (ByteArray × Vl)):Option ((List Inp)) :=
 if (b.length+1)*304<=140737488355328/\b.length+1<=4611686018427387904 then
  if BN (g+1) then
   h (b++([Inp.mk b2_k22_0 (q+(y.2.2.2.tmod 8)) ((g+1,b2_k22_3)) (Msg.mk ((b2_k22_4,b2_k22_5)) b2_k22_6 b2_k22_7 (Vl.mk b2_k22_8 0 0 (⟨#[]⟩:ByteArray) ([]) b2_k22_13)) b2_k22_14 b2_k22_15 b2_k22_16 (Vl.mk b2_k22_17 0 0 (⟨#[]⟩:ByteArray) ([]) b2_k22_22)])) (q+(y.2.2.2.tmod 8)) (g+1)
  else none
 else none
def HY (n:Nat)  (b:List Inp):Option ((List Inp)) :=
 some (b)
def DN (n:Nat) (h:(List Inp)->Int->Int->Option ((List Inp))) (y:Int) (b:Int) (g:Int × Int × Int × Int) (q:List Inp) (x63_k26:Bool):Option ((List Inp)) :=
 if x63_k26 then
  if BN (g.2.1.tmod 16) then
   if 0<=g.2.2.1.tdiv 4/\g.2.2.1.tdiv 4<=255 then
    if BN (g.2.2.1.tmod 12) then
     Eg n h y b g q 3 ([1]) 0 ([]) 0 ([]) 0 ([]) (g.2.1.tmod 16) (decide (((g.2.2.1.tdiv 4).tmod 8)=7)) (decide (0<(g.2.2.1.tmod 4))) 9 ([((⟨#[118]⟩:ByteArray),(AB (g.2.2.1.tmod 12)))])
    else none
   else none
  else none
 else
  if decide ((g.1.tmod 8)=7) then
   if BN (b+1) then
    Eg n h y b g q 2 ([0,3]) 0 ([]) 0 ([]) 0 ([]) 0 false false 0 ([])
   else none
  else
   if BN (g.2.1.tmod 6) then
    if BN (g.2.2.1.tmod 4) then
     if BN (100+b) then
      if BN (b+1) then
       Eg n h y b g q 1 ([1]) (b+1) ([1]) (100+b) ([b+1]) 9 ([((⟨#[107]⟩:ByteArray),(AB (g.2.1.tmod 6))),((⟨#[110]⟩:ByteArray),(AB (g.2.2.1.tmod 4)))]) 0 false false 0 ([])
      else none
     else none
    else none
   else none
def BV (n:Nat) (y:List (Int × Int × Int × Int)):Nat->(List Inp)->Int->Int->Option ((List Inp))
 | 0,_,_,_=>none
 | m+1,g,h,b =>
  if (decide (b<(y.length:Int)))&&(decide (b<40)) then
   (Dw y b).bind fun q =>
   if BN (q.2.2.2.tmod 8) then
    if BN (h+(q.2.2.2.tmod 8)) then
     if BN (b+1) then
      if decide ((q.1.tmod 8)=4) then
       DN n (BV n y m) h b q g true
      else
       if decide ((q.1.tmod 8)=5) then
        DN n (BV n y m) h b q g true
       else
        DN n (BV n y m) h b q g (decide ((q.1.tmod 8)=6))
     else none
    else none
   else none
  else
   HY n g
def IP (n:Nat) (b:List (Int × Int × Int × Int)):Option ((List Inp)) :=
 BV n b n ([]) 0 0
theorem PO (w0:World) (n:Nat) (B:Ao) (Rw:Ap) (L:Aq) (a0:List (Int × Int × Int × Int)) (r:(List Inp)) (h:IP n a0=some r) :
  ACalls Tryz.prog w0 11 [.list (a0.map QH) .none] ⟨B,Rw,L⟩ fun x st=>x = .list (r.map NA) .none/\st=⟨B,Rw,L⟩:=by
 rw [IP] at h
 refine hd [.tmp 2] Tryz.func11 Tryz.ntmps11 fun M0 W0 hN ah ai V hu hO hs=>?_
 simp only [Ax]
 have hs:=Ad alp hs
 have hs:=Ad mpn hs
 refine rg [0] (cm hs) ?_
 refine rg [0,3] (cm hs) ?_
 refine rg [0,3,4] (cm hs) ?_
 refine AD (fun e st=>∃ (ad:List Inp) (ae:Ev.Own),Ck e st B Rw L [(3,true,.list (ad.map NA) ae)] [] [(23,ad.length,ae)] (HY n ad=some r)) ?_ ?_
 ·intro K6 az
  refine rg [0,3,4,5] (cm hs) ?_
  apply Ar
  refine AA (fun m e st=>∃ (aa:List Inp) (k:Int) (c:Int) (Q:Ev.Own),Ck e st B Rw L [(0,true,.list (a0.map QH) .none),(3,true,.list (aa.map NA) Q),(4,true,Ak k),(5,true,Ak c)] [] [(23,aa.length,Q)] (BV n a0 m aa k c=some r)) n ⟨([]),0,0,.full,([]),Rw,ef (cm hs),ef (cm hs),Owns.of_eq ((hO).full 23 0) Fh,h⟩ ?_
  rintro ml8 e st ⟨aa,k,c,Q,Xl8,Rl8,rfl,rfl,hO,h⟩ Ul8 Vl8
  cases ml8 with
  | zero=>cases h
  | succ ml8 =>
  rw [BV] at h
  have hU:=hO.unders
  simp only [List.mem_cons,List.not_mem_nil,or_false,forall_eq_or_imp,forall_eq] at hU
  refine td hN ah ai V hO ?_
  apply Am;intro K9 av
  refine rg [0,3,4,5,17] (cm hs) ?_
  refine B6 h (cm hs) (fun hs h=>?_) (fun hs h=>?_)
  rotate_left
  ·have ab:=hs.1
   refine sx [3] hs az ?_
   exact ⟨aa,Q,([]),Rl8,ef (cm hs),ef (cm hs),Owns.of_eq (hO) Fh,h⟩
  have ab:=hs.1
  refine sk [0,3,4,5] hs av ?_
  clear av
  apply Am;intro K12 ak
  apply Ar
  obtain ⟨b,ar,h⟩:=bind_some h
  obtain ⟨ay,ax,aq⟩:=Bo ar
  have J:=Bz (f:=QH) aq
  have hs:=Ad J hs
  refine rg [0,3,4,5,6] (cm hs) ?_
  obtain ⟨a6,h⟩:=Au h
  obtain ⟨a3,h⟩:=Au h
  refine rg [0,3,4,5,6] (cm hs) ?_
  obtain ⟨ba,h⟩:=Au h
  refine rg [0,3,4,5,6,7] (cm hs) ?_
  refine rg [0,3,4,5,6,7,8] (cm hs) ?_
  refine AD (fun e st=>∃ (N:List Inp) (G:Int) (l:List Int) (E:Int) (j:List Int) (H:Int) (i:List Int) (D:Int) (g:List (ByteArray × Vl)) (z:Int) (C:Bool) (u:Bool) (w:Int) (d:List (ByteArray × Vl)) (Z:Ev.Own) (t:Ev.Own) (q:Ev.Own) (v:Ev.Own) (p:Ev.Own) (o:Ev.Own),Ck e st B Rw L [(0,true,.list (a0.map QH) .none),(3,true,.list (N.map NA) Z),(4,true,Ak (k+(b.2.2.2.tmod 8))),(5,true,Ak c),(8,true,.box (B.length+2) 0)] [.val (.int .u8 b.1)::(.val (.int .u8 b.2.1)::(.val (.int .u8 b.2.2.1)::([.val (.int .u8 b.2.2.2)]))),[Ak (c+1),.list (([1]).map Ci) .full],[Ak G,Ak (k+(b.2.2.2.tmod 8)),Ak (c+1),.list (l.map Ci) t,Ak E,.list (j.map Ci) q,Ak H,.list (i.map Ci) v,Ak D,Ak 0,Ak 0,.val (.string (⟨#[]⟩:ByteArray)),.list ([]) .full,.list (g.map Di) p,Ak z,.val (.bool C),.val (.bool u),Ak w,Ak 0,Ak 0,.val (.string (⟨#[]⟩:ByteArray)),.list ([]) .full,.list (d.map Di) o]] [(23,N.length,Z),(1,l.length,t),(1,j.length,q),(1,i.length,v),(7,g.length,p),(7,d.length,o)] (Eg n (BV n a0 ml8) k c b N G l E j H i D g z C u w d=some r)) ?_ ?_
  ·intro K23 ag
   refine rg [0,3,4,5,6,7,8,39] (cm hs) ?_
   apply Ar
   refine AD (fun e st=>∃ (K:List Inp) (Y:Bool) (F:Ev.Own),Ck e st B Rw L [(0,true,.list (a0.map QH) .none),(3,true,.list (K.map NA) F),(4,true,Ak (k+(b.2.2.2.tmod 8))),(5,true,Ak c),(6,true,.box B.length 0),(7,true,.box (B.length+1) 0),(8,true,.box (B.length+2) 0),(39,true,.val (.int .u8 (b.1.tmod 8))),(63,true,.val (.bool Y))] [.val (.int .u8 b.1)::(.val (.int .u8 b.2.1)::(.val (.int .u8 b.2.2.1)::([.val (.int .u8 b.2.2.2)]))),[Ak (c+1),.list (([1]).map Ci) .full],[Ak 1,Ak (k+(b.2.2.2.tmod 8)),Ak (c+1),.list (([1]).map Ci) .full,Ak 0,.list ([]) .full,Ak 0,.list ([]) .full,Ak 0,Ak 0,Ak 0,.val (.string (⟨#[]⟩:ByteArray)),.list ([]) .full,.list ([]) .full,Ak 0,.val (.bool false),.val (.bool false),Ak 0,Ak 0,Ak 0,.val (.string (⟨#[]⟩:ByteArray)),.list ([]) .full,.list ([]) .full]] [(23,K.length,F)] (DN n (BV n a0 ml8) k c b K Y=some r)) ?_ ?_
   ·intro K27 au
    exact go (tg (a:=([0,3,4,5,6,7,8,39,63],([0,3,4,5,6,7,8,39,63],()),[0,3,4,5,6,7,8,39,63],([0,3,4,5,6,7,8,39,63],()),[0,3,4,5,6,7,8,39,63],()))) h (cm hs) hN ah ai V hO trivial (q1 au)
   ·clear h;rintro e st ⟨K,Y,F,Xk26,Rk26,rfl,rfl,hO,h⟩
    rw [DN] at h
    have hU:=hO.unders
    simp only [List.mem_cons,List.not_mem_nil,or_false,forall_eq_or_imp,forall_eq] at hU
    refine td hN ah ai V hO ?_
    refine B6 h (cm hs) (fun hs h=>?_) (fun hs h=>?_)
    ·have U:=hs.1
     apply Am;intro K33 ap
     obtain ⟨a8,h⟩:=Au h
     obtain ⟨bb,h⟩:=Au h
     apply D9 G6 [14,16,18,20] [0,3,4,5,6,8] kr (fun s=>∃ (X:Ao) (rows:Ap) (c2:List AV),s=⟨B++([.val (.int .u8 b.1)::(.val (.int .u8 b.2.1)::(.val (.int .u8 b.2.2.1)::([.val (.int .u8 b.2.2.2)]))),[Ak (c+1),.list (([1]).map Ci) .full],c2]++X),rows,L⟩) 5 (B.length+3)
     ·simp +decide only [go_sem,Nat.reduceAdd]
     ·rintro s ⟨X,rows,c2,rfl⟩
      refine ⟨1,?_⟩
      rw [An];simp +decide only [go_sem,Nat.reduceAdd,Bh,Vl.cs_mks,Ty.cs_mks,alp,mpn,ab,J,U]
      (repeat' apply Ad)<;>first | rfl | exact cl
     ·exact gd (tg (a:=(14,16,18,20,[0,3,4,5,6,8]))) (Ad J (Ad mpn (Ad alp (Ad Ty.cs_mks (Ad Vl.cs_mks hs)))))
     simp +decide only [go_sem,Nat.reduceAdd,Vl.cs_mks,Ty.cs_mks,alp,mpn,ab,J,U]
     (repeat' apply Ad)<;>first | refine ap _ _ ?_ | exact cl
     clear ap
     obtain ⟨a7,h⟩:=Au h
     have hs:=Ad (Vl.cs_eqs (AB (b.2.2.1.tmod 12))) hs
     refine rk 2 [0,3,4,5,8] (cm hs) ?_
     refine Av _ (Im w0 _ _ _ (b.2.2.1.tmod 12)) (hv (cm hs)) ?_
     refine ne (cm hs) ag ?_
     exact ⟨K,3,([1]),0,([]),0,([]),0,([]),(b.2.1.tmod 16),(decide (((b.2.2.1.tdiv 4).tmod 8)=7)),(decide (0<(b.2.2.1.tmod 4))),9,([((⟨#[118]⟩:ByteArray),(AB (b.2.2.1.tmod 12)))]),F,.full,.full,.full,.full,.full,([]),Rk26,ef (cm hs),ef (cm hs),Owns.of_eq (((((((hO).full 7 1).full 7 0).full 1 0).full 1 0).full 1 (([1]).length)).swap ((List.Perm.cons _ ((List.Perm.cons _ ((List.Perm.cons _ ((List.Perm.cons _ (List.Perm.swap _ _ _)).trans (List.Perm.swap _ _ _))).trans (List.Perm.swap _ _ _))).trans (List.Perm.swap _ _ _))).trans (List.Perm.swap _ _ _))) Fh,h⟩
    have U:=hs.1
    refine rg [0,3,4,5,6,7,8,93] (cm hs) ?_
    refine B6 h (cm hs) (fun hs h=>?_) (fun hs h=>?_)
    ·have af:=hs.1
     obtain ⟨a5,h⟩:=Au h
     refine rl [0,3,4,5,8] (cm hs) ag ?_
     exact ⟨K,2,([0,3]),0,([]),0,([]),0,([]),0,false,false,0,([]),F,.full,.full,.full,.full,.full,([]),Rk26,ef (cm hs),ef (cm hs),Owns.of_eq (((((((hO).full 7 0).full 7 0).full 1 0).full 1 0).full 1 (([0,3]).length)).swap ((List.Perm.cons _ ((List.Perm.cons _ ((List.Perm.cons _ ((List.Perm.cons _ (List.Perm.swap _ _ _)).trans (List.Perm.swap _ _ _))).trans (List.Perm.swap _ _ _))).trans (List.Perm.swap _ _ _))).trans (List.Perm.swap _ _ _))) Fh,h⟩
    have af:=hs.1
    apply Am;intro K40 ao
    obtain ⟨a4,h⟩:=Au h
    obtain ⟨bc,h⟩:=Au h
    apply D9 G6 [14,15] [0,3,4,5,7,8,9] kr (fun s=>∃ (X:Ao) (rows:Ap),s=⟨B++([.val (.int .u8 b.1)::(.val (.int .u8 b.2.1)::(.val (.int .u8 b.2.2.1)::([.val (.int .u8 b.2.2.2)]))),[Ak (c+1),.list (([1]).map Ci) .full],[Ak 1,Ak (k+(b.2.2.2.tmod 8)),Ak (c+1),.list (([1]).map Ci) .full,Ak 0,.list ([]) .full,Ak 0,.list ([]) .full,Ak 0,Ak 0,Ak 0,.val (.string (⟨#[]⟩:ByteArray)),.list ([]) .full,.list ([]) .full,Ak 0,.val (.bool false),.val (.bool false),Ak 0,Ak 0,Ak 0,.val (.string (⟨#[]⟩:ByteArray)),.list ([]) .full,.list ([]) .full]]++X),rows,L⟩) 3 (B.length+3)
    ·simp +decide only [go_sem,Nat.reduceAdd]
    ·rintro s ⟨X,rows,rfl⟩
     refine ⟨3,?_⟩
     rw [An];simp +decide only [go_sem,Nat.reduceAdd,Bh,Vl.cs_mks,Ty.cs_mks,alp,mpn,ab,J,U,af,Vl.cs_eqs (AB (b.2.1.tmod 6)),Vl.cs_eqs (AB (b.2.2.1.tmod 4))]
     have hs:=Ad (Vl.cs_eqs (AB (b.2.1.tmod 6))) hs
     have hs:=Ad (Vl.cs_eqs (AB (b.2.2.1.tmod 4))) hs
     (repeat' apply Ad)<;>first | refine Av _ (Im w0 _ _ _ (b.2.1.tmod 6)) (hv (cm hs)) ?_ | exact cl
     rw [An];simp +decide only [go_sem,Nat.reduceAdd,Vl.cs_mks,Ty.cs_mks,alp,mpn,ab,J,U,af,Vl.cs_eqs (AB (b.2.1.tmod 6)),Vl.cs_eqs (AB (b.2.2.1.tmod 4))]
     (repeat' apply Ad)<;>first | refine Av _ (Im w0 _ _ _ (b.2.2.1.tmod 4)) (hv (cm hs)) ?_ | exact cl
     rw [An];simp +decide only [go_sem,Nat.reduceAdd,Vl.cs_mks,Ty.cs_mks,alp,mpn,ab,J,U,af,Vl.cs_eqs (AB (b.2.1.tmod 6)),Vl.cs_eqs (AB (b.2.2.1.tmod 4))]
     (repeat' apply Ad)<;>first | rfl | exact cl
    ·exact gd (tg (a:=(14,15,[0,3,4,5,7,8,9]))) (Ad (Vl.cs_eqs (AB (b.2.2.1.tmod 4))) (Ad (Vl.cs_eqs (AB (b.2.1.tmod 6))) (Ad J (Ad mpn (Ad alp (Ad Ty.cs_mks (Ad Vl.cs_mks hs)))))))
    simp +decide only [go_sem,Nat.reduceAdd,Vl.cs_mks,Ty.cs_mks,alp,mpn,ab,J,U,af,Vl.cs_eqs (AB (b.2.1.tmod 6)),Vl.cs_eqs (AB (b.2.2.1.tmod 4))]
    (repeat' apply Ad)<;>first | refine ao _ _ ?_ | exact cl
    clear ao
    obtain ⟨a2,h⟩:=Au h
    obtain ⟨a9,h⟩:=Au h
    have hs:=Ad (Vl.cs_eqs (AB (b.2.1.tmod 6))) hs
    have hs:=Ad (Vl.cs_eqs (AB (b.2.2.1.tmod 4))) hs
    refine rl [0,3,4,5,8] (cm hs) ag ?_
    exact ⟨K,1,([1]),(c+1),([1]),(100+c),([c+1]),9,([((⟨#[107]⟩:ByteArray),(AB (b.2.1.tmod 6))),((⟨#[110]⟩:ByteArray),(AB (b.2.2.1.tmod 4)))]),0,false,false,0,([]),F,.full,.full,.full,.full,.full,([[Ak 9,Ak 0,Ak 0,.val (.string (⟨#[]⟩:ByteArray)),.list ([]) .full,.list (([((⟨#[107]⟩:ByteArray),(AB (b.2.1.tmod 6))),((⟨#[110]⟩:ByteArray),(AB (b.2.2.1.tmod 4)))]).map Di) .full]]),Rk26,ef (cm hs),ef (cm hs),Owns.of_eq (((((((hO).full 7 0).full 7 2).full 1 (([c+1]).length)).full 1 (([1]).length)).full 1 (([1]).length)).swap ((List.Perm.cons _ ((List.Perm.cons _ ((List.Perm.cons _ ((List.Perm.cons _ (List.Perm.swap _ _ _)).trans (List.Perm.swap _ _ _))).trans (List.Perm.swap _ _ _))).trans (List.Perm.swap _ _ _))).trans (List.Perm.swap _ _ _))) Fh,h⟩
  ·clear h;rintro e st ⟨N,G,l,E,j,H,i,D,g,z,C,u,w,d,Z,t,q,v,p,o,Xk22,Rk22,rfl,rfl,hO,h⟩
   rw [Eg] at h
   have hU:=hO.unders
   simp only [List.mem_cons,List.not_mem_nil,or_false,forall_eq_or_imp,forall_eq] at hU
   obtain ⟨bf,be,bi,bd,bg,bh⟩:=hU
   refine td hN ah ai V hO ?_
   obtain ⟨am,h⟩:=Au h
   obtain ⟨aw,aj,hO,O⟩:=hO.append (P:=Tryz.prog) Zjy (by rw [Zev];rfl) (by decide) 1 am.1 am.2
   replace O:=fun (ys:List AV) B L o2=>O (N.map NA) ys B L o2 Fh
   replace O:=fun (y:AV) B L o2=>O [y] B L o2 Fh ev
   try simp only [List.mem_singleton,List.mem_cons,List.not_mem_nil,or_false,forall_eq_or_imp,forall_eq,List.map_append,List.map_cons,List.map_nil,Fe,E6,E9,E8,Fb,EP,D2,D4,E3,CJ,CL,D1,DX,DZ,Fa,DW,E5] at O
   have hs:=Ad O hs
   refine rl [0,3,4,5] (cm hs) ak ?_
   clear ak
   obtain ⟨a1,h⟩:=Au h
   refine rl [0,3,4,5] (cm hs) (fun e s=>Vl8 ml8 e s (Nat.lt_succ_self _)) ?_
   exact ⟨(N++([Inp.mk G (k+(b.2.2.2.tmod 8)) ((c+1,l)) (Msg.mk ((E,j)) H i (Vl.mk D 0 0 (⟨#[]⟩:ByteArray) ([]) g)) z C u (Vl.mk w 0 0 (⟨#[]⟩:ByteArray) ([]) d)])),(k+(b.2.2.2.tmod 8)),(c+1),aw,([.val (.int .u8 b.1)::(.val (.int .u8 b.2.1)::(.val (.int .u8 b.2.2.1)::([.val (.int .u8 b.2.2.2)]))),[Ak (c+1),.list (([1]).map Ci) .full],[Ak G,Ak (k+(b.2.2.2.tmod 8)),Ak (c+1),.list (l.map Ci) t,Ak E,.list (j.map Ci) q,Ak H,.list (i.map Ci) v,Ak D,Ak 0,Ak 0,.val (.string (⟨#[]⟩:ByteArray)),.list ([]) .full,.list (g.map Di) p,Ak z,.val (.bool C),.val (.bool u),Ak w,Ak 0,Ak 0,.val (.string (⟨#[]⟩:ByteArray)),.list ([]) .full,.list (d.map Di) o]]),aj,ef (cm hs),ef (cm hs),Owns.of_eq ((hO).sub (List.sublist_append_left [(23,N.length+1,aw)] [(1,l.length,t),(1,j.length,q),(1,i.length,v),(7,g.length,p),(7,d.length,o)])) Fh,h⟩
 ·clear h;rintro e st ⟨ad,ae,Xk5,Rk5,rfl,rfl,hO,h⟩
  rw [HY] at h
  exact go (tg (a:=([2],()))) h (cm hs) hN ah ai V hO trivial trivial
def Jr  (b1_k4_6:List (Int × ByteArray × Int × Ty × List Vl)):Option Ty :=
 some (Ty.mk 9 0 0 0 ([]) ([]) b1_k4_6)
def FI (b:ByteArray) (g:Int) (h:ByteArray) (q:Int):Option Ty :=
 if !(MY h (⟨#[]⟩:ByteArray)) then
  if (1+1)*160<=140737488355328/\1+1<=4611686018427387904 then
   Jr  (([(1,b,1,Ty.mk 2 0 g 0 ([]) ([]) ([]),[])])++([(2,h,1,Ty.mk 2 0 q 0 ([]) ([]) ([]),[])]))
  else none
 else
  Jr  ([(1,b,1,Ty.mk 2 0 g 0 ([]) ([]) ([]),[])])
theorem Mc (w0:World) (B:Ao) (Rw:Ap) (L:Aq) (a0:ByteArray) (a1:Int) (a2:ByteArray) (a3:Int) (r:Ty) (h:FI a0 a1 a2 a3=some r) :
  ACalls Tryz.prog w0 30 [.val (.string a0),Ak a1,.val (.string a2),Ak a3] ⟨B,Rw,L⟩ fun x st=>x = .agg (r.cs)/\st=⟨B,Rw,L⟩:=by
 rw [FI] at h
 refine hd [.cell 8 34] Tryz.func30 Tryz.ntmps30 fun M0 W0 j g i c m d hs=>?_
 simp only [Ax]
 have hs:=Ad alp hs
 have hs:=Ad mpn hs
 have hs:=Ad mpc hs
 refine rg [0,1,2,3,8] (cm hs) ?_
 refine rg [2,3,8,9] (cm hs) ?_
 refine AD (fun e st=>∃ (a:List (Int × ByteArray × Int × Ty × List Vl)) (b:Ev.Own),Ck e st B Rw L [(8,true,.box B.length 0),(9,true,.box (B.length+1) 0)] [[Ak 0,Ak 0,Ak 0,Ak 0,.list ([]) .full,.list ([]) .full,.list ([]) .full],[Ak 9,Ak 0,Ak 0,Ak 0,.list ([]) .full,.list ([]) .full,.list (a.map N3) b]] [(11,a.length,b)] (Jr  a=some r)) ?_ ?_
 ·intro K5 f
  refine rg [2,3,8,9,17] (cm hs) ?_
  refine B6 h (cm hs) (fun hs h=>?_) (fun hs h=>?_)
  ·obtain ⟨l,h⟩:=Au h
   have d:=d.make 11 2
   refine rl [8,9] (cm hs) f ?_
   exact ⟨(([(1,a0,1,Ty.mk 2 0 a1 0 ([]) ([]) ([]),[])])++([(2,a2,1,Ty.mk 2 0 a3 0 ([]) ([]) ([]),[])])),((.row Rw.length)),([]),((Rw++[.grow 2 11])),ef (cm hs),ef (cm hs),Owns.of_eq (d) Fh,h⟩
  refine sk [8,9] hs f ?_
  exact ⟨([(1,a0,1,Ty.mk 2 0 a1 0 ([]) ([]) ([]),[])]),.full,([]),Rw,ef (cm hs),ef (cm hs),Owns.of_eq ((d).full 11 1) Fh,h⟩
 ·clear h;rintro e st ⟨a,b,Xk4,Rk4,rfl,rfl,d,h⟩
  rw [Jr] at h
  have k:=d.unders
  simp only [List.mem_cons,List.not_mem_nil,or_false,forall_eq_or_imp,forall_eq] at k
  refine td j g i c d ?_
  refine rg [8] (cm hs) ?_
  exact rt h (cm hs) c d
def DK (b:Int × Int × Int × Int):Option Nod :=
 if BN (b.1.tmod 4) then
  if BN (10*(b.1.tmod 4)) then
   if BN (b.2.1.tmod 6) then
    if BN (1+(b.2.1.tmod 6)) then
     if BN (b.2.2.1.tmod 3) then
      if BN (3+(b.2.2.1.tmod 3)) then
       (FI ((⟨#[105,100]⟩:ByteArray)) (3+(b.2.2.1.tmod 3)) (⟨#[]⟩:ByteArray) 0).bind fun h =>
       (FI ((⟨#[118]⟩:ByteArray)) 9 (⟨#[]⟩:ByteArray) 0).bind fun q =>
       if BN (b.2.2.2.tmod 9) then
        if BN (4+(b.2.2.2.tmod 9)) then
         (FI ((⟨#[107]⟩:ByteArray)) 9 ((⟨#[118]⟩:ByteArray)) (4+(b.2.2.2.tmod 9))).bind fun g =>
         some (Nod.mk ((⟨#[97,115,107]⟩:ByteArray)) 9 0 0 0 (10*(b.1.tmod 4)) (1+(b.2.1.tmod 6)) (⟨#[]⟩:ByteArray) g ([h,q]) ([]) ([((⟨#[107]⟩:ByteArray),(Hf ((⟨#[98,111,100,121,46,107]⟩:ByteArray)))),((⟨#[118]⟩:ByteArray),Ex.mk 12 0 (⟨#[]⟩:ByteArray) ([]) ([Hf ((⟨#[98,111,100,121,46,110]⟩:ByteArray)),Hf ((⟨#[114,101,112,108,121,46,118]⟩:ByteArray))]))]) ([((⟨#[115,116,111,99,107]⟩:ByteArray),[((⟨#[105,100]⟩:ByteArray),(Hf ((⟨#[98,111,100,121,46,107]⟩:ByteArray))))])]) ([]))
        else none
       else none
      else none
     else none
    else none
   else none
  else none
 else none
theorem Ie (w0:World) (B:Ao) (Rw:Ap) (L:Aq) (a0:Int × Int × Int × Int) (r:Nod) (h:DK a0=some r) :
  ACalls Tryz.prog w0 13 [.agg (.val (.int .u8 a0.1)::(.val (.int .u8 a0.2.1)::(.val (.int .u8 a0.2.2.1)::([.val (.int .u8 a0.2.2.2)]))))] ⟨B,Rw,L⟩ fun x st=>x = .agg (PD r)/\st=⟨B,Rw,L⟩:=by
 rw [DK] at h
 refine hd [.cell 2 42] Tryz.func13 Tryz.ntmps13 fun M0 W0 v k l c D z hs=>?_
 simp only [Ax]
 refine rg [1,2] hs ?_
 refine rc 3 [1,2,3] hs ?_;intro K2 i
 refine Av _ (Na w0 _ _ _ ((⟨#[98,111,100,121,46,110]⟩:ByteArray))) (hv hs) ?_
 refine nc hs ?_
 refine Av _ (Na w0 _ _ _ ((⟨#[114,101,112,108,121,46,118]⟩:ByteArray))) (hv hs) ?_
 refine ne hs i ?_
 clear i
 obtain ⟨w,h⟩:=Au h
 obtain ⟨t,h⟩:=Au h
 obtain ⟨u,h⟩:=Au h
 obtain ⟨y,h⟩:=Au h
 refine rg [1,2,3,4] hs ?_
 refine rc 2 [1,2,3,4] hs ?_;intro K8 d
 refine Av _ (Na w0 _ _ _ ((⟨#[98,111,100,121,46,107]⟩:ByteArray))) (hv hs) ?_
 refine ne hs d ?_
 clear d
 obtain ⟨p,h⟩:=Au h
 obtain ⟨n,h⟩:=Au h
 obtain ⟨C,f,h⟩:=bind_some h
 obtain ⟨s,e,h⟩:=bind_some h
 refine rc 3 [1,2,3,4] hs ?_;intro K9 g
 refine Av _ (Mc w0 _ _ _ ((⟨#[105,100]⟩:ByteArray)) (3+(a0.2.2.1.tmod 3)) (⟨#[]⟩:ByteArray) 0 _ f) (hv hs) ?_
 refine nc hs ?_
 refine Av _ (Mc w0 _ _ _ ((⟨#[118]⟩:ByteArray)) 9 (⟨#[]⟩:ByteArray) 0 _ e) (hv hs) ?_
 refine ne hs g ?_
 clear g
 apply Am;intro K14 b
 refine dk 7 2 1 [1,2,4] hs G6 ?_
 refine Av _ (Na w0 _ _ _ ((⟨#[98,111,100,121,46,107]⟩:ByteArray))) (hv hs) ?_
 refine dn hs b ?_
 clear b
 obtain ⟨q,h⟩:=Au h
 obtain ⟨o,h⟩:=Au h
 obtain ⟨j,m,h⟩:=bind_some h
 have hs:=Ad (Ty.cs_eqs j) hs
 exact go (tg (a:=([2,4],[2],()))) h hs v k l c z (q1 (Mc w0)) trivial
def ev4 (e:Int × Int × Int × Int):Prop:=(0<=e.1/\e.1<=255)/\(0<=e.2.1/\e.2.1<=255)/\(0<=e.2.2.1/\e.2.2.1<=255)/\0<=e.2.2.2/\e.2.2.2<=255
theorem tm {a:Int} (h:0<=a) (b:Int):a.tmod b=a % b:=Int.tmod_eq_emod_of_nonneg h
theorem td {a:Int} (h:0<=a) (b:Int):a.tdiv b=a / b:=Int.tdiv_eq_ediv_of_nonneg h
theorem tmN {a:Int} (h:0<=a) (b:Int) (hb:0<b):a.tmod b=((a.tmod b).toNat:Int):=(Int.toNat_of_nonneg (by rw [tm h];exact Int.emod_nonneg _ (by omega))).symm
theorem XE {a:Int} (h:0<=a) (b:Int) (hb:0<b):0<=a.tmod b/\a.tmod b<b:=by
 rw [tm h];exact ⟨Int.emod_nonneg _ (by omega),Int.emod_lt_of_pos _ hb⟩
def cP (x:Int × Int × Int × Int):CP:=⟨10*x.1.tmod 4,(1+x.2.1.tmod 6).toNat,(3+x.2.2.1.tmod 3).toNat,(4+x.2.2.2.tmod 9).toNat⟩
theorem Ziw {x:Int × Int × Int × Int} (h:ev4 x):(cP x).ok:=by
 obtain ⟨⟨c,_⟩,⟨d,_⟩,⟨b,_⟩,a,_⟩:=h
 have f:=XE c 4 (by decide)
 have i:=XE d 6 (by decide)
 have e:=XE b 3 (by decide)
 have g:=XE a 9 (by decide)
 exact ⟨by simp only [cP];omega,by simp only [cP];omega,by simp only [cP];omega,by simp only [cP];omega,by simp only [cP];omega⟩
theorem Zag (a:ByteArray) (q:Int):FI a q (⟨#[]⟩:ByteArray) 0=some (OU a q):=rfl
theorem ZgL (q:Int):FI (⟨#[107]⟩:ByteArray) 9 (⟨#[118]⟩:ByteArray) q=some (Zbf q):=by
 have h:(!(MY (⟨#[118]⟩:ByteArray) (⟨#[]⟩:ByteArray)))=true:=by decide +kernel
 rw [FI,h,Ah rfl,Ah (by decide)]
 rfl
theorem ZaB {x:Int × Int × Int × Int} (h:ev4 x):DK x=some (Be (cP x)):=by
 obtain ⟨⟨e,_⟩,⟨f,_⟩,⟨d,_⟩,b,_⟩:=h
 have j:=XE e 4 (by decide)
 have l:=XE f 6 (by decide)
 have i:=XE d 3 (by decide)
 have k:=XE b 9 (by decide)
 have c:1+x.2.1.tmod 6=(((1+x.2.1.tmod 6).toNat:Nat):Int):=by omega
 have g:3+x.2.2.1.tmod 3=(((3+x.2.2.1.tmod 3).toNat:Nat):Int):=by omega
 have a:4+x.2.2.2.tmod 9=(((4+x.2.2.2.tmod 9).toNat:Nat):Int):=by omega
 rw [DK,Ah (by unfold BN;omega),Ah (by unfold BN;omega),Ah (by unfold BN;omega),Ah (by unfold BN;omega),Ah (by unfold BN;omega),Ah (by unfold BN;omega),Zag,Ae,Zag,Ae,Ah (by unfold BN;omega),Ah (by unfold BN;omega),ZgL,Ae]
 show some (Nod.mk MN 9 0 0 0 (10*x.1.tmod 4) (1+x.2.1.tmod 6) eS (Zbf (4+x.2.2.2.tmod 9)) [OU Yz (3+x.2.2.1.tmod 3),OU nV 9] [] Zch [(MA,Xy)] [])=some (Nod.mk MN 9 0 0 0 (10*x.1.tmod 4) (((1+x.2.1.tmod 6).toNat:Nat):Int) eS (Zbf (((4+x.2.2.2.tmod 9).toNat:Nat):Int)) [OU Yz (((3+x.2.2.1.tmod 3).toNat:Nat):Int),OU nV 9] [] Zch [(MA,Xy)] [])
 rw [<-c,<-g,<-a]
def UA (i:Nat) (now:Int) (e:Int × Int × Int × Int):CI :=
 if e.1.tmod 8=4\/e.1.tmod 8=5\/e.1.tmod 8=6 then .rep i now (e.2.1.tmod 16).toNat (decide (0<e.2.2.1.tmod 4)) (decide ((e.2.2.1.tdiv 4).tmod 8=7)) (e.2.2.1.tmod 12).toNat
 else if e.1.tmod 8=7 then .clk i now else .msg ⟨i,(e.2.1.tmod 6).toNat,(e.2.2.1.tmod 4).toNat⟩ now
def RO:Nat->Int->List (Int × Int × Int × Int)->List CI
 | _,_,[]=>[]
 | i,now,e::l=>if i<40 then UA i (now+e.2.2.2.tmod 8) e::RO (i+1) (now+e.2.2.2.tmod 8) l else []
def VW:Int->Nat->List CI->Prop
 | _,_,[]=>True
 | now,k,j::l=>j.ok k/\j.fit/\now<=j.now/\k<40/\VW j.now (k+1) l
theorem Yv (i:Nat) (now:Int) (e:Int × Int × Int × Int):(UA i now e).now=now:=by
 unfold UA;split
 ·rfl
 ·split<;>rfl
theorem ZfV {i:Nat} {now:Int} {e:Int × Int × Int × Int} (h:ev4 e) (h0:0<=now) (h1:now<=100000):(UA i now e).ok i/\(UA i now e).fit:=by
 obtain ⟨⟨g1,_⟩,⟨g2,_⟩,⟨g3,_⟩,g4,_⟩:=h
 have c:=XE g2 16 (by decide)
 have d:=XE g3 12 (by decide)
 have b:=XE g2 6 (by decide)
 have a:=XE g3 4 (by decide)
 unfold UA;split
 ·exact ⟨⟨rfl,by omega,by omega⟩,by omega,h0,h1⟩
 ·split
  ·exact ⟨rfl,h0,h1⟩
  ·exact ⟨⟨rfl,by simp only;omega,by simp only;omega⟩,⟨by simp only;omega,by simp only;omega⟩,h0,h1⟩
theorem Uz:∀ (l:List (Int × Int × Int × Int)) (i:Nat) (now:Int),0<=now->now<=7*i->(∀ e∈l,ev4 e)->VW now i (RO i now l)
 | [],_,_,_,_,_=>trivial
 | e::l,i,now,h0,h1,h=>by
  rw [RO]
  split
  ·rename_i hi
   have a:=h e (List.mem_cons_self ..)
   have b:=XE a.2.2.2.1 8 (by decide)
   obtain ⟨a1,a2⟩:=ZfV (i:=i) (now:=now+e.2.2.2.tmod 8) a (by omega) (by omega)
   refine ⟨a1,a2,by rw [Yv];omega,hi,?_⟩
   rw [Yv]
   exact Uz l (i+1) _ (by omega) (by omega) fun x c=>h x (List.mem_cons_of_mem _ c)
  ·trivial
theorem RP:∀ (l:List CI) (now:Int) (k:Nat),VW now k l->k<=40->k+l.length<=40
 | [],_,_,_,h=>h
 | j::l,_,k,h,_=>by
  have:=RP l _ (k+1) h.2.2.2.2 (by have:=h.2.2.2.1;omega)
  rw [List.length_cons];omega
theorem ZhW (n:Nat) (a:List (Int × Int × Int × Int)) (ha:∀ e∈a,ev4 e):∀ (l:List (Int × Int × Int × Int)) (m i:Nat) (now:Int) (acc:List Inp),a.drop i=l->i<=a.length->acc.length=i->i<=40->0<=now->now<=7*i->40-i<m ->
  BV n a m acc now (i:Int)=some (acc++(RO i now l).map B9)
 | l,0,_,_,_,_,_,_,_,_,_,h=>absurd h (Nat.not_lt_zero _)
 | [],m+1,i,now,acc,hd,hi,hacc,h40,h0,h1,hm=>by
  have:i=a.length:=by have:=List.drop_eq_nil_iff.1 hd;omega
  have j:¬ (decide ((i:Int)<(a.length:Int))&&decide ((i:Int)<40))=true:=by
   rw [Af (show ¬ (i:Int)<(a.length:Int) by omega)];simp
  rw [BV,Ai j,HY,RO,List.map_nil,List.append_nil]
 | e::l,m+1,i,now,acc,hd,hi,hacc,h40,h0,h1,hm=>by
  have b:i<a.length:=by
   rcases Nat.lt_or_ge i a.length with h | h
   ·exact h
   ·rw [List.drop_eq_nil_of_le h] at hd;cases hd
  by_cases hc40:i<40
  ·have j:(decide ((i:Int)<(a.length:Int))&&decide ((i:Int)<40))=true:=by
    rw [Ag (show (i:Int)<(a.length:Int) by omega),Ag (show (i:Int)<40 by omega)];rfl
   have f:a[i]=e:=by
    rw [List.drop_eq_getElem_cons b] at hd;exact (List.cons.inj hd).1
   have k:a.drop (i+1)=l:=by
    rw [List.drop_eq_getElem_cons b] at hd;exact (List.cons.inj hd).2
   have s:ev4 e:=f▸ha _ (List.getElem_mem b)
   obtain ⟨⟨g1,_⟩,⟨g2,_⟩,⟨g3,q⟩,g4,_⟩:=s
   have y:=XE g4 8 (by decide)
   have v:=XE g2 16 (by decide)
   have u:=XE g3 12 (by decide)
   have t:=XE g2 6 (by decide)
   have w:=XE g3 4 (by decide)
   have ih:=fun x:Inp=>ZhW n a ha l m (i+1) (now+e.2.2.2.tmod 8) (acc++[x]) k b (by rw [List.length_append,hacc];rfl) hc40 (by omega) (by omega) (by omega)
   have fin:∀ x:CI,some ((acc++[B9 x])++(RO (i+1) (now+e.2.2.2.tmod 8) l).map B9)=some (acc++(x::RO (i+1) (now+e.2.2.2.tmod 8) l).map B9):=fun x=>by
    rw [List.append_assoc];rfl
   have p:(acc.length+1)*304<=140737488355328/\acc.length+1<=4611686018427387904:=by omega
   rw [BV,Ah j,Bj b,Ae,f,Ah (by unfold BN;omega),Ah (by unfold BN;omega),Ah (by unfold BN;omega)]
   rw [RO,Ah hc40]
   have o:DN n (BV n a m) now (i:Int) e acc true=some (acc++(CI.rep i (now+e.2.2.2.tmod 8) (e.2.1.tmod 16).toNat (decide (0<e.2.2.1.tmod 4)) (decide ((e.2.2.1.tdiv 4).tmod 8=7)) (e.2.2.1.tmod 12).toNat::RO (i+1) (now+e.2.2.2.tmod 8) l).map B9):=by
    rw [DN,Ah rfl,Ah (by unfold BN;omega),Ah (by rw [td g3];omega),Ah (by unfold BN;omega),Eg,Ah p,Ah (A8 (by omega))]
    refine Eq.trans ?_ (fin _)
    refine Eq.trans ?_ (ih _)
    simp only [B9]
    rw [<-tmN g2 16 (by decide),<-tmN g3 12 (by decide)]
    rfl
   have r:e.1.tmod 8≠4->e.1.tmod 8≠5->e.1.tmod 8≠6->DN n (BV n a m) now (i:Int) e acc false=some (acc++(UA i (now+e.2.2.2.tmod 8) e::RO (i+1) (now+e.2.2.2.tmod 8) l).map B9):=by
    intro g d c
    rw [DN,Ai (by decide)]
    unfold UA
    rw [Ai (show ¬ (e.1.tmod 8=4\/e.1.tmod 8=5\/e.1.tmod 8=6) by omega)]
    by_cases c7:e.1.tmod 8=7
    ·rw [Ag c7,Ah rfl,Ah (by unfold BN;omega),Ah c7,Eg,Ah p,Ah (A8 (by omega))]
     exact (ih _).trans (fin (.clk i _))
    ·rw [Af c7,Ai (by decide),Ai c7,Ah (by unfold BN;omega),Ah (by unfold BN;omega),Ah (by unfold BN;omega),Ah (by unfold BN;omega),Eg,Ah p,Ah (A8 (by omega))]
     refine Eq.trans ?_ (fin _)
     refine Eq.trans ?_ (ih _)
     simp only [B9,B5]
     rw [<-tmN g2 6 (by decide),<-tmN g3 4 (by decide)]
     rfl
   by_cases g:e.1.tmod 8=4
   ·rw [Ag g,Ah rfl,o]
    unfold UA;rw [Ah (.inl g)]
   ·rw [Af g,Ai (by decide)]
    by_cases d:e.1.tmod 8=5
    ·rw [Ag d,Ah rfl,o]
     unfold UA;rw [Ah (.inr (.inl d))]
    ·rw [Af d,Ai (by decide)]
     by_cases c:e.1.tmod 8=6
     ·rw [Ag c,o]
      unfold UA;rw [Ah (.inr (.inr c))]
     ·rw [Af c,r g d c]
  ·have j:¬ (decide ((i:Int)<(a.length:Int))&&decide ((i:Int)<40))=true:=by
    rw [Af (show ¬ (i:Int)<40 by omega),Bool.and_false];decide
   rw [BV,Ai j,HY,RO,Ai hc40,List.map_nil,List.append_nil]
theorem ZbM (n:Nat) (hn:100<=n) (a:List (Int × Int × Int × Int)) (ha:∀ e∈a,ev4 e):IP n a=some ((RO 0 0 a).map B9) :=
 ZhW n a ha a n 0 0 [] rfl (Nat.zero_le _) rfl (by omega) (Int.le_refl _) (by omega) (by omega)
theorem ZdR (n:Nat) (hn:100000<=n) (p:CP) (hp:p.ok) (js:List CI) (hjs:js.length<=40):∀ (l:List CI) (m i:Nat) (acc:List Otc) (s:CS) (now:Int),js.drop i=l->i<=js.length->acc.length=i->s.ok p now i->VW now i l->l.length<m ->
  Ia n (Be p) (js.map B9) m acc (i:Int) (Aw s)=some (acc++(ZZ p s l).map Hi)
 | l,0,_,_,_,_,_,_,_,_,_,h=>absurd h (Nat.not_lt_zero _)
 | [],m+1,i,acc,s,now,hd,hi,hacc,hs,hch,hm=>by
  have:i=js.length:=by have:=List.drop_eq_nil_iff.1 hd;omega
  rw [Ia,List.length_map,A4,Ac,Ai (by decide),Nl,ZZ,List.map_nil,List.append_nil]
 | j::l,m+1,i,acc,s,now,hd,hi,hacc,hs,hch,hm=>by
  have a:i<js.length:=by
   rcases Nat.lt_or_ge i js.length with h | h
   ·exact h
   ·rw [List.drop_eq_nil_of_le h] at hd;cases hd
  have c:js[i]=j:=by
   rw [List.drop_eq_getElem_cons a] at hd;exact (List.cons.inj hd).1
  have b:js.drop (i+1)=l:=by
   rw [List.drop_eq_getElem_cons a] at hd;exact (List.cons.inj hd).2
  obtain ⟨f,e,d,k,g⟩:=hch
  have ih:=ZdR n hn p hp js hjs l m (i+1) (acc++[Hi (Du p s j)]) (Du p s j).st j.now b a (by rw [List.length_append,hacc];rfl) (Yn hp hs f d) g (by simpa using hm)
  rw [Ia,List.length_map,A4,Ag a,Ah rfl,Bj (by rw [List.length_map];exact a),Ae,List.getElem_map,c,Zhk n hn p hp s hs (by omega) j e,Ae,Ab,Ah (A8 (by omega))]
  refine Eq.trans ih ?_
  rw [List.append_assoc,ZZ]
  rfl
theorem Zjn (n:Nat) (hn:100000<=n) (p:CP) (hp:p.ok) (js:List CI) (h:VW 0 0 js):MQ n (Be p) (js.map B9)=some ((ZZ p ⟨0,[]⟩ js).map Hi):=by
 have a:=RP js 0 0 h (by omega)
 exact ZdR n hn p hp js (by omega) js n 0 [] ⟨0,[]⟩ 0 rfl (Nat.zero_le _) rfl (CS.ok0 p) h (by omega)
end Go.Proofs.YtbfenpeblbonlaaGreatDoor
