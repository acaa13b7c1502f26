/-
  Part 5 of the proof: rules and walks that the claim's last text uses.
-/
import Derived.Test.YtcdnijfbfdnjlaaGreatDoorKo4
set_option linter.unusedSimpArgs false
set_option linter.unusedVariables false
set_option maxRecDepth 100000
set_option maxHeartbeats 4000000
namespace Go.Proofs.YtcdnijfbfdnjlaaGreatDoor
open Go Go.RowKit Go.Ev
def Dm (n:Nat) (b:Nod) (q:List (ByteArray × List (ByteArray × Ex))) (h:List Ty) (b0_k56_16:List Ex):Option Nod :=
 (FI n b.mapping).bind fun y72 =>
 (Bm n b.type 4).bind fun y =>
 if 0≤0∧0≤(if 60<(b.name.size:Int) then 60 else (b.name.size:Int))∧(if 60<(b.name.size:Int) then 60 else (b.name.size:Int))≤(b.name.size:Int) then
  if 0≤0∧0≤(if 60<(b.text.size:Int) then 60 else (b.text.size:Int))∧(if 60<(b.text.size:Int) then 60 else (b.text.size:Int))≤(b.text.size:Int) then
   if 0≤0∧0≤(if 70<(b.next.length:Int) then 70 else (b.next.length:Int))∧(if 70<(b.next.length:Int) then 70 else (b.next.length:Int))≤(b.next.length:Int) then
    some (Nod.mk (b.name.extract 0 ((if 60<(b.name.size:Int) then 60 else (b.name.size:Int))).toNat) b.kind b.schema b.result b.number b.time b.limit (b.text.extract 0 ((if 60<(b.text.size:Int) then 60 else (b.text.size:Int))).toNat) y h b0_k56_16 y72 q (b.next.take ((if 70<(b.next.length:Int) then 70 else (b.next.length:Int))).toNat))
   else none
  else none
 else none
def Cc (n:Nat) (y:Nod):Nat→(List (ByteArray × List (ByteArray × Ex)))→(List Ty)→Int→(List Ex)→Option Nod
 | 0,_,_,_,_=>none
 | m+1,q,h,b,b0_l59_16 =>
  if (decide (b<(y.types.length:Int)))&&(decide (b<8)) then
   (Gg y.types b).bind fun x64 =>
   (Bm n x64 4).bind fun y65 =>
   if (h.length+1)*104≤140737488355328∧h.length+1≤4611686018427387904 then
    if Bj (b+1) then
     (Cc n y m) q (h++([y65])) (b+1) b0_l59_16
    else none
   else none
  else
   Dm n y q h b0_l59_16
def Em (n:Nat) (h:Nod) (b:List (ByteArray × List (ByteArray × Ex))) (b0_k38_16:List Ex):Option Nod :=
 Cc n h n b ([]) 0 b0_k38_16
def Cj (n:Nat) (y:Nod):Nat→(List (ByteArray × List (ByteArray × Ex)))→Int→(List Ex)→Option Nod
 | 0,_,_,_=>none
 | m+1,h,b,b0_l41_16 =>
  if (decide (b<(y.calls.length:Int)))&&(decide (b<4)) then
   (Gg y.calls b).bind fun q =>
   if 0≤0∧0≤(if 60<(q.1.size:Int) then 60 else (q.1.size:Int))∧(if 60<(q.1.size:Int) then 60 else (q.1.size:Int))≤(q.1.size:Int) then
    (FI n q.2).bind fun y48 =>
    if (h.length+1)*40≤140737488355328∧h.length+1≤4611686018427387904 then
     if Bj (b+1) then
      (Cj n y m) (h++([(q.1.extract 0 ((if 60<(q.1.size:Int) then 60 else (q.1.size:Int))).toNat,y48)])) (b+1) b0_l41_16
     else none
    else none
   else none
  else
   Em n y h b0_l41_16
def Ep (n:Nat) (b:Nod) (b0_k22_16:List Ex):Option Nod :=
 Cj n b n ([]) 0 b0_k22_16
def Ce (n:Nat) (y:Nod) (h:(List (ByteArray × Ex))):Nat→Int→(List Ex)→Option Nod
 | 0,_,_=>none
 | m+1,b,b0_l25_16 =>
  if decide (b<(h.length:Int)) then
   (Gg h b).bind fun q =>
   if (b0_l25_16.length+1)*80≤140737488355328∧b0_l25_16.length+1≤4611686018427387904 then
    if Bj (b+1) then
     (Ce n y h m) (b+1) (b0_l25_16++([q.2]))
    else none
   else none
  else
   Ep n y b0_l25_16
def ET (n:Nat) (h:Nod) (b2_k4_0:List (ByteArray × Ex)):Option Nod :=
 (FI n b2_k4_0).bind fun b =>
 Ce n h b n 0 ([])
def CY (n:Nat) (h:Nod):Nat→Int→(List (ByteArray × Ex))→Option Nod
 | 0,_,_=>none
 | m+1,b,b2_l7_0 =>
  if (decide (b<(h.exprs.length:Int)))&&(decide (b<4)) then
   (Gg h.exprs b).bind fun q =>
   if (b2_l7_0.length+1)*96≤140737488355328∧b2_l7_0.length+1≤4611686018427387904 then
    if Bj (b+1) then
     (CY n h m) (b+1) (b2_l7_0++([((⟨#[]⟩:ByteArray),q)]))
    else none
   else none
  else
   ET n h b2_l7_0
def Ff (n:Nat) (b:Nod):Option Nod :=
 CY n b n 0 ([])
theorem MV (w0:World) (n:Nat) (B:Aq) (Rw:Au) (L:Av) (a0:Nod) (r:Nod) (h:Ff n a0=some r) :
  ACalls Tryz.prog w0 7 [.agg (.val (.string a0.name)::(Ak a0.kind::(Ak a0.schema::(Ak a0.result::(Ak a0.number::(Ak a0.time::(Ak a0.limit::(.val (.string a0.text)::((a0.type.cs)++(.list (a0.types.map EV) .none::(.list (a0.exprs.map GM) .none::(.list (a0.mapping.map BH) .none::(.list (a0.calls.map CX) .none::([.list (a0.next.map BG) .none]))))))))))))))] ⟨B,Rw,L⟩ fun x st=>x = .agg (.val (.string r.name)::(Ak r.kind::(Ak r.schema::(Ak r.result::(Ak r.number::(Ak r.time::(Ak r.limit::(.val (.string r.text)::((r.type.cs)++(.list (r.types.map EV) .none::(.list (r.exprs.map GM) .none::(.list (r.mapping.map BH) .none::(.list (r.calls.map CX) .none::([.list (r.next.map BG) .none]))))))))))))))∧st=⟨B,Rw,L⟩:=by
 rw [Ff] at h
 refine hd [.cell 2 34] Tryz.func7 Tryz.ntmps7 fun M0 W0 hN ah ai o hu v hs=>?_
 simp only [AL]
 refine rg [1,2] hs ?_
 refine rg [1,2,3] hs ?_
 refine AZ (fun e st=>∃ (l:List (ByteArray × Ex)) (D:Ev.Own),Ck e st B Rw L [(1,true,.box B.length 0),(2,true,.box (B.length+1) 0),(3,true,.box (B.length+2) 0)] [.val (.string a0.name)::(Ak a0.kind::(Ak a0.schema::(Ak a0.result::(Ak a0.number::(Ak a0.time::(Ak a0.limit::(.val (.string a0.text)::((a0.type.cs)++(.list (a0.types.map EV) .none::(.list (a0.exprs.map GM) .none::(.list (a0.mapping.map BH) .none::(.list (a0.calls.map CX) .none::([.list (a0.next.map BG) .none]))))))))))))),[.val (.string (⟨#[]⟩:ByteArray)),Ak 0,Ak 0,Ak 0,Ak 0,Ak 0,Ak 0,.val (.string (⟨#[]⟩:ByteArray)),Ak 0,Ak 0,Ak 0,Ak 0,.list ([]) .full,.list ([]) .full,.list ([]) .full,.list ([]) .full,.list ([]) .full,.list ([]) .full,.list ([]) .full,.list ([]) .full],[.list (l.map BH) D]] [(6,l.length,D)] (ET n a0 l=some r)) ?_ ?_
 ·intro K5 bk
  refine rg [1,2,3,4] hs ?_
  apply As
  refine AN (fun m e st=>∃ (aj:Int) (K:List (ByteArray × Ex)) (O:Ev.Own),Ck e st B Rw L [(1,true,.box B.length 0),(2,true,.box (B.length+1) 0),(3,true,.box (B.length+2) 0),(4,true,Ak aj)] [.val (.string a0.name)::(Ak a0.kind::(Ak a0.schema::(Ak a0.result::(Ak a0.number::(Ak a0.time::(Ak a0.limit::(.val (.string a0.text)::((a0.type.cs)++(.list (a0.types.map EV) .none::(.list (a0.exprs.map GM) .none::(.list (a0.mapping.map BH) .none::(.list (a0.calls.map CX) .none::([.list (a0.next.map BG) .none]))))))))))))),[.val (.string (⟨#[]⟩:ByteArray)),Ak 0,Ak 0,Ak 0,Ak 0,Ak 0,Ak 0,.val (.string (⟨#[]⟩:ByteArray)),Ak 0,Ak 0,Ak 0,Ak 0,.list ([]) .full,.list ([]) .full,.list ([]) .full,.list ([]) .full,.list ([]) .full,.list ([]) .full,.list ([]) .full,.list ([]) .full],[.list (K.map BH) O]] [(6,K.length,O)] (CY n a0 m aj K=some r)) n ⟨0,([]),.full,([]),Rw,ef hs,ef hs,Owns.of_eq ((v).full 6 0) Et,h⟩ ?_
  rintro ml7 e st ⟨aj,K,O,Xl7,Rl7,rfl,rfl,v,h⟩ Ul7 Vl7
  cases ml7 with
  | zero=>cases h
  | succ ml7 =>
  rw [CY] at h
  exact go (tg (a:=([1,2,3,4,18],([1,2,3,4],[9,1,2,3,4],[1,2,3,4],()),[1,2,3],()))) h hs hN ah ai o v (q1 (ae Zar Ug)) (q2 bk (fun e s=>Vl7 ml7 e s (Nat.lt_succ_self _)))
 ·clear h;rintro e st ⟨l,D,Xk4,Rk4,rfl,rfl,v,h⟩
  rw [ET] at h
  have hU:=v.unders
  simp only [List.mem_cons,List.not_mem_nil,or_false,forall_eq_or_imp,forall_eq] at hU
  refine td hN ah ai o v ?_
  obtain ⟨af,a7,h⟩:=bind_some h
  refine rc 2 [1,2,3] hs ?_;intro K18 ap
  refine Ax _ (GV w0 n _ _ _ l _ a7) (hv hs) ?_
  refine ne hs ap ?_
  clear ap
  have hs:=Ad (Ty.cs_eqs a0.type) hs
  refine rg [1,2,3] hs ?_
  refine AZ (fun e st=>∃ (g:List Ex) (j:Ev.Own),Ck e st B Rw L [(1,true,.box B.length 0),(2,true,.box (B.length+1) 0)] [[.val (.string a0.name),Ak a0.kind,Ak a0.schema,Ak a0.result,Ak a0.number,Ak a0.time,Ak a0.limit,.val (.string a0.text),Ak a0.type.kind,Ak a0.type.min,Ak a0.type.max,Ak a0.type.scale,.list (a0.type.words.map IL) .none,.list (a0.type.elem.map EV) .none,.list (a0.type.fields.map FM) .none,.list (a0.types.map EV) .none,.list (g.map GM) j,.list (a0.mapping.map BH) .none,.list (a0.calls.map CX) .none,.list (a0.next.map BG) .none],[.val (.string (⟨#[]⟩:ByteArray)),Ak 0,Ak 0,Ak 0,Ak 0,Ak 0,Ak 0,.val (.string (⟨#[]⟩:ByteArray)),Ak 0,Ak 0,Ak 0,Ak 0,.list ([]) .full,.list ([]) .full,.list ([]) .full,.list ([]) .full,.list ([]) .full,.list ([]) .full,.list ([]) .full,.list ([]) .full],[.list (af.map BH) .none]] [(5,g.length,j)] (Ep n a0 g=some r)) ?_ ?_
  ·intro K23 a9
   refine rg [1,2,3,5] hs ?_
   apply As
   refine AN (fun m e st=>∃ (ag:Int) (u:List Ex) (w:Ev.Own),Ck e st B Rw L [(1,true,.box B.length 0),(2,true,.box (B.length+1) 0),(3,true,.box (B.length+2) 0),(5,true,Ak ag)] [[.val (.string a0.name),Ak a0.kind,Ak a0.schema,Ak a0.result,Ak a0.number,Ak a0.time,Ak a0.limit,.val (.string a0.text),Ak a0.type.kind,Ak a0.type.min,Ak a0.type.max,Ak a0.type.scale,.list (a0.type.words.map IL) .none,.list (a0.type.elem.map EV) .none,.list (a0.type.fields.map FM) .none,.list (a0.types.map EV) .none,.list (u.map GM) w,.list (a0.mapping.map BH) .none,.list (a0.calls.map CX) .none,.list (a0.next.map BG) .none],[.val (.string (⟨#[]⟩:ByteArray)),Ak 0,Ak 0,Ak 0,Ak 0,Ak 0,Ak 0,.val (.string (⟨#[]⟩:ByteArray)),Ak 0,Ak 0,Ak 0,Ak 0,.list ([]) .full,.list ([]) .full,.list ([]) .full,.list ([]) .full,.list ([]) .full,.list ([]) .full,.list ([]) .full,.list ([]) .full],[.list (af.map BH) .none]] [(5,u.length,w)] (Ce n a0 af m ag u=some r)) n ⟨0,([]),.full,([]),Rk4,ef hs,ef hs,Owns.of_eq (((v).full 5 0).sub (List.sublist_append_left [(5,0,Own.full)] [(6,l.length,D)])) Et,h⟩ ?_
   rintro ml25 e st ⟨ag,u,w,Xl25,Rl25,rfl,rfl,v,h⟩ Ul25 Vl25
   cases ml25 with
   | zero=>cases h
   | succ ml25 =>
   rw [Ce] at h
   exact go (tg (a:=([1,2,3,5,39],([1,2,3,5],[9,1,2,3,5],[1,2,3,5],()),[1,2],()))) h hs hN ah ai o v (q1 (ae Zbg SK)) (q2 a9 (fun e s=>Vl25 ml25 e s (Nat.lt_succ_self _)))
  ·clear h;rintro e st ⟨g,j,Xk22,Rk22,rfl,rfl,v,h⟩
   rw [Ep] at h
   have hU:=v.unders
   simp only [List.mem_cons,List.not_mem_nil,or_false,forall_eq_or_imp,forall_eq] at hU
   refine td hN ah ai o v ?_
   refine rg [1,2,6] hs ?_
   refine AZ (fun e st=>∃ (G:List (ByteArray × List (ByteArray × Ex))) (i:List Ex) (H:Ev.Own) (k:Ev.Own),Ck e st B Rw L [(1,true,.box B.length 0),(2,true,.box (B.length+1) 0),(6,true,.list (G.map CX) H)] [[.val (.string a0.name),Ak a0.kind,Ak a0.schema,Ak a0.result,Ak a0.number,Ak a0.time,Ak a0.limit,.val (.string a0.text),Ak a0.type.kind,Ak a0.type.min,Ak a0.type.max,Ak a0.type.scale,.list (a0.type.words.map IL) .none,.list (a0.type.elem.map EV) .none,.list (a0.type.fields.map FM) .none,.list (a0.types.map EV) .none,.list (i.map GM) k,.list (a0.mapping.map BH) .none,.list (a0.calls.map CX) .none,.list (a0.next.map BG) .none],[.val (.string (⟨#[]⟩:ByteArray)),Ak 0,Ak 0,Ak 0,Ak 0,Ak 0,Ak 0,.val (.string (⟨#[]⟩:ByteArray)),Ak 0,Ak 0,Ak 0,Ak 0,.list ([]) .full,.list ([]) .full,.list ([]) .full,.list ([]) .full,.list ([]) .full,.list ([]) .full,.list ([]) .full,.list ([]) .full],[.list (af.map BH) .none]] [(2,G.length,H),(5,i.length,k)] (Em n a0 G i=some r)) ?_ ?_
   ·intro K39 a8
    refine rg [1,2,6,7] hs ?_
    apply As
    refine AN (fun m e st=>∃ (q:List (ByteArray × List (ByteArray × Ex))) (V:Int) (c:List Ex) (N:Ev.Own) (d:Ev.Own),Ck e st B Rw L [(1,true,.box B.length 0),(2,true,.box (B.length+1) 0),(6,true,.list (q.map CX) N),(7,true,Ak V)] [[.val (.string a0.name),Ak a0.kind,Ak a0.schema,Ak a0.result,Ak a0.number,Ak a0.time,Ak a0.limit,.val (.string a0.text),Ak a0.type.kind,Ak a0.type.min,Ak a0.type.max,Ak a0.type.scale,.list (a0.type.words.map IL) .none,.list (a0.type.elem.map EV) .none,.list (a0.type.fields.map FM) .none,.list (a0.types.map EV) .none,.list (c.map GM) d,.list (a0.mapping.map BH) .none,.list (a0.calls.map CX) .none,.list (a0.next.map BG) .none],[.val (.string (⟨#[]⟩:ByteArray)),Ak 0,Ak 0,Ak 0,Ak 0,Ak 0,Ak 0,.val (.string (⟨#[]⟩:ByteArray)),Ak 0,Ak 0,Ak 0,Ak 0,.list ([]) .full,.list ([]) .full,.list ([]) .full,.list ([]) .full,.list ([]) .full,.list ([]) .full,.list ([]) .full,.list ([]) .full],[.list (af.map BH) .none]] [(2,q.length,N),(5,c.length,d)] (Cj n a0 m q V c=some r)) n ⟨([]),0,g,.full,j,([]),Rk22,ef hs,ef hs,Owns.of_eq ((v).full 2 0) Et,h⟩ ?_
    rintro ml41 e st ⟨q,V,c,N,d,Xl41,Rl41,rfl,rfl,v,h⟩ Ul41 Vl41
    cases ml41 with
    | zero=>cases h
    | succ ml41 =>
    rw [Cj] at h
    have hU:=v.unders
    simp only [List.mem_cons,List.not_mem_nil,or_false,forall_eq_or_imp,forall_eq] at hU
    obtain ⟨a6,a3⟩:=hU
    refine td hN ah ai o v ?_
    apply Am;intro K42 ar
    refine rg [1,2,6,7,61] hs ?_
    refine Gw h hs ?_ ?_<;>intro hs h
    rotate_left
    ·refine sx [1,2,6] hs a8 ?_
     exact ⟨q,c,N,d,([]),Rl41,ef hs,ef hs,Owns.of_eq (((v).swap (List.Perm.swap _ _ _)).swap (List.Perm.swap _ _ _)) Et,h⟩
    refine sk [1,2,6,7] hs ar ?_
    clear ar
    apply Am;intro K45 ay
    apply As
    obtain ⟨ao,be,bj,a4,h⟩:=ix CX h
    obtain ⟨bo,h⟩:=An h
    obtain ⟨bn,bb,h⟩:=bind_some h
    obtain ⟨az,h⟩:=An h
    obtain ⟨bd,am,v,U⟩:=v.append (P:=Tryz.prog) Zgq (by rw [Zbk];rfl) (by decide) 1 az.1 az.2
    replace U:=fun (ys:List AV) B L o2=>U (q.map CX) ys B L o2 Et
    replace U:=fun (y:AV) B L o2=>U [y] B L o2 Et ev
    try simp only [List.mem_singleton,List.mem_cons,List.not_mem_nil,or_false,forall_eq_or_imp,forall_eq,List.map_append,List.map_cons,List.map_nil,Hv,Hh,Hy,G4,Hm,G5,FR,FX,Hw,D3,D9,Gf,F2,FV,Hg,FQ,He] at U
    have hs:=Ad a4 hs
    have hs:=Ad U hs
    refine dk 25 2 1 [1,2,6,7] hs NZ ?_
    refine Ax _ (GV w0 n _ _ _ ao.2 _ bb) (hv hs) ?_
    refine dn hs ay ?_
    clear ay
    obtain ⟨bt,h⟩:=An h
    refine rl [1,2,6,7] hs (fun e s=>Vl41 ml41 e s (Nat.lt_succ_self _)) ?_
    exact ⟨(q++([(ao.1.extract 0 ((if 60<(ao.1.size:Int) then 60 else (ao.1.size:Int))).toNat,bn)])),(V+1),c,bd,d,([]),am,ef hs,ef hs,Owns.of_eq (((v).swap (List.Perm.swap _ _ _)).swap (List.Perm.swap _ _ _)) Et,h⟩
   ·clear h;rintro e st ⟨G,i,H,k,Xk38,Rk38,rfl,rfl,v,h⟩
    rw [Em] at h
    have hU:=v.unders
    simp only [List.mem_cons,List.not_mem_nil,or_false,forall_eq_or_imp,forall_eq] at hU
    obtain ⟨a6,a3⟩:=hU
    refine td hN ah ai o v ?_
    refine rg [1,2,6,8] hs ?_
    refine AZ (fun e st=>∃ (Y:List (ByteArray × List (ByteArray × Ex))) (Z:List Ty) (p:List Ex) (ab:Ev.Own) (ad:Ev.Own) (C:Ev.Own),Ck e st B Rw L [(1,true,.box B.length 0),(2,true,.box (B.length+1) 0),(6,true,.list (Y.map CX) ab),(8,true,.list (Z.map EV) ad)] [[.val (.string a0.name),Ak a0.kind,Ak a0.schema,Ak a0.result,Ak a0.number,Ak a0.time,Ak a0.limit,.val (.string a0.text),Ak a0.type.kind,Ak a0.type.min,Ak a0.type.max,Ak a0.type.scale,.list (a0.type.words.map IL) .none,.list (a0.type.elem.map EV) .none,.list (a0.type.fields.map FM) .none,.list (a0.types.map EV) .none,.list (p.map GM) C,.list (a0.mapping.map BH) .none,.list (a0.calls.map CX) .none,.list (a0.next.map BG) .none],[.val (.string (⟨#[]⟩:ByteArray)),Ak 0,Ak 0,Ak 0,Ak 0,Ak 0,Ak 0,.val (.string (⟨#[]⟩:ByteArray)),Ak 0,Ak 0,Ak 0,Ak 0,.list ([]) .full,.list ([]) .full,.list ([]) .full,.list ([]) .full,.list ([]) .full,.list ([]) .full,.list ([]) .full,.list ([]) .full],[.list (af.map BH) .none]] [(2,Y.length,ab),(7,Z.length,ad),(5,p.length,C)] (Dm n a0 Y Z p=some r)) ?_ ?_
    ·intro K57 bc
     refine rg [1,2,6,8,9] hs ?_
     apply As
     refine AN (fun m e st=>∃ (E:List (ByteArray × List (ByteArray × Ex))) (t:List Ty) (aa:Int) (b:List Ex) (z:Ev.Own) (J:Ev.Own) (f:Ev.Own),Ck e st B Rw L [(1,true,.box B.length 0),(2,true,.box (B.length+1) 0),(6,true,.list (E.map CX) z),(8,true,.list (t.map EV) J),(9,true,Ak aa)] [[.val (.string a0.name),Ak a0.kind,Ak a0.schema,Ak a0.result,Ak a0.number,Ak a0.time,Ak a0.limit,.val (.string a0.text),Ak a0.type.kind,Ak a0.type.min,Ak a0.type.max,Ak a0.type.scale,.list (a0.type.words.map IL) .none,.list (a0.type.elem.map EV) .none,.list (a0.type.fields.map FM) .none,.list (a0.types.map EV) .none,.list (b.map GM) f,.list (a0.mapping.map BH) .none,.list (a0.calls.map CX) .none,.list (a0.next.map BG) .none],[.val (.string (⟨#[]⟩:ByteArray)),Ak 0,Ak 0,Ak 0,Ak 0,Ak 0,Ak 0,.val (.string (⟨#[]⟩:ByteArray)),Ak 0,Ak 0,Ak 0,Ak 0,.list ([]) .full,.list ([]) .full,.list ([]) .full,.list ([]) .full,.list ([]) .full,.list ([]) .full,.list ([]) .full,.list ([]) .full],[.list (af.map BH) .none]] [(2,E.length,z),(7,t.length,J),(5,b.length,f)] (Cc n a0 m E t aa b=some r)) n ⟨G,([]),0,i,H,.full,k,([]),Rk38,ef hs,ef hs,Owns.of_eq ((((v).swap (List.Perm.swap _ _ _)).full 7 0).swap ((List.Perm.cons _ (List.Perm.swap _ _ _)).trans (List.Perm.swap _ _ _))) Et,h⟩ ?_
     rintro ml59 e st ⟨E,t,aa,b,z,J,f,Xl59,Rl59,rfl,rfl,v,h⟩ Ul59 Vl59
     cases ml59 with
     | zero=>cases h
     | succ ml59 =>
     rw [Cc] at h
     have hU:=v.unders
     simp only [List.mem_cons,List.not_mem_nil,or_false,forall_eq_or_imp,forall_eq] at hU
     obtain ⟨a6,a3,bl⟩:=hU
     refine td hN ah ai o v ?_
     apply Am;intro K60 aw
     refine rg [1,2,6,8,9,98] hs ?_
     refine Gw h hs ?_ ?_<;>intro hs h
     rotate_left
     ·refine sx [1,2,6,8] hs bc ?_
      exact ⟨E,t,b,z,J,f,([]),Rl59,ef hs,ef hs,Owns.of_eq ((((v).swap ((List.Perm.cons _ (List.Perm.swap _ _ _)).trans (List.Perm.swap _ _ _))).swap ((List.Perm.cons _ (List.Perm.swap _ _ _)).trans (List.Perm.swap _ _ _))).swap ((List.Perm.cons _ (List.Perm.swap _ _ _)).trans (List.Perm.swap _ _ _))) Et,h⟩
     refine sk [1,2,6,8,9] hs aw ?_
     clear aw
     apply Am;intro K63 ax
     apply As
     obtain ⟨bg,bf,bh,a5,h⟩:=ix EV h
     obtain ⟨bi,ba,h⟩:=bind_some h
     obtain ⟨a2,h⟩:=An h
     have v:=v.swap (List.Perm.swap _ _ _)
     obtain ⟨bm,ak,v,Q⟩:=v.append (P:=Tryz.prog) Y7 (by rw [SV];rfl) (by decide) 1 a2.1 a2.2
     replace Q:=fun (ys:List AV) B L o2=>Q (t.map EV) ys B L o2 Et
     replace Q:=fun (y:AV) B L o2=>Q [y] B L o2 Et ev
     try simp only [List.mem_singleton,List.mem_cons,List.not_mem_nil,or_false,forall_eq_or_imp,forall_eq,List.map_append,List.map_cons,List.map_nil,Hv,Hh,Hy,G4,Hm,G5,FR,FX,Hw,D3,D9,Gf,F2,FV,Hg,FQ,He] at Q
     have hs:=Ad a5 hs
     have hs:=Ad Q hs
     refine rk 2 [1,2,6,8,9] hs ?_
     refine Ax _ (Fh w0 n _ _ _ bg 4 _ ba) (hv hs) ?_
     refine ne hs ax ?_
     clear ax
     obtain ⟨br,h⟩:=An h
     refine rl [1,2,6,8,9] hs (fun e s=>Vl59 ml59 e s (Nat.lt_succ_self _)) ?_
     exact ⟨E,(t++([bi])),(aa+1),b,z,bm,f,([]),ak,ef hs,ef hs,Owns.of_eq ((((v).swap ((List.Perm.cons _ (List.Perm.swap _ _ _)).trans (List.Perm.swap _ _ _))).swap (List.Perm.swap _ _ _)).swap ((List.Perm.cons _ (List.Perm.swap _ _ _)).trans (List.Perm.swap _ _ _))) Et,h⟩
    ·clear h;rintro e st ⟨Y,Z,p,ab,ad,C,Xk56,Rk56,rfl,rfl,v,h⟩
     rw [Dm] at h
     have hU:=v.unders
     simp only [List.mem_cons,List.not_mem_nil,or_false,forall_eq_or_imp,forall_eq] at hU
     obtain ⟨a6,a3,bl⟩:=hU
     refine td hN ah ai o v ?_
     apply Am;intro K71 au
     obtain ⟨bu,aq,h⟩:=bind_some h
     obtain ⟨F,av,h⟩:=bind_some h
     apply Jk NZ [9,11,13,15] [3,6] [1,2] kr (fun s=>∃ (X:Aq) (rows:Au) (c0:List AV),s=⟨B++([c0,[.val (.string (⟨#[]⟩:ByteArray)),Ak 0,Ak 0,Ak 0,Ak 0,Ak 0,Ak 0,.val (.string (⟨#[]⟩:ByteArray)),Ak 0,Ak 0,Ak 0,Ak 0,.list ([]) .full,.list ([]) .full,.list ([]) .full,.list ([]) .full,.list ([]) .full,.list ([]) .full,.list ([]) .full,.list ([]) .full],[.list (af.map BH) .none]]++X),rows,L⟩) 5 (B.length+3)
     ·simp +decide only [go_sem,Nat.reduceAdd]
     ·refine ⟨3,?_⟩
      rw [Ao];simp +decide only [go_sem,Nat.reduceAdd,Bd,Ty.cs_eqs a0.type,Ty.cs_eqs F]
      have hs:=Ad (Ty.cs_eqs F) hs
      (repeat' apply Ad)<;>first | refine Ax _ (GV w0 n _ _ _ a0.mapping _ aq) (hv hs) ?_ | exact cl
      rw [Ao];simp +decide only [go_sem,Nat.reduceAdd,Ty.cs_eqs a0.type,Ty.cs_eqs F]
      (repeat' apply Ad)<;>first | refine Ax _ (Fh w0 n _ _ _ a0.type 4 _ av) (hv hs) ?_ | exact cl
      rw [Ao];simp +decide only [go_sem,Nat.reduceAdd,Ty.cs_eqs a0.type,Ty.cs_eqs F]
      (repeat' apply Ad)<;>first | rfl | exact cl
     ·rintro s ⟨X,rows,c0,rfl⟩
      refine ⟨3,?_⟩
      rw [Ao];simp +decide only [go_sem,Nat.reduceAdd,Bd,List.append_eq,List.cons_append,List.nil_append,Ty.cs_eqs a0.type,Ty.cs_eqs F]
      have hs:=Ad (Ty.cs_eqs F) hs
      (repeat' apply Ad)<;>first | refine Ax _ (GV w0 n _ _ _ a0.mapping _ aq) (hv hs) ?_ | exact cl
      rw [Ao];simp +decide only [go_sem,Nat.reduceAdd,Ty.cs_eqs a0.type,Ty.cs_eqs F]
      (repeat' apply Ad)<;>first | refine Ax _ (Fh w0 n _ _ _ a0.type 4 _ av) (hv hs) ?_ | exact cl
      rw [Ao];simp +decide only [go_sem,Nat.reduceAdd,Ty.cs_eqs a0.type,Ty.cs_eqs F]
      (repeat' apply Ad)<;>first | rfl | ((repeat (first | exact .nil | refine .cons (ef hs) ?_));done) | exact cl
     ·exact gd (tg (a:=(9,11,13,15,[1,2]))) (Ad (Ty.cs_eqs F) (Ad (Ty.cs_eqs a0.type) hs))
     simp +decide only [go_sem,Nat.reduceAdd,Ty.cs_eqs a0.type,Ty.cs_eqs F]
     (repeat' apply Ad)<;>first | refine au _ _ ?_ | exact cl
     clear au
     apply Am;intro K74 a1
     obtain ⟨bs,h⟩:=An h
     obtain ⟨bp,h⟩:=An h
     obtain ⟨bq,h⟩:=An h
     apply Jk NZ [22,24,26] [1,3,8,10,15,17] [1,2] kr (fun s=>∃ (X:Aq) (rows:Au) (c0:List AV),s=⟨B++([c0,[.val (.string (⟨#[]⟩:ByteArray)),Ak 0,Ak 0,Ak 0,Ak 0,Ak 0,Ak 0,.val (.string (⟨#[]⟩:ByteArray)),Ak 0,Ak 0,Ak 0,Ak 0,.list ([]) .full,.list ([]) .full,.list ([]) .full,.list ([]) .full,.list ([]) .full,.list ([]) .full,.list ([]) .full,.list ([]) .full],[.list (af.map BH) .none]]++X),rows,L⟩) 4 (B.length+3)
     ·simp +decide only [go_sem,Nat.reduceAdd]
     ·refine ⟨1,?_⟩
      rw [Ao];simp +decide only [go_sem,Nat.reduceAdd,Bd,Ty.cs_eqs a0.type,Ty.cs_eqs F]
      (repeat' apply Ad)<;>first | rfl | exact cl
     ·rintro s ⟨X,rows,c0,rfl⟩
      refine ⟨1,?_⟩
      rw [Ao];simp +decide only [go_sem,Nat.reduceAdd,Bd,List.append_eq,List.cons_append,List.nil_append,Ty.cs_eqs a0.type,Ty.cs_eqs F]
      have hs:=Ad (Ty.cs_eqs F) hs
      (repeat' apply Ad)<;>first | rfl | ((repeat (first | exact .nil | refine .cons (ef hs) ?_));done) | exact cl
     ·exact gd (tg (a:=(22,24,26,[1,2]))) (Ad (Ty.cs_eqs F) (Ad (Ty.cs_eqs a0.type) hs))
     simp +decide only [go_sem,Nat.reduceAdd,Ty.cs_eqs a0.type,Ty.cs_eqs F]
     (repeat' apply Ad)<;>first | refine a1 _ _ ?_ | exact cl
     clear a1
     have hs:=Ad (Ty.cs_eqs F) hs
     refine rg [2] hs ?_
     exact rt h hs o v
def DJ (m:Msg):Prop:=m.stamp.2.length≤6∧m.origins.length≤6∧m.body.size≤22621∧m.body.ok
def IR (s:Slt):Prop:=(s.key.size≤22621∧s.key.ok)∧(s.items.length≤4∧∀ m∈s.items,DJ m)∧s.values.length≤4∧∀ v∈s.values,v.size≤22621∧v.ok
def H4 (s:Stt):Prop:=s.slots.length≤6∧∀ x∈s.slots,IR x
theorem Vn {α:Type} (l:List α):(0:Nat)≤0∧(0:Int)≤(if 6<(l.length:Int) then 6 else (l.length:Int))∧(if 6<(l.length:Int) then 6 else (l.length:Int))≤(l.length:Int):=by
 refine ⟨Nat.le_refl _,?_,?_⟩<;>split<;>omega
theorem VQ {α:Type} (l:List α):(l.take ((if 6<(l.length:Int) then 6 else (l.length:Int))).toNat).length≤6:=by
 rw [List.length_take];split<;>omega
theorem QL (n:Nat) (hn:100≤n) (m:Msg):∃ w,BV n m=some w∧DJ w:=by
 obtain ⟨v,e,a,b⟩:=Gl 4 n m.body (by omega) (by omega)
 have e:Az n m.body 5=some v:=e
 have a:v.size≤22621:=a
 have d:=VQ m.stamp.2
 have c:=VQ m.origins
 rw [BV,Ah (Vn _),Ab,Ah (Vn _),Ab,e,Ae]
 exact ⟨_,rfl,d,c,a,b⟩
theorem Z9 (n:Nat) (hn:100≤n) (ag:List Slt→Int→Option Stt) (j:Nat) (hj:j≤5) (x:Slt) (y:Vl) (hy:y.size≤22621∧y.ok) (f:List Slt) (hf:f.length≤5) (b8:List Msg) (h8:b8.length≤4∧∀ m∈b8,DJ m) (hag:∀ s,IR s→∃ w,ag (f++[s]) ((j:Int)+1)=some w∧H4 w) :
  ∀ (m k i:Nat) (b9:List Vl),i+k=4→k<m→b9.length=i→(∀ v∈b9,v.size≤22621∧v.ok)→∃ w,BW n ag (j:Int) x y m f (i:Int) b8 b9=some w∧H4 w
 | 0,k,i,_,_,h,_,_=>absurd h (Nat.not_lt_zero _)
 | m+1,k,i,b9,hi,hm,h9,hp=>by
  rw [BW]
  by_cases c:((decide ((i:Int)<(x.values.length:Int)))&&(decide ((i:Int)<4)))=true
  ·rw [Ah c]
   simp only [Bool.and_eq_true,decide_eq_true_eq] at c
   obtain ⟨g,l⟩:=c
   have a:i<x.values.length:=by omega
   obtain ⟨v,e,b,d⟩:=Gl 3 n x.values[i] (by omega) (by omega)
   have e:Az n x.values[i] 4=some v:=e
   have b:v.size≤1885:=b
   obtain ⟨k,rfl⟩:∃ q,k=q+1:=⟨k-1,by omega⟩
   rw [AO a,Ae,e,Ae,Ab,Ah (AW (by omega))]
   exact Z9 n hn ag j hj x y hy f hf b8 h8 hag m k (i+1) _ (by omega) (by omega) (by rw [C9];omega) (Dv hp ⟨by omega,d⟩)
  ·rw [Ai c,DU,Ab,DY,Ah (AW (by omega))]
   exact hag _ ⟨hy,h8,by simp only;omega,hp⟩
theorem ZJ (n:Nat) (hn:100≤n) (ag:List Slt→Int→Option Stt) (j:Nat) (hj:j≤5) (x:Slt) (y:Vl) (hy:y.size≤22621∧y.ok) (f:List Slt) (hf:f.length≤5) (hag:∀ s,IR s→∃ w,ag (f++[s]) ((j:Int)+1)=some w∧H4 w) :
  ∀ (m k i:Nat) (b8:List Msg),i+k=4→k<m→b8.length=i→(∀ m∈b8,DJ m)→∃ w,BZ n ag (j:Int) x y m f (i:Int) b8=some w∧H4 w
 | 0,k,i,_,_,h,_,_=>absurd h (Nat.not_lt_zero _)
 | m+1,k,i,b8,hi,hm,h8,hp=>by
  rw [BZ]
  by_cases c:((decide ((i:Int)<(x.items.length:Int)))&&(decide ((i:Int)<4)))=true
  ·rw [Ah c]
   simp only [Bool.and_eq_true,decide_eq_true_eq] at c
   obtain ⟨d,g⟩:=c
   have a:i<x.items.length:=by omega
   obtain ⟨v,e,b⟩:=QL n hn x.items[i]
   obtain ⟨k,rfl⟩:∃ q,k=q+1:=⟨k-1,by omega⟩
   rw [AO a,Ae,e,Ae,Ab,Ah (AW (by omega))]
   exact ZJ n hn ag j hj x y hy f hf hag m k (i+1) _ (by omega) (by omega) (by rw [C9];omega) (Dv hp b)
  ·rw [Ai c,D2]
   exact Z9 n hn ag j hj x y hy f hf b8 ⟨by omega,hp⟩ hag n 4 0 [] (by omega) (by omega) rfl (by simp)
theorem Ze9 (n:Nat) (hn:100≤n) (a:Stt):∀ (m k i:Nat) (f:List Slt),i+k=6→k<m→f.length=i→(∀ x∈f,IR x)→∃ w,A4 n a m f (i:Int)=some w∧H4 w
 | 0,k,i,_,_,h,_,_=>absurd h (Nat.not_lt_zero _)
 | m+1,k,i,f,hi,hm,hf,hp=>by
  rw [A4]
  by_cases c:((decide ((i:Int)<(a.slots.length:Int)))&&(decide ((i:Int)<6)))=true
  ·rw [Ah c]
   simp only [Bool.and_eq_true,decide_eq_true_eq] at c
   obtain ⟨j,l⟩:=c
   have b:i<a.slots.length:=by omega
   obtain ⟨v,e,d,g⟩:=Gl 2 n a.slots[i].key (by omega) (by omega)
   have e:Az n a.slots[i].key 3=some v:=e
   have d:v.size≤157:=d
   obtain ⟨k,rfl⟩:∃ q,k=q+1:=⟨k-1,by omega⟩
   rw [AO b,Ae,e,Ae]
   exact ZJ n hn _ i (by omega) _ v ⟨by omega,g⟩ f (by omega) (fun s hs=>Ze9 n hn a m k (i+1) _ (by omega) (by omega) (by rw [C9];omega) (Dv hp hs)) n 4 0 [] (by omega) (by omega) rfl (by simp)
  ·rw [Ai c,Eo]
   exact ⟨_,rfl,by simp only;omega,hp⟩
theorem Xt (n:Nat) (hn:100≤n) (a:Stt):∃ w,EX n a=some w∧H4 w:=Ze9 n hn a n 6 0 [] (by omega) (by omega) rfl (by simp)
def Lo (y:Nod):Prop:=y.calls.length≤4∧(∀ c∈y.calls,c.1.size≤60∧KB c.2)∧y.types.length≤8∧(∀ t∈y.types,KN 585 4 t)∧KB y.mapping∧KN 585 4 y.type∧y.name.size≤60
theorem Zjg {α:Type} (l:List α):(0:Nat)≤0∧(0:Int)≤(if 70<(l.length:Int) then 70 else (l.length:Int))∧(if 70<(l.length:Int) then 70 else (l.length:Int))≤(l.length:Int):=by
 refine ⟨Nat.le_refl _,?_,?_⟩<;>split<;>omega
theorem TV (n:Nat) (hn:100≤n) (t:Ty):∃ w,Bm n t 4=some w∧KN 585 4 w:=by
 obtain ⟨w,e,h⟩:=QB 3 n t (by omega) (by omega)
 exact ⟨w,e,h⟩
theorem ZgR (n:Nat) (hn:100≤n) (a:Nod) (cs:List (ByteArray × List (ByteArray × Ex))) (ts:List Ty) (es:List Ex) (hc:cs.length≤4∧∀ c∈cs,c.1.size≤60∧KB c.2) (ht:ts.length≤8∧∀ t∈ts,KN 585 4 t):∃ w,Dm n a cs ts es=some w∧Lo w:=by
 obtain ⟨m,e1,e⟩:=OL n (by omega) a.mapping
 obtain ⟨t,d,b⟩:=TV n hn a.type
 have f:=Jz a.name (c:=60) (by decide)
 rw [Dm,e1,Ae,d,Ae,Ah (Jp _ (by decide)),Ah (Jp _ (by decide)),Ah (Zjg _)]
 exact ⟨_,rfl,hc.1,hc.2,ht.1,ht.2,e,b,by simp only;omega⟩
theorem Z0 (n:Nat) (hn:100≤n) (a:Nod) (cs:List (ByteArray × List (ByteArray × Ex))) (es:List Ex) (hc:cs.length≤4∧∀ c∈cs,c.1.size≤60∧KB c.2) :
  ∀ (m k i:Nat) (ts:List Ty),i+k=8→k<m→ts.length=i→(∀ t∈ts,KN 585 4 t)→∃ w,Cc n a m cs ts (i:Int) es=some w∧Lo w
 | 0,k,i,_,_,h,_,_=>absurd h (Nat.not_lt_zero _)
 | m+1,k,i,ts,hi,hm,ht,hp=>by
  rw [Cc]
  by_cases c:((decide ((i:Int)<(a.types.length:Int)))&&(decide ((i:Int)<8)))=true
  ·rw [Ah c]
   simp only [Bool.and_eq_true,decide_eq_true_eq] at c
   obtain ⟨f,g⟩:=c
   have b:i<a.types.length:=by omega
   obtain ⟨t,e,d⟩:=TV n hn a.types[i]
   obtain ⟨k,rfl⟩:∃ q,k=q+1:=⟨k-1,by omega⟩
   rw [AO b,Ae,e,Ae,Ab,Ah (AW (by omega))]
   exact Z0 n hn a cs es hc m k (i+1) _ (by omega) (by omega) (by rw [C9];omega) (Dv hp d)
  ·rw [Ai c]
   exact ZgR n hn a cs ts es hc ⟨by omega,hp⟩
theorem ZaO (n:Nat) (hn:100≤n) (a:Nod) (es:List Ex) :
  ∀ (m k i:Nat) (cs:List (ByteArray × List (ByteArray × Ex))),i+k=4→k<m→cs.length=i→(∀ c∈cs,c.1.size≤60∧KB c.2)→∃ w,Cj n a m cs (i:Int) es=some w∧Lo w
 | 0,k,i,_,_,h,_,_=>absurd h (Nat.not_lt_zero _)
 | m+1,k,i,cs,hi,hm,ht,hp=>by
  rw [Cj]
  by_cases c:((decide ((i:Int)<(a.calls.length:Int)))&&(decide ((i:Int)<4)))=true
  ·rw [Ah c]
   simp only [Bool.and_eq_true,decide_eq_true_eq] at c
   obtain ⟨g,j⟩:=c
   have b:i<a.calls.length:=by omega
   obtain ⟨t,e,d⟩:=OL n (by omega) a.calls[i].2
   have f:=Jz a.calls[i].1 (c:=60) (by decide)
   obtain ⟨k,rfl⟩:∃ q,k=q+1:=⟨k-1,by omega⟩
   rw [AO b,Ae,Ah (Jp _ (by decide)),e,Ae,Ab,Ah (AW (by omega))]
   exact ZaO n hn a es m k (i+1) _ (by omega) (by omega) (by rw [C9];omega) (Dv hp ⟨by simp only;omega,d⟩)
  ·rw [Ai c,Em]
   exact Z0 n hn a cs es ⟨by omega,hp⟩ n 8 0 [] (by omega) (by omega) rfl (by simp)
theorem Zd (n:Nat) (hn:100≤n) (a:Nod) (y:List (ByteArray × Ex)) (hy:y.length≤8) :
  ∀ (m k i:Nat) (es:List Ex),i+k=8→k<m→es.length=i→∃ w,Ce n a y m (i:Int) es=some w∧Lo w
 | 0,k,i,_,_,h,_=>absurd h (Nat.not_lt_zero _)
 | m+1,k,i,es,hi,hm,ht=>by
  rw [Ce]
  by_cases c:i<y.length
  ·rw [Bv,Ag c,Ah rfl]
   obtain ⟨k,rfl⟩:∃ q,k=q+1:=⟨k-1,by omega⟩
   rw [AO c,Ae,Ab,Ah (AW (by omega))]
   exact Zd n hn a y hy m k (i+1) _ (by omega) (by omega) (by rw [C9];omega)
  ·rw [Bv,Af c,Ai (by decide),Ep]
   exact ZaO n hn a es n 4 0 [] (by omega) (by omega) rfl (by simp)
theorem Zfh (n:Nat) (hn:100≤n) (a:Nod) :
  ∀ (m k i:Nat) (es:List (ByteArray × Ex)),i+k=4→k<m→es.length=i→∃ w,CY n a m (i:Int) es=some w∧Lo w
 | 0,k,i,_,_,h,_=>absurd h (Nat.not_lt_zero _)
 | m+1,k,i,es,hi,hm,ht=>by
  rw [CY]
  by_cases c:((decide ((i:Int)<(a.exprs.length:Int)))&&(decide ((i:Int)<4)))=true
  ·rw [Ah c]
   simp only [Bool.and_eq_true,decide_eq_true_eq] at c
   obtain ⟨d,f⟩:=c
   have b:i<a.exprs.length:=by omega
   obtain ⟨k,rfl⟩:∃ q,k=q+1:=⟨k-1,by omega⟩
   rw [AO b,Ae,Ab,Ah (AW (by omega))]
   exact Zfh n hn a m k (i+1) _ (by omega) (by omega) (by rw [C9];omega)
  ·rw [Ai c,ET]
   obtain ⟨y,e,h⟩:=OL n (by omega) es
   rw [e,Ae]
   exact Zd n hn a y h.1 n 8 0 [] (by omega) (by omega) rfl
theorem Xs (n:Nat) (hn:100≤n) (a:Nod):∃ w,Ff n a=some w∧Lo w:=Zfh n hn a n 4 0 [] (by omega) (by omega) rfl
theorem Zf2 {a b:ByteArray} (h:a.data.toList=b.data.toList):a=b:=by
 cases a;cases b;simp at h;rw [h]
theorem WO:∀ a b:List UInt8,Lib.compareBytes a b=0→a=b
 | [],[],_=>rfl
 | [],_::_,h=>absurd (show (-1:Int)=0 from h) (by decide)
 | _::_,[],h=>absurd (show (1:Int)=0 from h) (by decide)
 | x::a,y::b,h=>by
  simp only [Lib.compareBytes] at h
  by_cases h1:x<y
  ·simp [h1] at h
  ·by_cases h2:y<x
   ·simp [h1,h2] at h
   ·simp only [h1,h2,if_false] at h
    rw [WO a b h]
    have:x=y:=by
     rw [UInt8.lt_iff_toNat_lt] at h1 h2
     exact UInt8.toNat_inj.1 (by omega)
    rw [this]
theorem Qz (a b:ByteArray):Q3 a b=0↔a=b:=by
 unfold Q3
 constructor
 ·intro h;exact Zf2 (WO _ _ h)
 ·rintro rfl;exact WV _
theorem JS {α:Type} (l m:List α) (i:Nat) (h1:i<l.length) (h2:i<m.length):l.drop i=m.drop i↔l[i]=m[i]∧l.drop (i+1)=m.drop (i+1):=by
 rw [List.drop_eq_getElem_cons h1,List.drop_eq_getElem_cons h2,List.cons.injEq]
theorem ZC {n:Nat} (h:n≤1048576):n≤maxLen:=by unfold maxLen;omega
theorem Vl.ext' {a b:Vl} (h1:a.kind=b.kind) (h2:a.int=b.int) (h3:a.scale=b.scale) (h4:a.text=b.text) (h5:a.list=b.list) (h6:a.fields=b.fields):a=b:=by
 rw [←a.eta,←b.eta,h1,h2,h3,h4,h5,h6]
theorem TF.ext' {p q:TF} (h1:p.1=q.1) (h2:p.2.1=q.2.1) (h3:p.2.2.1=q.2.2.1) (h4:p.2.2.2.1=q.2.2.2.1) (h5:p.2.2.2.2=q.2.2.2.2):p=q:=by
 obtain ⟨a,b,c,d,e⟩:=p
 obtain ⟨f,j,g,h,i⟩:=q
 simp only at h1 h2 h3 h4 h5
 rw [h1,h2,h3,h4,h5]
theorem Ty.ext' {a b:Ty} (h1:a.kind=b.kind) (h2:a.min=b.min) (h3:a.max=b.max) (h4:a.scale=b.scale) (h5:a.words=b.words) (h6:a.elem=b.elem) (h7:a.fields=b.fields):a=b:=by
 rw [←a.eta,←b.eta,h1,h2,h3,h4,h5,h6,h7]
def BN (b:Vl):Bool :=
 (((((decide (b.kind=0))&&(decide (b.int=0)))&&(decide (b.scale=0)))&&(MA b.text (⟨#[]⟩:ByteArray)))&&(decide ((b.list.length:Int)=0)))&&(decide ((b.fields.length:Int)=0))
theorem SY (w0:World) (B:Aq) (Rw:Au) (L:Av) (a0:Vl) (r:Bool) (h:BN a0=r) :
  ACalls Tryz.prog w0 47 [.agg (a0.cs)] ⟨B,Rw,L⟩ fun x st=>x = .val (.bool r)∧st=⟨B,Rw,L⟩:=by
 rw [BN] at h
 refine hd [.tmp 2] Tryz.func47 Tryz.ntmps47 fun M0 W0 e b d a f c hs=>?_
 simp only [AL]
 refine rg [1] hs ?_
 refine rg [2] hs ?_
 exact rT h hs a c
theorem IE (w0:World) (B:Aq) (Rw:Au) (L:Av) (a0:Vl) :
  ACalls Tryz.prog w0 47 [.agg (a0.cs)] ⟨B,Rw,L⟩ fun x st=>x = .val (.bool (BN a0))∧st=⟨B,Rw,L⟩:=SY w0 B Rw L a0 _ rfl
def BD (b:Int) (q:Int) (h:Int):Int :=
 if (decide (b<q))||(decide (h<b)) then
  2
 else
  0
theorem RN (w0:World) (B:Aq) (Rw:Au) (L:Av) (a0:Int) (a1:Int) (a2:Int) (r:Int) (h:BD a0 a1 a2=r) :
  ACalls Tryz.prog w0 109 [Ak a0,Ak a1,Ak a2] ⟨B,Rw,L⟩ fun x st=>x=Ak r∧st=⟨B,Rw,L⟩:=by
 rw [BD] at h
 refine hd [.tmp 6] Tryz.func109 Tryz.ntmps109 fun M0 W0 e c d b g f hs=>?_
 simp only [AL]
 exact go (tg (a:=([0,1,2],[14],([6],()),[],[6],()))) h hs e c d b f trivial trivial
theorem E5 (w0:World) (B:Aq) (Rw:Au) (L:Av) (a0:Int) (a1:Int) (a2:Int) :
  ACalls Tryz.prog w0 109 [Ak a0,Ak a1,Ak a2] ⟨B,Rw,L⟩ fun x st=>x=Ak (BD a0 a1 a2)∧st=⟨B,Rw,L⟩:=RN w0 B Rw L a0 a1 a2 _ rfl
def Ey (b:Vl):Int :=
 BD b.int 0 1
theorem R9 (w0:World) (B:Aq) (Rw:Au) (L:Av) (a0:Vl) (r:Int) (h:Ey a0=r) :
  ACalls Tryz.prog w0 108 [.agg (a0.cs)] ⟨B,Rw,L⟩ fun x st=>x=Ak r∧st=⟨B,Rw,L⟩:=by
 rw [Ey] at h
 refine hd [.tmp 2] Tryz.func108 Tryz.ntmps108 fun M0 W0 e c d b g f hs=>?_
 simp only [AL]
 exact go (tg (a:=([1],[2],()))) h hs e c d b f (q1 (E5 w0)) trivial
theorem Qa (w0:World) (B:Aq) (Rw:Au) (L:Av) (a0:Vl) :
  ACalls Tryz.prog w0 108 [.agg (a0.cs)] ⟨B,Rw,L⟩ fun x st=>x=Ak (Ey a0)∧st=⟨B,Rw,L⟩:=R9 w0 B Rw L a0 _ rfl
def B2 (b:Int) (q:Int) (h:Int):Int :=
 if decide (q<b) then
  h
 else
  0
theorem XW (w0:World) (B:Aq) (Rw:Au) (L:Av) (a0:Int) (a1:Int) (a2:Int) (r:Int) (h:B2 a0 a1 a2=r) :
  ACalls Tryz.prog w0 114 [Ak a0,Ak a1,Ak a2] ⟨B,Rw,L⟩ fun x st=>x=Ak r∧st=⟨B,Rw,L⟩:=by
 rw [B2] at h
 refine hd [.tmp 6] Tryz.func114 Tryz.ntmps114 fun M0 W0 e c d b g f hs=>?_
 simp only [AL]
 exact go (tg (a:=([0,1,2],[2,9],([6],()),[],[6],()))) h hs e c d b f trivial trivial
theorem Hq (w0:World) (B:Aq) (Rw:Au) (L:Av) (a0:Int) (a1:Int) (a2:Int) :
  ACalls Tryz.prog w0 114 [Ak a0,Ak a1,Ak a2] ⟨B,Rw,L⟩ fun x st=>x=Ak (B2 a0 a1 a2)∧st=⟨B,Rw,L⟩:=XW w0 B Rw L a0 a1 a2 _ rfl
def Ge (b:Vl):Option Int :=
 if b.text.size≤maxLen then
  if !(It b.text) then
   some (12)
  else
   if decide ((b.list.length:Int)=0) then
    some (4)
   else
    some (B2 (b.list.length:Int) 1 3)
 else none
theorem P4 (w0:World) (B:Aq) (Rw:Au) (L:Av) (a0:Vl) (r:Int) (h:Ge a0=some r) :
  ACalls Tryz.prog w0 122 [.agg (a0.cs)] ⟨B,Rw,L⟩ fun x st=>x=Ak r∧st=⟨B,Rw,L⟩:=by
 rw [Ge] at h
 refine hd [.tmp 2] Tryz.func122 Tryz.ntmps122 fun M0 W0 e c d b g f hs=>?_
 simp only [AL]
 exact go (tg (a:=([1],[1,3],([2],()),[1,8],([2],()),[1],[2],()))) h hs e c d b f (q2 (Qw w0) (Hq w0)) trivial
def EA (b:Vl):Int :=
 BD b.int ((-999999999999999)) 999999999999999
theorem Rj (w0:World) (B:Aq) (Rw:Au) (L:Av) (a0:Vl) (r:Int) (h:EA a0=r) :
  ACalls Tryz.prog w0 110 [.agg (a0.cs)] ⟨B,Rw,L⟩ fun x st=>x=Ak r∧st=⟨B,Rw,L⟩:=by
 rw [EA] at h
 refine hd [.tmp 2] Tryz.func110 Tryz.ntmps110 fun M0 W0 e c d b g f hs=>?_
 simp only [AL]
 exact go (tg (a:=([1],[2],()))) h hs e c d b f (q1 (E5 w0)) trivial
theorem P0 (w0:World) (B:Aq) (Rw:Au) (L:Av) (a0:Vl) :
  ACalls Tryz.prog w0 110 [.agg (a0.cs)] ⟨B,Rw,L⟩ fun x st=>x=Ak (EA a0)∧st=⟨B,Rw,L⟩:=Rj w0 B Rw L a0 _ rfl
def IM (n:Nat)  : Option Int :=
 some (0)
def Fz (n:Nat) (q:List Int):Nat→Int→Option Int
 | 0,_=>none
 | m+1,b =>
  if decide (b<(q.length:Int)) then
   (Gg q b).bind fun h =>
   if !(decide (h=0)) then
    some (h)
   else
    if Bj (b+1) then
     (Fz n q m) (b+1)
    else none
  else
   IM n 
def IB (n:Nat) (b:List Int):Option Int :=
 Fz n b n 0
theorem Vm (w0:World) (n:Nat) (B:Aq) (Rw:Au) (L:Av) (a0:List Int) (r:Int) (h:IB n a0=some r) :
  ACalls Tryz.prog w0 112 [.list (a0.map BG) .none] ⟨B,Rw,L⟩ fun x st=>x=Ak r∧st=⟨B,Rw,L⟩:=by
 rw [IB] at h
 refine hd [.tmp 2] Tryz.func112 Tryz.ntmps112 fun M0 W0 j g f b k d hs=>?_
 simp only [AL]
 refine rg [0] hs ?_
 refine AZ (fun e st=>Ck e st B Rw L [] [] [] (IM n  = some r)) ?_ ?_
 ·intro K4 i
  refine rg [5,6,7] hs ?_
  apply As
  refine AN (fun m e st=>∃ (c:Int),Ck e st B Rw L [(5,true,.list (a0.map BG) .none),(6,true,Ak (a0.length:Int)),(7,true,Ak c)] [] [] (Fz n a0 m c=some r)) n ⟨0,([]),Rw,ef hs,ef hs,d,h⟩ ?_
  rintro ml6 e st ⟨c,Xl6,Rl6,rfl,rfl,d,h⟩ Ul6 Vl6
  cases ml6 with
  | zero=>cases h
  | succ ml6 =>
  rw [Fz] at h
  exact go (tg (a:=([5,6,7,8],([5,6,7],[4,5,6,7],[4,5,6,7,12],([2],()),[5,6,7],[5,6,7],()),[],()))) h hs j g f b d trivial (q2 i (fun e s=>Vl6 ml6 e s (Nat.lt_succ_self _)))
 ·clear h;rintro e st ⟨Xk3,Rk3,rfl,rfl,d,h⟩
  rw [IM] at h
  refine td j g f b d ?_
  refine rg [2] hs ?_
  exact rt h hs b d
def GB (n:Nat) (b:Vl):Option Int :=
 (IB n ([BD b.int ((-999999999999999)) 999999999999999,BD b.scale 0 12])).bind fun h =>
 some (h)
theorem Su (w0:World) (n:Nat) (B:Aq) (Rw:Au) (L:Av) (a0:Vl) (r:Int) (h:GB n a0=some r) :
  ACalls Tryz.prog w0 111 [.agg (a0.cs)] ⟨B,Rw,L⟩ fun x st=>x=Ak r∧st=⟨B,Rw,L⟩:=by
 rw [GB] at h
 refine hd [.tmp 2] Tryz.func111 Tryz.ntmps111 fun M0 W0 e c d b g f hs=>?_
 simp only [AL]
 exact go (tg (a:=([1],[9,2],()))) h hs e c d b f (q2 (E5 w0) (Vm w0 n)) trivial
def EW  (b:Int):Option Int :=
 some (b)
def Gx (b:Vl):Option Int :=
 if decide ((B2 (b.text.size:Int) 1024 5)=0) then
  if b.text.size≤maxLen then
   if !(Lib.validD b.text.data.toList) then
    EW  16
   else
    EW  (B2 (b.text.size:Int) 1024 5)
  else none
 else
  EW  (B2 (b.text.size:Int) 1024 5)
theorem Rt (w0:World) (hT:Lib.Utf8Tabs 1 2 w0) (B:Aq) (Rw:Au) (L:Av) (a0:Vl) (r:Int) (h:Gx a0=some r) :
  ACalls Tryz.prog w0 113 [.agg (a0.cs)] ⟨B,Rw,L⟩ fun x st=>x=Ak r∧st=⟨B,Rw,L⟩:=by
 rw [Gx] at h
 refine hd [.tmp 2] Tryz.func113 Tryz.ntmps113 fun M0 W0 k d f b l i hs=>?_
 simp only [AL]
 refine rg [1] hs ?_
 refine rc 2 [1,3] hs ?_;intro K2 g
 refine Ax _ (Hq w0 _ _ _ (a0.text.size:Int) 1024 5) (hv hs) ?_
 refine ne hs g ?_
 clear g
 refine AZ (fun e st=>∃ (c:Int),Ck e st B Rw L [(3,true,Ak c)] [a0.cs] [] (EW  c=some r)) ?_ ?_
 ·intro K5 j
  exact go (tg (a:=(([3,15],([3],()),[3],()),[3,15],[3],()))) h hs k d f b i (q1 (OD w0)) (q1 j)
 ·clear h;rintro e st ⟨c,Xk4,Rk4,rfl,rfl,i,h⟩
  rw [EW] at h
  refine td k d f b i ?_
  refine rg [2] hs ?_
  exact rt h hs b i
def EG (b:Vl):Int :=
 B2 (b.text.size:Int) 1024 5
theorem Rz (w0:World) (B:Aq) (Rw:Au) (L:Av) (a0:Vl) (r:Int) (h:EG a0=r) :
  ACalls Tryz.prog w0 116 [.agg (a0.cs)] ⟨B,Rw,L⟩ fun x st=>x=Ak r∧st=⟨B,Rw,L⟩:=by
 rw [EG] at h
 refine hd [.tmp 2] Tryz.func116 Tryz.ntmps116 fun M0 W0 e c d b g f hs=>?_
 simp only [AL]
 exact go (tg (a:=([1],[2],()))) h hs e c d b f (q1 (Hq w0)) trivial
theorem PS (w0:World) (B:Aq) (Rw:Au) (L:Av) (a0:Vl) :
  ACalls Tryz.prog w0 116 [.agg (a0.cs)] ⟨B,Rw,L⟩ fun x st=>x=Ak (EG a0)∧st=⟨B,Rw,L⟩:=Rz w0 B Rw L a0 _ rfl
def EF (b:Vl):Int :=
 BD b.int ((-719162)) 2932896
theorem Rx (w0:World) (B:Aq) (Rw:Au) (L:Av) (a0:Vl) (r:Int) (h:EF a0=r) :
  ACalls Tryz.prog w0 117 [.agg (a0.cs)] ⟨B,Rw,L⟩ fun x st=>x=Ak r∧st=⟨B,Rw,L⟩:=by
 rw [EF] at h
 refine hd [.tmp 2] Tryz.func117 Tryz.ntmps117 fun M0 W0 e c d b g f hs=>?_
 simp only [AL]
 exact go (tg (a:=([1],[2],()))) h hs e c d b f (q1 (E5 w0)) trivial
theorem PU (w0:World) (B:Aq) (Rw:Au) (L:Av) (a0:Vl) :
  ACalls Tryz.prog w0 117 [.agg (a0.cs)] ⟨B,Rw,L⟩ fun x st=>x=Ak (EF a0)∧st=⟨B,Rw,L⟩:=Rx w0 B Rw L a0 _ rfl
def EE (b:Vl):Int :=
 BD b.int ((-62135596800000)) 253402300799999
theorem RO (w0:World) (B:Aq) (Rw:Au) (L:Av) (a0:Vl) (r:Int) (h:EE a0=r) :
  ACalls Tryz.prog w0 118 [.agg (a0.cs)] ⟨B,Rw,L⟩ fun x st=>x=Ak r∧st=⟨B,Rw,L⟩:=by
 rw [EE] at h
 refine hd [.tmp 2] Tryz.func118 Tryz.ntmps118 fun M0 W0 e c d b g f hs=>?_
 simp only [AL]
 exact go (tg (a:=([1],[2],()))) h hs e c d b f (q1 (E5 w0)) trivial
theorem P9 (w0:World) (B:Aq) (Rw:Au) (L:Av) (a0:Vl) :
  ACalls Tryz.prog w0 118 [.agg (a0.cs)] ⟨B,Rw,L⟩ fun x st=>x=Ak (EE a0)∧st=⟨B,Rw,L⟩:=RO w0 B Rw L a0 _ rfl
def ED (b:Vl):Int :=
 B2 (b.list.length:Int) 256 9
theorem Ro (w0:World) (B:Aq) (Rw:Au) (L:Av) (a0:Vl) (r:Int) (h:ED a0=r) :
  ACalls Tryz.prog w0 119 [.agg (a0.cs)] ⟨B,Rw,L⟩ fun x st=>x=Ak r∧st=⟨B,Rw,L⟩:=by
 rw [ED] at h
 refine hd [.tmp 2] Tryz.func119 Tryz.ntmps119 fun M0 W0 e c d b g f hs=>?_
 simp only [AL]
 exact go (tg (a:=([1],[2],()))) h hs e c d b f (q1 (Hq w0)) trivial
theorem P8 (w0:World) (B:Aq) (Rw:Au) (L:Av) (a0:Vl) :
  ACalls Tryz.prog w0 119 [.agg (a0.cs)] ⟨B,Rw,L⟩ fun x st=>x=Ak (ED a0)∧st=⟨B,Rw,L⟩:=Ro w0 B Rw L a0 _ rfl
def GU (n:Nat)  : Option Int :=
 some (0)
def CU (n:Nat) (y:Vl):Nat→Int→Option Int
 | 0,_=>none
 | m+1,b =>
  if decide (b<(y.fields.length:Int)) then
   (Gg y.fields b).bind fun h =>
   if h.1.size≤maxLen then
    if !(It h.1) then
     some (12)
    else
     if decide (0<b) then
      if Bj (b-1) then
       (Gg y.fields (b-1)).bind fun q =>
       if MA h.1 q.1 then
        some (7)
       else
        if Bj (b-1) then
         if YI h.1 q.1 then
          some (24)
         else
          if Bj (b+1) then
           (CU n y m) (b+1)
          else none
        else none
      else none
     else
      if Bj (b+1) then
       (CU n y m) (b+1)
      else none
   else none
  else
   GU n 
def GG (n:Nat) (b:Vl):Option Int :=
 if !(decide ((B2 (b.fields.length:Int) 64 9)=0)) then
  some (B2 (b.fields.length:Int) 64 9)
 else
  CU n b n 0
theorem Sz (w0:World) (n:Nat) (B:Aq) (Rw:Au) (L:Av) (a0:Vl) (r:Int) (h:GG n a0=some r) :
  ACalls Tryz.prog w0 120 [.agg (a0.cs)] ⟨B,Rw,L⟩ fun x st=>x=Ak r∧st=⟨B,Rw,L⟩:=by
 rw [GG] at h
 refine hd [.tmp 2] Tryz.func120 Tryz.ntmps120 fun M0 W0 l f i c o d hs=>?_
 simp only [AL]
 refine rg [1] hs ?_
 apply Am;intro K2 j
 refine rc 2 [1,3] hs ?_;intro K3 g
 refine Ax _ (Hq w0 _ _ _ (a0.fields.length:Int) 64 9) (hv hs) ?_
 refine ne hs g ?_
 clear g
 refine rg [1,3,11] hs ?_
 refine Gw h hs ?_ ?_<;>intro hs h
 ·refine rg [2] hs ?_
  exact rt h hs c d
 refine sk [1] hs j ?_
 clear j
 refine AZ (fun e st=>Ck e st B Rw L [] [a0.cs] [] (GU n  = some r)) ?_ ?_
 ·intro K9 k
  refine rg [1,14,15,16] hs ?_
  apply As
  refine AN (fun m e st=>∃ (b:Int),Ck e st B Rw L [(1,true,.box B.length 0),(14,true,.list (a0.fields.map ID) .none),(15,true,Ak (a0.fields.length:Int)),(16,true,Ak b)] [a0.cs] [] (CU n a0 m b=some r)) n ⟨0,([]),Rw,ef hs,ef hs,d,h⟩ ?_
  rintro ml11 e st ⟨b,Xl11,Rl11,rfl,rfl,d,h⟩ Ul11 Vl11
  cases ml11 with
  | zero=>cases h
  | succ ml11 =>
  rw [CU] at h
  exact go (tg (a:=([1,14,15,16,17],([1,14,15,16],[1,4,5,14,15,16],[1,4,5,14,15,16,21],([2],()),([15,1,4,5,14,15,16,26],([2],()),[15,1,14,15,16,41],([2],()),[1,14,15,16],[1,14,15,16],()),[15,1,4,5,14,15,16,26],[15,1,14,15,16,41],[1,14,15,16],[1,14,15,16],()),[],()))) h hs l f i c d (q1 (Qw w0)) (q2 k (fun e s=>Vl11 ml11 e s (Nat.lt_succ_self _)))
 ·clear h;rintro e st ⟨Xk8,Rk8,rfl,rfl,d,h⟩
  rw [GU] at h
  refine td l f i c d ?_
  refine rg [2] hs ?_
  exact rt h hs c d
def H9 (b:Vl):Bool :=
 (((((((((decide (b.kind=1))||(decide (b.kind=2)))||(decide (b.kind=6)))||(decide (b.kind=7)))||(decide (b.kind=3)))||(decide (b.int=0)))&&((decide (b.kind=3))||(decide (b.scale=0))))&&((((decide (b.kind=4))||(decide (b.kind=5)))||(decide (b.kind=10)))||(MA b.text (⟨#[]⟩:ByteArray))))&&(((decide (b.kind=8))||(decide (b.kind=10)))||(decide ((b.list.length:Int)=0))))&&((decide (b.kind=9))||(decide ((b.fields.length:Int)=0)))
theorem XM (w0:World) (B:Aq) (Rw:Au) (L:Av) (a0:Vl) (r:Bool) (h:H9 a0=r) :
  ACalls Tryz.prog w0 77 [.agg (a0.cs)] ⟨B,Rw,L⟩ fun x st=>x = .val (.bool r)∧st=⟨B,Rw,L⟩:=by
 rw [H9] at h
 refine hd [.tmp 2] Tryz.func77 Tryz.ntmps77 fun M0 W0 e c d b g f hs=>?_
 simp only [AL]
 exact go (tg (a:=([1],[1,3],[1,3,4],[1,3,4,5],[2],()))) h (al hs) e c d b f trivial trivial
theorem VT (w0:World) (B:Aq) (Rw:Au) (L:Av) (a0:Vl) :
  ACalls Tryz.prog w0 77 [.agg (a0.cs)] ⟨B,Rw,L⟩ fun x st=>x = .val (.bool (H9 a0))∧st=⟨B,Rw,L⟩:=XM w0 B Rw L a0 _ rfl
def Be (n:Nat)  : List (Nat × Vl)→Int→Option Int
 | [],b3_r7 =>
  some (0)
 | p_r7::rest,b3_r7 =>
  if Bj (b3_r7+1) then
   if decide (4096<(b3_r7+1)) then
    some (9)
   else
    if decide (8<(p_r7.1:Int)) then
     some (23)
    else
     if BN p_r7.2 then
      some (19)
     else
      if (decide (p_r7.2.kind<1))||(decide (10<p_r7.2.kind)) then
       some (11)
      else
       if !(H9 p_r7.2) then
        some (3)
       else
        if decide (p_r7.2.kind=0) then
         none
        else
         if decide (p_r7.2.kind=1) then
          if !(decide ((Ey p_r7.2)=0)) then
           some (Ey p_r7.2)
          else
           (Be n rest) (b3_r7+1)
         else
          if decide (p_r7.2.kind=2) then
           if !(decide ((EA p_r7.2)=0)) then
            some (EA p_r7.2)
           else
            (Be n rest) (b3_r7+1)
          else
           if decide (p_r7.2.kind=3) then
            (GB n p_r7.2).bind fun q =>
            if !(decide (q=0)) then
             some (q)
            else
             (Be n rest) (b3_r7+1)
           else
            if decide (p_r7.2.kind=4) then
             (Gx p_r7.2).bind fun h =>
             if !(decide (h=0)) then
              some (h)
             else
              (Be n rest) (b3_r7+1)
            else
             if decide (p_r7.2.kind=5) then
              if !(decide ((EG p_r7.2)=0)) then
               some (EG p_r7.2)
              else
               (Be n rest) (b3_r7+1)
             else
              if decide (p_r7.2.kind=6) then
               if !(decide ((EF p_r7.2)=0)) then
                some (EF p_r7.2)
               else
                (Be n rest) (b3_r7+1)
              else
               if decide (p_r7.2.kind=7) then
                if !(decide ((EE p_r7.2)=0)) then
                 some (EE p_r7.2)
                else
                 (Be n rest) (b3_r7+1)
               else
                if decide (p_r7.2.kind=8) then
                 if !(decide ((ED p_r7.2)=0)) then
                  some (ED p_r7.2)
                 else
                  (Be n rest) (b3_r7+1)
                else
                 if decide (p_r7.2.kind=9) then
                  (GG n p_r7.2).bind fun b =>
                  if !(decide (b=0)) then
                   some (b)
                  else
                   (Be n rest) (b3_r7+1)
                 else
                  if decide (p_r7.2.kind=10) then
                   (Ge p_r7.2).bind fun y =>
                   if !(decide (y=0)) then
                    some (y)
                   else
                    (Be n rest) (b3_r7+1)
                  else
                   none
  else none
def FD (n:Nat) (b:Vl):Option Int :=
 if b.depth<4611686018427387904∧b.wide=true then
  Be n (FZ 1 b) 0
 else none
theorem Lj (w0:World) (hT:Lib.Utf8Tabs 1 2 w0) (n:Nat) (B:Aq) (Rw:Au) (L:Av) (a0:Vl) (r:Int) (h:FD n a0=some r) :
  ACalls Tryz.prog w0 46 [.agg (a0.cs)] ⟨B,Rw,L⟩ fun x st=>x=Ak r∧st=⟨B,Rw,L⟩:=by
 rw [FD] at h
 refine hd [.cell 2 41] Tryz.func46 Tryz.ntmps46 fun M0 W0 o g f b hu k hs=>?_
 simp only [AL]
 refine rg [1,2] hs ?_
 apply Am;intro K2 af
 apply Ar 2 [1,2,3]
 rw [Ao];simp +decide only [go_sem,Nat.reduceAdd,OR]
 (repeat' apply Ad)<;>first | refine Ax _ (Z3 w0 _ _ _ ) (by first | rfl | (simp +decide only [go_sem,Nat.reduceAdd,OR];done) | (simp +decide only [go_sem,Nat.reduceAdd,Vl.cs,Ty.cs,OR];done)) ?_ | exact cl
 rw [Ao];simp +decide only [go_sem,Nat.reduceAdd,OR]
 (repeat' apply Ad)<;>first | refine af _ _ ?_ | exact cl
 clear af
 refine rg [1,2,3,4] hs ?_
 apply Am;intro K4 y
 refine rc 2 [2,3,4,10] hs ?_;intro K5 U
 refine T8 _ (SQ w0 _ _ _ a0) (hv hs) ?_;rintro _ _ ⟨rfl,rfl⟩
 refine ne hs U ?_
 clear U
 apply As
 obtain ⟨ai,h⟩:=An h
 refine Yw (Hj a0) (fun st=>st.boxes[(B.length+4)]? = some a0.cs) (fun i st=>∃ (d:Int) (Rr7:Au),st=⟨B++([a0.cs,[Ak 0],[.val .nilFunc,.clo 108 [],.clo 110 [],.clo 111 [],.clo 113 [],.clo 116 [],.clo 117 [],.clo 118 [],.clo 119 [],.clo 120 [],.clo 122 []],[Ak d],a0.cs]),Rr7,L⟩∧Owns Rw Rr7 []∧Be n ((FZ 1 a0).drop i) d=some r) (fun ex st=>ex = .ret∧∃ (z0:List AV) (z2:List AV) (z3:List AV) (z4:List AV) (rows:Au),st=⟨B++[z0,[Ak r],z2,z3,z4],rows,L⟩∧Owns Rw rows []) ev ev (P7 w0 a0 ai _) (fun x Q=>VD a0 x Q) (by decide) ?_ ⟨0,Rw,ef hs,k,h⟩ (fun _ _ h => .inl h.1) ?_ ?_ ?_
 ·rintro i st la ⟨d,Rr7,rfl,k,h⟩ _ _;simp +decide [St.push]
 ·rintro i s1 ⟨XB,XR,XL⟩ x M1 W1 l la Y hX hI aj ag Q O K hK
  obtain ⟨c,ah,rfl,hi⟩:=Wg a0 i x Q
  (try simp only at hX)
  subst hX
  obtain ⟨d,Rr7,rfl,k,h⟩:=hI
  rw [ZaH ah,Be] at h
  have m:=k
  simp only [St.ext,St.push,List.append_assoc,List.append_nil]
  refine rg [2,3,4,5,12] hs ?_
  apply Ar 1 [2,3,4,5,6]
  rw [Ao];simp +decide only [go_sem,Nat.reduceAdd]
  (repeat' apply Ad)<;>first | refine hK _ _ (by simp [St.ext,St.push]) (fun KQ aa=>?_) | exact cl
  clear hK
  dsimp only [St.ext,St.push]
  have kr:∀ (e:Env) (x:Int),x=r→∀ G,KQ .ret e ⟨B++(a0.cs::[Ak x]::[.val .nilFunc,.clo 108 [],.clo 110 [],.clo 111 [],.clo 113 [],.clo 116 [],.clo 117 [],.clo 118 [],.clo 119 [],.clo 120 [],.clo 122 []]::[Ak (d+1)]::a0.cs::(XB++G)),Rr7,L++Y::XL⟩:=by
   intro e x Q G
   rw [Q]
   exact aa _ _ _ ⟨⟨B++[a0.cs,[Ak r],[.val .nilFunc,.clo 108 [],.clo 110 [],.clo 111 [],.clo 113 [],.clo 116 [],.clo 117 [],.clo 118 [],.clo 119 [],.clo 120 [],.clo 122 []],[Ak (d+1)],a0.cs],Rr7,L⟩,G,by simp only [List.append_assoc,List.cons_append,List.nil_append],⟨by simp,by first | exact Nat.le_refl _ | (have:=k.len;simp;omega),rfl⟩,rfl,⟨rfl,_,_,_,_,Rr7,rfl,k.sub (List.nil_sublist _)⟩,.inr (PC O m k rfl (ln k m) ap_ ow)⟩
  have p:∀ (e:Env) (G:Aq),Be n ((FZ 1 a0).drop (i+1)) (d+1)=some r→KQ .normal e ⟨B++(a0.cs::[Ak 0]::[.val .nilFunc,.clo 108 [],.clo 110 [],.clo 111 [],.clo 113 [],.clo 116 [],.clo 117 [],.clo 118 [],.clo 119 [],.clo 120 [],.clo 122 []]::[Ak (d+1)]::a0.cs::(XB++G)),Rr7,L++Y::XL⟩:=fun e G h=>aa _ _ _ ⟨⟨B++[a0.cs,[Ak 0],[.val .nilFunc,.clo 108 [],.clo 110 [],.clo 111 [],.clo 113 [],.clo 116 [],.clo 117 [],.clo 118 [],.clo 119 [],.clo 120 [],.clo 122 []],[Ak (d+1)],a0.cs],Rr7,L⟩,G,by simp only [List.append_assoc,List.cons_append,List.nil_append],⟨by simp,by first | exact Nat.le_refl _ | (have:=k.len;simp;omega),rfl⟩,rfl,⟨(d+1),Rr7,rfl,k,h⟩,.inr (PC O m k rfl (ln k m) ap_ ow)⟩
  apply As
  obtain ⟨ak,h⟩:=An h
  refine rg [2,3,4,5,6] hs ?_
  apply Am;intro K11 q
  apply As
  refine rg [2,3,5,6,15] hs ?_
  refine Gw h hs ?_ ?_<;>intro hs h
  ·have z:=hs.1
   exact go (tg (a:=([2],()))) h hs o g f b k trivial (q2 kr p)
  have z:=hs.1
  refine rg [2,3,6,18] hs ?_
  refine Gw h hs ?_ ?_<;>intro hs h
  ·have w:=hs.1
   exact go (tg (a:=([2],()))) h hs o g f b k trivial (q2 kr p)
  have w:=hs.1
  refine rc 2 [2,3,6,21] hs ?_;intro K18 t
  refine Ax _ (IE w0 _ _ _ c.2) (hv hs) ?_
  refine ne hs t ?_
  clear t
  refine Gw h hs ?_ ?_<;>intro hs h
  ·have H:=hs.1
   exact go (tg (a:=([2],()))) h hs o g f b k trivial (q2 kr p)
  have H:=hs.1
  refine rg [2,3,6,24] hs ?_
  refine Gw h hs ?_ ?_<;>intro hs h
  ·have ab:=hs.1
   exact go (tg (a:=([2],()))) h hs o g f b k trivial (q2 kr p)
  have ab:=hs.1
  refine rc 2 [2,3,6,33] hs ?_;intro K24 u
  refine Ax _ (VT w0 _ _ _ c.2) (hv hs) ?_
  refine ne hs u ?_
  clear u
  refine Gw h hs ?_ ?_<;>intro hs h
  ·have J:=hs.1
   exact go (tg (a:=([2],()))) h hs o g f b k trivial (q2 kr p)
  have J:=hs.1
  refine sk [2,3,6] hs q ?_
  clear q
  apply Am;intro K27 j
  rcases Bool.eq_false_or_eq_true (decide (c.2.kind=0)) with hf28 | hf28
  ·replace h:=Eh h hf28
   have am:c.2.kind=0:=of_decide_eq_true hf28
   cases h
  ·replace h:=Eg h hf28
   rcases Bool.eq_false_or_eq_true (decide (c.2.kind=1)) with hf30 | hf30
   ·replace h:=Eh h hf30
    have E:c.2.kind=1:=of_decide_eq_true hf30
    exact go (tg (a:=([7,2,7],[2,7,44],([2],()),([]:List Nat),()))) h (Ad E (Ad hf30 (Ad hf28 hs))) o g f b k (q1 (Qa w0)) (q3 kr p j)
   ·replace h:=Eg h hf30
    rcases Bool.eq_false_or_eq_true (decide (c.2.kind=2)) with hf35 | hf35
    ·replace h:=Eh h hf35
     have N:c.2.kind=2:=of_decide_eq_true hf35
     exact go (tg (a:=([7,2,7],[2,7,44],([2],()),([]:List Nat),()))) h (Ad N (Ad hf35 (Ad hf30 (Ad hf28 hs)))) o g f b k (q1 (P0 w0)) (q3 kr p j)
    ·replace h:=Eg h hf35
     rcases Bool.eq_false_or_eq_true (decide (c.2.kind=3)) with hf40 | hf40
     ·replace h:=Eh h hf40
      have D:c.2.kind=3:=of_decide_eq_true hf40
      exact go (tg (a:=([7,2,7],[2,7,44],([2],()),([]:List Nat),()))) h (Ad D (Ad hf40 (Ad hf35 (Ad hf30 (Ad hf28 hs))))) o g f b k (q1 (Su w0 n)) (q3 kr p j)
     ·replace h:=Eg h hf40
      rcases Bool.eq_false_or_eq_true (decide (c.2.kind=4)) with hf46 | hf46
      ·replace h:=Eh h hf46
       have F:c.2.kind=4:=of_decide_eq_true hf46
       exact go (tg (a:=([7,2,7],[2,7,44],([2],()),([]:List Nat),()))) h (Ad F (Ad hf46 (Ad hf40 (Ad hf35 (Ad hf30 (Ad hf28 hs)))))) o g f b k (q1 (Rt w0 hT)) (q3 kr p j)
      ·replace h:=Eg h hf46
       rcases Bool.eq_false_or_eq_true (decide (c.2.kind=5)) with hf52 | hf52
       ·replace h:=Eh h hf52
        have ae:c.2.kind=5:=of_decide_eq_true hf52
        exact go (tg (a:=([7,2,7],[2,7,44],([2],()),([]:List Nat),()))) h (Ad ae (Ad hf52 (Ad hf46 (Ad hf40 (Ad hf35 (Ad hf30 (Ad hf28 hs))))))) o g f b k (q1 (PS w0)) (q3 kr p j)
       ·replace h:=Eg h hf52
        rcases Bool.eq_false_or_eq_true (decide (c.2.kind=6)) with hf57 | hf57
        ·replace h:=Eh h hf57
         have C:c.2.kind=6:=of_decide_eq_true hf57
         exact go (tg (a:=([7,2,7],[2,7,44],([2],()),([]:List Nat),()))) h (Ad C (Ad hf57 (Ad hf52 (Ad hf46 (Ad hf40 (Ad hf35 (Ad hf30 (Ad hf28 hs)))))))) o g f b k (q1 (PU w0)) (q3 kr p j)
        ·replace h:=Eg h hf57
         rcases Bool.eq_false_or_eq_true (decide (c.2.kind=7)) with hf62 | hf62
         ·replace h:=Eh h hf62
          have V:c.2.kind=7:=of_decide_eq_true hf62
          exact go (tg (a:=([7,2,7],[2,7,44],([2],()),([]:List Nat),()))) h (Ad V (Ad hf62 (Ad hf57 (Ad hf52 (Ad hf46 (Ad hf40 (Ad hf35 (Ad hf30 (Ad hf28 hs))))))))) o g f b k (q1 (P9 w0)) (q3 kr p j)
         ·replace h:=Eg h hf62
          rcases Bool.eq_false_or_eq_true (decide (c.2.kind=8)) with hf67 | hf67
          ·replace h:=Eh h hf67
           have Z:c.2.kind=8:=of_decide_eq_true hf67
           exact go (tg (a:=([7,2,7],[2,7,44],([2],()),([]:List Nat),()))) h (Ad Z (Ad hf67 (Ad hf62 (Ad hf57 (Ad hf52 (Ad hf46 (Ad hf40 (Ad hf35 (Ad hf30 (Ad hf28 hs)))))))))) o g f b k (q1 (P8 w0)) (q3 kr p j)
          ·replace h:=Eg h hf67
           rcases Bool.eq_false_or_eq_true (decide (c.2.kind=9)) with hf72 | hf72
           ·replace h:=Eh h hf72
            have ad:c.2.kind=9:=of_decide_eq_true hf72
            exact go (tg (a:=([7,2,7],[2,7,44],([2],()),([]:List Nat),()))) h (Ad ad (Ad hf72 (Ad hf67 (Ad hf62 (Ad hf57 (Ad hf52 (Ad hf46 (Ad hf40 (Ad hf35 (Ad hf30 (Ad hf28 hs))))))))))) o g f b k (q1 (Sz w0 n)) (q3 kr p j)
           ·replace h:=Eg h hf72
            rcases Bool.eq_false_or_eq_true (decide (c.2.kind=10)) with hf78 | hf78
            ·replace h:=Eh h hf78
             have v:c.2.kind=10:=of_decide_eq_true hf78
             exact go (tg (a:=([7,2,7],[2,7,44],([2],()),([]:List Nat),()))) h (Ad v (Ad hf78 (Ad hf72 (Ad hf67 (Ad hf62 (Ad hf57 (Ad hf52 (Ad hf46 (Ad hf40 (Ad hf35 (Ad hf30 (Ad hf28 hs)))))))))))) o g f b k (q1 (P4 w0)) (q3 kr p j)
            ·replace h:=Eg h hf78
             cases h
 ·rintro s la ⟨XB,XR,XL⟩ hXR ⟨d,Rr7,rfl,k,h⟩ _ _
  simp only at hXR
  subst hXR
  rw [List.drop_eq_nil_of_le (by rw [PT];exact Nat.le_refl _),Be] at h
  simp only [St.ext,St.push,List.append_assoc,List.append_nil]
  (repeat' apply Ad)<;>first | refine y _ _ ?_ | exact cl
  clear y
  refine X2 (bs:=[a0.cs,[Ak 0],[.val .nilFunc,.clo 108 [],.clo 110 [],.clo 111 [],.clo 113 [],.clo 116 [],.clo 117 [],.clo 118 [],.clo 119 [],.clo 120 [],.clo 122 []],[Ak d],a0.cs]) o g f rfl b k ow ow ?_
  refine rg [2] hs ?_
  exact rt h hs b k
 ·rintro ex s la ⟨XB,XR,XL⟩ hXR ⟨rfl,z0,z2,z3,z4,rows,rfl,k⟩ _ _
  simp only at hXR
  subst hXR
  simp only [St.ext,St.push,List.append_assoc,List.append_nil]
  simp +decide only [go_sem,Nat.reduceAdd]
  (repeat' with_reducible apply Ad)<;>first | refine ZjR b rfl k.pre ev ⟨?_,rfl⟩ | (intros;omega) | (intros;simp_all;done)
  first | rfl | (simp +decide only [go_sem,Nat.reduceAdd];done)
def BA (b:Int) (q:Int) (h:Int):Bool :=
 (decide (b<q))||(decide (h<b))
def DL (b:Vl):Bool :=
 (((((!((((decide (1≤b.kind))&&(decide (b.kind≤3)))||(decide (b.kind=6)))||(decide (b.kind=7))))&&(!(decide (b.int=0))))||((!(decide (b.kind=3)))&&(!(decide (b.scale=0)))))||((!(((decide (b.kind=4))||(decide (b.kind=5)))||(decide (b.kind=10))))&&(!(MA b.text (⟨#[]⟩:ByteArray)))))||((!((decide (b.kind=8))||(decide (b.kind=10))))&&(decide (0<(b.list.length:Int)))))||((!(decide (b.kind=9)))&&(decide (0<(b.fields.length:Int))))
def Ub (b:Ty) (q:Int) (h:Int):Bool :=
 ((decide (q≤b.min))&&(decide (b.max≤h)))&&(decide (b.min≤b.max))
def Ku (b:Int) (h:Bool):(Int × Int) :=
 if h then
  (0,1024)
 else
  if decide (b=6) then
   ((-719162),2932896)
  else
   if decide (b=7) then
    ((-62135596800000),253402300799999)
   else
    (0,256)
def Mc (b:Int) (h:Bool):(Int × Int) :=
 if h then
  ((-999999999999999),999999999999999)
 else
  if decide (b=4) then
   Ku b true
  else
   Ku b (decide (b=5))
def NG (b:Int):(Int × Int) :=
 if decide (b=2) then
  Mc b true
 else
  Mc b (decide (b=3))
def T0 (b:Ty):Bool :=
 (((((!(decide (2≤b.kind)&&decide (b.kind≤8)))&&((!(decide (b.min=0)))||(!(decide (b.max=0)))))||((!(decide (b.kind=3)))&&(!(decide (b.scale=0)))))||((!(decide (b.kind=4)))&&(decide (0<(b.words.length:Int)))))||((!(decide (b.kind=8)))&&(decide (0<(b.elem.length:Int)))))||(((!(decide (b.kind=9)))&&(!(decide (b.kind=10))))&&(decide (0<(b.fields.length:Int))))
theorem JP {j:Nat}:((j+1:Nat):Int)-1=(j:Int):=by omega
theorem LY {j:Nat}:decide (0<((j+1:Nat):Int))=true:=Ag (by omega)
theorem LN {k:Nat} (h:k<1000000000000):Bj (k:Int):=by unfold Bj;omega
def Yl:Option ByteArray→List ByteArray→Int
 | _,[]=>0
 | none,x::r=>if It x=true then Yl (some x) r else 12
 | some p,x::r=>if It x=true then (if MA x p=true then 7 else if YI x p=true then 24 else Yl (some x) r) else 12
def Wl (l:List (ByteArray × Vl)):Nat→Option ByteArray
 | 0=>none
 | i+1=>(l[i]?).map Prod.fst
theorem W9 (n:Nat) (v:Vl) (hl:(v.fields).length≤1000000000000) (hz:∀ p∈v.fields,p.1.size≤maxLen):∀ (k m i:Nat),i+k=(v.fields).length→k<m→CU n v m i=some (Yl (Wl (v.fields) i) (((v.fields).map Prod.fst).drop i))
 | k,0,i,_,h=>absurd h (Nat.not_lt_zero _)
 | 0,m+1,i,hi,_=>by
  rw [CU,Bv,Ac]
  simp only [Bool.false_eq_true,if_false,GU]
  rw [List.drop_eq_nil_of_le (by rw [List.length_map];omega)]
  cases Wl (v.fields) i<;>rfl
 | k+1,m+1,i,hi,hm=>by
  have a:i<(v.fields).length:=by omega
  have ih:=W9 n v hl hz k m (i+1) (by omega) (by omega)
  rw [CU,Bv,Ag a]
  simp only [if_true,AO a,Ae]
  rw [Ah (hz _ (List.getElem_mem a)),List.drop_eq_getElem_cons (by rw [List.length_map];omega),List.getElem_map]
  have c:Wl (v.fields) (i+1)=some (v.fields)[i].1:=by simp only [Wl,List.getElem?_eq_getElem a];rfl
  rw [c] at ih
  cases i with
  | zero =>
   simp only [Wl,Yl]
   by_cases hb:It (v.fields)[0].1=true
   ·rw [Ah hb,hb]
    simp only [Bool.not_true,Bool.false_eq_true,if_false]
    rw [Ai (by decide),Ah (AW (by omega))]
    exact ih
   ·rw [Ai hb,Bool.eq_false_iff.2 hb];rfl
  | succ j =>
   have b:j<(v.fields).length:=by omega
   have e:Wl (v.fields) (j+1)=some (v.fields)[j].1:=by simp only [Wl,List.getElem?_eq_getElem b];rfl
   rw [e]
   simp only [Yl]
   by_cases hb:It (v.fields)[j+1].1=true
   ·rw [Ah hb,hb]
    simp only [Bool.not_true,Bool.false_eq_true,if_false,LY,if_true,JP]
    have d:Bj (j:Int):=LN (by omega)
    simp only [Ah d,AO b,Ae]
    by_cases h1:MA (v.fields)[j+1].1 (v.fields)[j].1=true
    ·rw [Ah h1,Ah h1]
    ·rw [Ai h1,Ai h1]
     by_cases h2:YI (v.fields)[j+1].1 (v.fields)[j].1=true
     ·rw [Ah h2,Ah h2]
     ·rw [Ai h2,Ai h2,Ah (AW (by omega))]
      exact ih
   ·rw [Ai hb,Bool.eq_false_iff.2 hb];rfl
def Eu (v:Vl):Int :=
 if BN v=true then 19
 else if v.kind<1∨10<v.kind then 11
 else if DL v=true then 3
 else if v.kind=1 then (if BA v.int 0 1=true then 2 else 0)
 else if v.kind=2 then (if BA v.int (-999999999999999) 999999999999999=true∨BA v.scale 0 12=true then 2 else 0)
 else if v.kind=3 then (if BA v.int (-999999999999999) 999999999999999=true∨BA v.scale 0 12=true then 2 else 0)
 else if v.kind=4 then (if 1024<v.text.size then 5 else if Lib.validD v.text.data.toList=true then 0 else 16)
 else if v.kind=5 then (if 1024<v.text.size then 5 else 0)
 else if v.kind=6 then (if BA v.int (-719162) 2932896=true then 2 else 0)
 else if v.kind=7 then (if BA v.int (-62135596800000) 253402300799999=true then 2 else 0)
 else if v.kind=8 then (if 256<v.list.length then 9 else 0)
 else if v.kind=9 then (if 64<v.fields.length then 9 else Yl none (v.fields.map Prod.fst))
 else if It v.text=true then (if v.list.length=0 then 4 else if 1<v.list.length then 3 else 0) else 12
theorem Om {k:Int} (h:¬ (k<1∨10<k)):k=1∨k=2∨k=3∨k=4∨k=5∨k=6∨k=7∨k=8∨k=9∨k=10:=by omega
theorem Zdw (v:Vl) (h:¬ (v.kind<1∨10<v.kind)):H9 v = !DL v:=by
 have a:∀ x:Nat,decide (0<(x:Int)) = !decide ((x:Int)=0):=fun x=>by
  by_cases h:x=0
  ·subst h;rfl
  ·rw [Ag (show 0<(x:Int) by omega),Af (show ¬ (x:Int)=0 by omega)];rfl
 rw [H9,DL]
 simp only [a]
 rcases Om h with hk | hk | hk | hk | hk | hk | hk | hk | hk | hk<;>simp only [hk]<;>simp [Bool.and_assoc]
theorem Zgx (n:Nat) (hn:3≤n) (a b:Int):IB n [a,b]=some (if a=0 then b else a):=by
 obtain ⟨m,rfl⟩:∃ m,n=m+3:=⟨n-3,by omega⟩
 rw [IB,Fz]
 simp only [List.length_cons,List.length_nil]
 rw [Ah (by simp),show Gg [a,b] 0=some a from rfl]
 simp only [Ae]
 by_cases h:a=0
 ·rw [Ag h,Ai (by decide),Ah (by decide),Ah h,Fz]
  simp only [List.length_cons,List.length_nil]
  rw [Ah (by simp),show Gg [a,b] (0+1)=some b from rfl]
  simp only [Ae]
  by_cases h2:b=0
  ·rw [Ag h2,Ai (by decide),Ah (by decide),Fz]
   simp only [List.length_cons,List.length_nil]
   rw [Ai (by simp),IM,h2]
  ·rw [Af h2,Ah (by decide)]
 ·rw [Af h,Ah (by decide),Ai h]
theorem Za5 (n:Nat) (hn:3≤n) (v:Vl) (hfl:v.fields.length<n) (hs:v.fields.length≤1000000000000) (hv:v.ok) (h1:¬ BN v=true) (h2:¬ (v.kind<1∨10<v.kind)) (h3:¬ DL v=true) :
  (v.kind=1→Ey v=Eu v)∧(v.kind=2→EA v=Eu v)∧(v.kind=3→GB n v=some (Eu v))∧(v.kind=4→Gx v=some (Eu v))∧(v.kind=5→EG v=Eu v) ∧
  (v.kind=6→EF v=Eu v)∧(v.kind=7→EE v=Eu v)∧(v.kind=8→ED v=Eu v)∧(v.kind=9→GG n v=some (Eu v))∧(v.kind=10→Ge v=some (Eu v)):=by
 obtain ⟨i,_,d⟩:=v.ok_eq.1 hv
 have g:∀ p∈v.fields,p.1.size≤maxLen:=fun p f=>ZC (by have:=(d p f).1;omega)
 have c:v.text.size≤maxLen:=ZC i
 rw [Eu,Ai h1,Ai h2,Ai h3]
 refine ⟨fun a=>?_,fun a=>?_,fun a=>?_,fun a=>?_,fun a=>?_,fun a=>?_,fun a=>?_,fun a=>?_,fun a=>?_,fun a=>?_⟩
 ·simp [a,Ey,BD,BA]
 ·have b:v.scale=0:=by
   rw [DL] at h3
   simp [a] at h3
   exact h3.1.1.1
  simp [a,b,EA,BD,BA]
 ·rw [GB,Zgx n hn]
  simp [a,BD,BA]
  by_cases q:v.int < -999999999999999∨999999999999999<v.int
  ·simp [q];omega
  ·simp [q];omega
 ·rw [Gx]
  simp only [a,B2,EW,Ah c]
  simp
  (repeat' split)<;>first | rfl | (exfalso;omega) | simp_all
 ·simp [a,EG,B2]
  (repeat' split)<;>first | rfl | (exfalso;omega) | simp_all
 ·simp [a,EF,BD,BA]
 ·simp [a,EE,BD,BA]
 ·simp [a,ED,B2]
  (repeat' split)<;>first | rfl | (exfalso;omega) | simp_all
 ·rw [GG]
  by_cases h:64<v.fields.length
  ·simp [a,B2,h,show (64:Int)<(v.fields.length:Int) by omega]
  ·have e:=W9 n v hs g v.fields.length n 0 (by omega) hfl
   simp only [List.drop_zero] at e
   simp only [a,B2,Af (show ¬ (64:Int)<(v.fields.length:Int) by omega),Bool.false_eq_true,if_false,decide_true,Bool.not_true,Ai h]
   exact e
 ·rw [Ge,Ah c]
  simp only [a,B2]
  simp
  (repeat' split)<;>first | rfl | (exfalso;omega) | simp_all
theorem Zdk (n:Nat) (hn:3≤n) (lv:Nat) (v:Vl) (rest:List (Nat × Vl)) (c:Int) (hfl:v.fields.length<n) (hs:v.fields.length≤1000000000000) (hv:v.ok) :
  Be n ((lv,v)::rest) c=if Bj (c+1) then (if 4096<c+1 then some 9 else if 8<(lv:Int) then some 23 else if Eu v=0 then Be n rest (c+1) else some (Eu v)) else none:=by
 rw [Be]
 by_cases hI:Bj (c+1)
 rotate_left
 ·rw [Ai hI,Ai hI]
 rw [Ah hI,Ah hI]
 by_cases q1:4096<c+1
 ·rw [Ah q1,Ah (Ag q1)]
 rw [Ai q1,Ai (by simpa using q1)]
 by_cases q2:8<(lv:Int)
 ·rw [Ah q2,Ah (Ag q2)]
 rw [Ai q2,Ai (by simpa using q2)]
 simp only
 by_cases h1:BN v=true
 ·have:Eu v=19:=by rw [Eu,Ah h1]
  rw [Ah h1,this];rfl
 rw [Ai h1]
 by_cases h2:v.kind<1∨10<v.kind
 ·have:Eu v=11:=by rw [Eu,Ai h1,Ah h2]
  rw [Ah (by simpa using h2),this];rfl
 rw [Ai (by simpa using h2),Zdw v h2]
 by_cases h3:DL v=true
 ·have:Eu v=3:=by rw [Eu,Ai h1,Ai h2,Ah h3]
  rw [h3,this];rfl
 rw [Bool.eq_false_iff.2 h3]
 obtain ⟨f,l,g,b,h,i,j,k,d,a⟩:=Za5 n hn v hfl hs hv h1 h2 h3
 rcases Om h2 with hk | hk | hk | hk | hk | hk | hk | hk | hk | hk
 ·have e:=f hk;by_cases z:Eu v=0<;>simp [hk,e,z]
 ·have e:=l hk;by_cases z:Eu v=0<;>simp [hk,e,z]
 ·have e:=g hk;by_cases z:Eu v=0<;>simp [hk,e,z]
 ·have e:=b hk;by_cases z:Eu v=0<;>simp [hk,e,z]
 ·have e:=h hk;by_cases z:Eu v=0<;>simp [hk,e,z]
 ·have e:=i hk;by_cases z:Eu v=0<;>simp [hk,e,z]
 ·have e:=j hk;by_cases z:Eu v=0<;>simp [hk,e,z]
 ·have e:=k hk;by_cases z:Eu v=0<;>simp [hk,e,z]
 ·have e:=d hk;by_cases z:Eu v=0<;>simp [hk,e,z]
 ·have e:=a hk;by_cases z:Eu v=0<;>simp [hk,e,z]
def QI:List (Nat × Vl)→Int→Int
 | [],_=>0
 | p::r,c=>if 4096<c+1 then 9 else if 8<(p.1:Int) then 23 else if Eu p.2=0 then QI r (c+1) else Eu p.2
def Yn (v:Vl):Int:=QI (FZ 1 v) 0
theorem Qu {v x:Vl} (h:x∈CL v):x∈v.list∨∃ p∈v.fields,p.2=x:=by
 unfold CL at h
 split at h
 ·exact .inl h
 ·split at h
  ·obtain ⟨p,a,rfl⟩:=List.mem_map.1 h;exact .inr ⟨p,a,rfl⟩
  ·simp at h
theorem OC {v x:Vl} (h:x∈CL v):x.size<v.size:=by
 rcases Qu h with h | ⟨p,hp,rfl⟩
 ·exact v.list_size x h
 ·exact v.field_size p hp
theorem Zx {v x:Vl} (hv:v.ok) (h:x∈CL v):x.ok:=by
 obtain ⟨_,b,a⟩:=v.ok_eq.1 hv
 rcases Qu h with h | ⟨p,hp,rfl⟩
 ·exact b x h
 ·exact (a p hp).2
theorem ZQ:∀ (k:Nat) (v:Vl) (lv:Nat),v.size≤k→v.ok→∀ p∈FZ lv v,p.2.ok∧p.2.size≤v.size
 | 0,v,lv,h,hv,p,hp=>absurd h (by have:=v.size_eq;omega)
 | k+1,v,lv,h,hv,p,hp=>by
  rw [NY] at hp
  rcases List.mem_cons.1 hp with rfl | hp
  ·exact ⟨hv,Nat.le_refl _⟩
  ·obtain ⟨x,a,hp⟩:=List.mem_flatMap.1 hp
   have:=OC a
   obtain ⟨b,c⟩:=ZQ k x (lv+1) (by omega) (Zx hv a) p hp
   exact ⟨b,by omega⟩
theorem TM:∀ (k:Nat) (v:Vl) (lv:Nat),v.size≤k→v.wide=true→∀ p∈FZ lv v,p.2.wide=true
 | 0,v,lv,h,hv,p,hp=>absurd h (by have:=v.size_eq;omega)
 | k+1,v,lv,h,hv,p,hp=>by
  rw [NY] at hp
  rcases List.mem_cons.1 hp with rfl | hp
  ·exact hv
  ·obtain ⟨x,a,hp⟩:=List.mem_flatMap.1 hp
   have:=OC a
   exact TM k x (lv+1) (by omega) (Qr hv a) p hp
theorem QG (v:Vl):v.fields.length<v.size:=by have:=IY v.fields;have:=v.size_eq;omega
theorem Qp (n:Nat) (hn:3≤n):∀ (l:List (Nat × Vl)) (c:Int),(∀ p∈l,p.2.ok∧p.2.fields.length≤1000000000000∧p.2.fields.length<n)→0≤c→c≤4096→Be n l c=some (QI l c)
 | [],c,_,_,_=>rfl
 | p::r,c,hl,h1,h2=>by
  obtain ⟨b,e,d⟩:=hl p (List.mem_cons_self ..)
  have:=QG p.2
  rw [show p=(p.1,p.2) from rfl,Zdk n hn p.1 p.2 r c (by omega) (by omega) b,Ah (by unfold Bj;omega),QI]
  simp only
  split
  ·rfl
  ·split
   ·rfl
   ·split
    ·exact Qp n hn r (c+1) (fun q a=>hl q (List.mem_cons_of_mem _ a)) (by omega) (by omega)
    ·rfl
theorem VN (n:Nat) (v:Vl) (hn:v.size+3≤n) (hs:v.depth<4611686018427387904) (hw:v.wide=true) (hv:v.ok):FD n v=some (Yn v):=by
 rw [FD,Ah ⟨hs,hw⟩]
 exact Qp n (by omega) _ 0 (fun p a=>by obtain ⟨b,c⟩:=ZQ v.size v 1 (Nat.le_refl _) hv p a;exact ⟨b,(p.2.wide_iff.1 (TM v.size v 1 (Nat.le_refl _) hw p a)).2.1,by have:=QG p.2;omega⟩) (by omega) (by omega)
theorem M9 (n:Nat) (v:Vl) (hn:v.size+3≤n) (hs:v.size<1048576) (hv:v.ok):FD n v=some (Yn v) :=
 VN n v hn (by have:=v.depth_size;omega) (IH _ v (Nat.le_refl _) (by omega)) hv
def TI (b:Int × ByteArray × Int × Ty × List Vl) (h:Int × ByteArray × Int × Ty × List Vl):Bool :=
 (MA b.2.1 h.2.1)||(decide (b.1=h.1))
def Zet (x:ByteArray):Int:=Yn (Vl.mk 4 0 0 x [] [])
def Zgi:Option ByteArray→List ByteArray→Int
 | _,[]=>0
 | none,x::r=>if Zet x=0 then Zgi (some x) r else Zet x
 | some p,x::r=>if Zet x=0 then (if MA x p=true then 7 else if YI x p=true then 24 else Zgi (some x) r) else Zet x
def Zbt (t:Ty):Int:=if t.min≠0∨t.max≠0 then 3 else if 64<t.words.length then 9 else Zgi none t.words
def Zfp (k:Int) (b:List TF) (x:TF):Int :=
 if It x.2.1=true then
  if ¬ (1≤x.1∧x.1≤9999) then 2
  else if (b.any fun q=>TI q x)=true then 7
  else if ¬ (1≤x.2.2.1∧x.2.2.1≤3)∨(k=10∧x.2.2.1≠1) then 11
  else if x.2.2.1=3∧x.2.2.2.2.length=0 then 4
  else if 1<x.2.2.2.2.length∨(x.2.2.1≠3∧0<x.2.2.2.2.length) then 3
  else 0
 else 12
def ZH (k:Int):List TF→List TF→Int
 | _,[]=>0
 | b,x::r=>if Zfp k b x=0 then ZH k (b++[x]) r else Zfp k b x
def ZlY (t:Ty):Int :=
 if t.kind<1∨10<t.kind then 11
 else if T0 t=true then 3
 else if t.kind=4∧0<t.words.length then Zbt t
 else if ((2≤t.kind∧t.kind≤8)∧Ub t (NG t.kind).1 (NG t.kind).2=false)∨¬ (0≤t.scale∧t.scale≤12) then 2
 else if (t.kind=8∧t.elem.length=0)∨(t.kind=10∧t.fields.length=0) then 4
 else if 1<t.elem.length then 3
 else if 64<t.fields.length then 9
 else ZH t.kind [] t.fields
inductive Ty.Good:Ty→Prop
 | mk (t:Ty) (h:ZlY t=0) (he:∀ x∈t.elem,Ty.Good x) (hf:∀ p∈t.fields,Ty.Good p.2.2.2.1):Ty.Good t
inductive Vl.Good:Vl→Prop
 | mk (v:Vl) (h:Eu v=0) (hp:∀ x∈CL v,Vl.Good x):Vl.Good v
theorem Tt:∀ (l:List (Nat × Vl)) (c:Int),QI l c=0→∀ p∈l,Eu p.2=0
 | [],_,_,p,hp=>by simp at hp
 | q::r,c,h,p,hp=>by
  rw [QI] at h
  split at h
  ·cases h
  ·split at h
   ·cases h
   ·split at h
    ·rename_i h0
     rcases List.mem_cons.1 hp with rfl | hp
     ·exact h0
     ·exact Tt r (c+1) h p hp
    ·rename_i h0;exact absurd h h0
theorem XA {v:Vl} (h:Eu v=0):¬ (v.kind<1∨10<v.kind)∧¬ DL v=true:=by
 rw [Eu] at h
 by_cases h1:BN v=true
 ·rw [Ah h1] at h;exact absurd h (by decide)
 rw [Ai h1] at h
 by_cases h2:v.kind<1∨10<v.kind
 ·rw [Ah h2] at h;exact absurd h (by decide)
 rw [Ai h2] at h
 by_cases h3:DL v=true
 ·rw [Ah h3] at h;exact absurd h (by decide)
 exact ⟨h2,h3⟩
def H3 (n:Nat)  : Option Int :=
 some (0)
def Du (n:Nat) (q:List Int):Nat→Int→Option Int
 | 0,_=>none
 | m+1,b =>
  if decide (b<(q.length:Int)) then
   (Gg q b).bind fun h =>
   if !(decide (h=0)) then
    some (h)
   else
    if Bj (b+1) then
     (Du n q m) (b+1)
    else none
  else
   H3 n 
def EN (n:Nat) (b:List Int):Option Int :=
 Du n b n 0
theorem H6 (w0:World) (n:Nat) (B:Aq) (Rw:Au) (L:Av) (a0:List Int) (r:Int) (h:EN n a0=some r) :
  ACalls Tryz.prog w0 71 [.list (a0.map BG) .none] ⟨B,Rw,L⟩ fun x st=>x=Ak r∧st=⟨B,Rw,L⟩:=by
 rw [EN] at h
 refine hd [.tmp 2] Tryz.func71 Tryz.ntmps71 fun M0 W0 j f g c k d hs=>?_
 simp only [AL]
 refine rg [0] hs ?_
 refine rg [0,3] hs ?_
 refine AZ (fun e st=>Ck e st B Rw L [(3,true,Ak 0)] [] [] (H3 n  = some r)) ?_ ?_
 ·intro K5 i
  refine rg [3,6,7,8] hs ?_
  apply As
  refine AN (fun m e st=>∃ (b:Int),Ck e st B Rw L [(3,true,Ak 0),(6,true,.list (a0.map BG) .none),(7,true,Ak (a0.length:Int)),(8,true,Ak b)] [] [] (Du n a0 m b=some r)) n ⟨0,([]),Rw,ef hs,ef hs,d,h⟩ ?_
  rintro ml7 e st ⟨b,Xl7,Rl7,rfl,rfl,d,h⟩ Ul7 Vl7
  cases ml7 with
  | zero=>cases h
  | succ ml7 =>
  rw [Du] at h
  exact go (tg (a:=([3,6,7,8,9],([3,6,7,8],[3,5,6,7,8],[3,5,6,7,8,14],([2],()),[3,6,7,8],[3,6,7,8],()),[3],()))) h hs j f g c d trivial (q2 i (fun e s=>Vl7 ml7 e s (Nat.lt_succ_self _)))
 ·clear h;rintro e st ⟨Xk4,Rk4,rfl,rfl,d,h⟩
  rw [H3] at h
  refine td j f g c d ?_
  refine rg [2] hs ?_
  exact rt h hs c d
def Cd (n:Nat) (b:List (ByteArray × Vl)) (h:List (ByteArray × Vl)):Option Int :=
 if decide ((b.length:Int)<(h.length:Int)) then
  some ((-1))
 else
  some (0)
def A8 (n:Nat) (q:List (ByteArray × Vl)) (y:List (ByteArray × Vl)) (a2:(ByteArray × Vl)→(ByteArray × Vl)→Option Int):Nat→Int→Option Int
 | 0,_=>none
 | m+1,b =>
  if decide (b<(q.length:Int)) then
   (Gg q b).bind fun x12 =>
   if decide ((y.length:Int)≤b) then
    some (1)
   else
    (Gg y b).bind fun x18 =>
    (a2 x12 x18).bind fun h =>
    if !(decide (h=0)) then
     some (h)
    else
     if Bj (b+1) then
      (A8 n q y a2 m) (b+1)
     else none
  else
   Cd n q y 
def CO (n:Nat) (b:List (ByteArray × Vl)) (q:List (ByteArray × Vl)) (h:(ByteArray × Vl)→(ByteArray × Vl)→Option Int):Option Int :=
 A8 n b q h n 0
theorem Is (w0:World) (n:Nat) (B:Aq) (Rw:Au) (L:Av) (a0:List (ByteArray × Vl)) (a1:List (ByteArray × Vl)) (fa2:FuncId) (ca2:List AV) (a2:(ByteArray × Vl)→(ByteArray × Vl)→Option Int) (ha2:∀ (x0:ByteArray × Vl) (x1:ByteArray × Vl) r,a2 x0 x1=some r→∀ B' rows,B <+: B'→Rw <+: rows→ACalls Tryz.prog w0 fa2 ([.agg (.val (.string x0.1)::(x0.2.cs)),.agg (.val (.string x1.1)::(x1.2.cs))]++ca2) ⟨B',rows,L⟩ fun v s=>v=Ak r∧s=⟨B',rows,L⟩) (r:Int) (h:CO n a0 a1 a2=some r) :
  ACalls Tryz.prog w0 79 [.list (a0.map ID) .none,.list (a1.map ID) .none,.clo fa2 ca2] ⟨B,Rw,L⟩ fun x st=>x=Ak r∧st=⟨B,Rw,L⟩:=by
 rw [CO] at h
 refine hd [.tmp 6] Tryz.func79 Tryz.ntmps79 fun M0 W0 j i g b l f hs=>?_
 simp only [AL]
 have c:=Fv (l (.clo fa2 ca2) (by simp))
 refine rg [0,1,2] hs ?_
 refine AZ (fun e st=>Ck e st B Rw L [(0,true,.list (a0.map ID) .none),(1,true,.list (a1.map ID) .none)] [] [] (Cd n a0 a1  = some r)) ?_ ?_
 ·intro K4 k
  refine rg [0,1,2,11,12,13] hs ?_
  apply As
  refine AN (fun m e st=>∃ (d:Int),Ck e st B Rw L [(0,true,.list (a0.map ID) .none),(1,true,.list (a1.map ID) .none),(2,true,.clo fa2 ca2),(11,true,.list (a0.map ID) .none),(12,true,Ak (a0.length:Int)),(13,true,Ak d)] [] [] (A8 n a0 a1 a2 m d=some r)) n ⟨0,([]),Rw,ef hs,ef hs,f,h⟩ ?_
  rintro ml6 e st ⟨d,Xl6,Rl6,rfl,rfl,f,h⟩ Ul6 Vl6
  cases ml6 with
  | zero=>cases h
  | succ ml6 =>
  rw [A8] at h
  refine D7 j i g rfl b f (QU c f) (QU c f) ?_
  exact go (tg (a:=([0,1,2,11,12,13,14],([0,1,2,11,12,13],[0,1,2,7,8,11,12,13],[0,1,2,7,8,11,12,13,21],([6],()),[0,1,2,7,8,11,12,13],[0,1,2,8,9,11,12,13],[0,1,2,10,11,12,13],[0,1,2,10,11,12,13,31],([6],()),[0,1,2,11,12,13],[0,1,2,11,12,13],()),[0,1],()))) h hs j i g b f (q1 ha2) (q2 k (fun e s=>Vl6 ml6 e s (Nat.lt_succ_self _)))
 ·clear h;rintro e st ⟨Xk3,Rk3,rfl,rfl,f,h⟩
  rw [Cd] at h
  refine D7 j i g rfl b f (QU c f) (QU c f) ?_
  exact go (tg (a:=([38],([6],()),[],[6],()))) h hs j i g b f trivial trivial
def B9 (n:Nat) (b:List Vl) (h:List Vl):Option Int :=
 if decide ((b.length:Int)<(h.length:Int)) then
  some ((-1))
 else
  some (0)
def A6 (n:Nat) (q:List Vl) (y:List Vl) (a2:Vl→Vl→Option Int):Nat→Int→Option Int
 | 0,_=>none
 | m+1,b =>
  if decide (b<(q.length:Int)) then
   (Gg q b).bind fun x12 =>
   if decide ((y.length:Int)≤b) then
    some (1)
   else
    (Gg y b).bind fun x18 =>
    (a2 x12 x18).bind fun h =>
    if !(decide (h=0)) then
     some (h)
    else
     if Bj (b+1) then
      (A6 n q y a2 m) (b+1)
     else none
  else
   B9 n q y 
def CM (n:Nat) (b:List Vl) (q:List Vl) (h:Vl→Vl→Option Int):Option Int :=
 A6 n b q h n 0
theorem Ia (w0:World) (n:Nat) (B:Aq) (Rw:Au) (L:Av) (a0:List Vl) (a1:List Vl) (fa2:FuncId) (ca2:List AV) (a2:Vl→Vl→Option Int) (ha2:∀ (x0:Vl) (x1:Vl) r,a2 x0 x1=some r→∀ B' rows,B <+: B'→Rw <+: rows→ACalls Tryz.prog w0 fa2 ([.agg (x0.cs),.agg (x1.cs)]++ca2) ⟨B',rows,L⟩ fun v s=>v=Ak r∧s=⟨B',rows,L⟩) (r:Int) (h:CM n a0 a1 a2=some r) :
  ACalls Tryz.prog w0 78 [.list (a0.map C4) .none,.list (a1.map C4) .none,.clo fa2 ca2] ⟨B,Rw,L⟩ fun x st=>x=Ak r∧st=⟨B,Rw,L⟩:=by
 rw [CM] at h
 refine hd [.tmp 6] Tryz.func78 Tryz.ntmps78 fun M0 W0 j i g b l f hs=>?_
 simp only [AL]
 have c:=Fv (l (.clo fa2 ca2) (by simp))
 refine rg [0,1,2] hs ?_
 refine AZ (fun e st=>Ck e st B Rw L [(0,true,.list (a0.map C4) .none),(1,true,.list (a1.map C4) .none)] [] [] (B9 n a0 a1  = some r)) ?_ ?_
 ·intro K4 k
  refine rg [0,1,2,11,12,13] hs ?_
  apply As
  refine AN (fun m e st=>∃ (d:Int),Ck e st B Rw L [(0,true,.list (a0.map C4) .none),(1,true,.list (a1.map C4) .none),(2,true,.clo fa2 ca2),(11,true,.list (a0.map C4) .none),(12,true,Ak (a0.length:Int)),(13,true,Ak d)] [] [] (A6 n a0 a1 a2 m d=some r)) n ⟨0,([]),Rw,ef hs,ef hs,f,h⟩ ?_
  rintro ml6 e st ⟨d,Xl6,Rl6,rfl,rfl,f,h⟩ Ul6 Vl6
  cases ml6 with
  | zero=>cases h
  | succ ml6 =>
  rw [A6] at h
  refine D7 j i g rfl b f (QU c f) (QU c f) ?_
  exact go (tg (a:=([0,1,2,11,12,13,14],([0,1,2,11,12,13],[0,1,2,7,8,11,12,13],[0,1,2,7,8,11,12,13,21],([6],()),[0,1,2,7,8,11,12,13],[0,1,2,8,9,11,12,13],[0,1,2,10,11,12,13],[0,1,2,10,11,12,13,31],([6],()),[0,1,2,11,12,13],[0,1,2,11,12,13],()),[0,1],()))) h hs j i g b f (q1 ha2) (q2 k (fun e s=>Vl6 ml6 e s (Nat.lt_succ_self _)))
 ·clear h;rintro e st ⟨Xk3,Rk3,rfl,rfl,f,h⟩
  rw [B9] at h
  refine D7 j i g rfl b f (QU c f) (QU c f) ?_
  exact go (tg (a:=([38],([6],()),[],[6],()))) h hs j i g b f trivial trivial
def Ec (rec:Vl→Vl→Option Int) (n:Nat) (b:ByteArray × Vl) (h:ByteArray × Vl):Option Int :=
 (rec b.2 h.2).bind fun q =>
 (EN n ([Q3 b.1 h.1,q])).bind fun y =>
 some (y)
theorem O7 (w0:World) (rec:Vl→Vl→Option Int) (ih:∀ (B:Aq) (Rw:Au) (L:Av) (a0:Vl) (a1:Vl) (r:Int) (h:rec a0 a1=some r),ACalls Tryz.prog w0 48 [.agg (a0.cs),.agg (a1.cs)] ⟨B,Rw,L⟩ fun x st=>x=Ak r∧st=⟨B,Rw,L⟩) (n:Nat) (B:Aq) (Rw:Au) (L:Av) (a0:ByteArray × Vl) (a1:ByteArray × Vl) (r:Int) (h:Ec rec n a0 a1=some r) :
  ACalls Tryz.prog w0 80 [.agg (.val (.string a0.1)::(a0.2.cs)),.agg (.val (.string a1.1)::(a1.2.cs))] ⟨B,Rw,L⟩ fun x st=>x=Ak r∧st=⟨B,Rw,L⟩:=by
 rw [Ec] at h
 refine hd [.tmp 4] Tryz.func80 Tryz.ntmps80 fun M0 W0 e c d b g f hs=>?_
 simp only [AL]
 exact go (tg (a:=([2,3],[13,4],()))) h hs e c d b f (q3 (IG w0) ih (H6 w0 n)) trivial
def HQ (rec:Vl→Vl→Option Int) (n:Nat) (b:Vl) (h:Vl):Option Int :=
 (CM n b.list h.list (fun (y:Vl) (q:Vl)=>rec y q)).bind fun y3 =>
 (CO n b.fields h.fields (fun (y:ByteArray × Vl) (q:ByteArray × Vl)=>Ec rec n y q)).bind fun y4 =>
 (EN n ([if b.kind<h.kind then -1 else if b.kind=h.kind then 0 else 1,if b.int<h.int then -1 else if b.int=h.int then 0 else 1,if b.scale<h.scale then -1 else if b.scale=h.scale then 0 else 1,Q3 b.text h.text,y3,y4])).bind fun y5 =>
 some (y5)
def DK:Nat→Vl→Vl→Option Int
 | 0,_,_=>none
 | n+1,b,h=>HQ (DK n) n b h
def JI (w0:World) (F:Vl→Vl→Option Int):Prop:=∀ (B:Aq) (Rw:Au) (L:Av) (b:Vl) (h:Vl) (r:Int),F b h=some r→ACalls Tryz.prog w0 48 [.agg (b.cs),.agg (h.cs)] ⟨B,Rw,L⟩ fun x st=>x=Ak r∧st=⟨B,Rw,L⟩
theorem Oe (w0:World) (rec:Vl→Vl→Option Int) (ih:JI w0 rec) (n:Nat):JI w0 (HQ rec n):=by
 intro B Rw L a0 a1 r h
 rw [HQ] at h
 refine hd [.tmp 4] Tryz.func48 Tryz.ntmps48 fun M0 W0 p i f d t q hs=>?_
 simp only [AL]
 refine rg [2,3] hs ?_
 obtain ⟨v,g,h⟩:=bind_some h
 obtain ⟨u,k,h⟩:=bind_some h
 obtain ⟨w,o,h⟩:=bind_some h
 apply Am;intro K2 m
 refine dk 33 8 1 [4] (al hs) NZ ?_
 refine Ax _ (Hf w0 _ _ _ a0.kind a1.kind) (hv (al hs)) ?_
 refine nc (al hs) ?_
 refine Ax _ (Hf w0 _ _ _ a0.int a1.int) (hv (al hs)) ?_
 refine nc (al hs) ?_
 refine Ax _ (Hf w0 _ _ _ a0.scale a1.scale) (hv (al hs)) ?_
 refine nc (al hs) ?_
 refine Ax _ (IG w0 _ _ _ a0.text a1.text) (hv (al hs)) ?_
 refine nc (al hs) ?_
 refine Ax _ (Ia w0 n _ _ _ a0.list a1.list 48 [] (fun (b:Vl) (c:Vl)=>rec b c) (fun b c r j s rows' l e=>by exact ih _ _ _ b c _ j) _ g) (hv (al hs)) ?_
 refine nc (al hs) ?_
 refine Ax _ (Is w0 n _ _ _ a0.fields a1.fields 80 [] (fun (b:ByteArray × Vl) (c:ByteArray × Vl)=>Ec rec n b c) (fun b c r j s rows' l e=>by exact O7 w0 rec ih n _ _ _ b c _ j) _ k) (hv (al hs)) ?_
 exact go (tg (a:=((),()))) h (al hs) p i f d q (q1 (H6 w0 n)) (q1 m)
theorem L6 (w0:World):∀ n:Nat,JI w0 (DK n)
 | 0=>fun _ _ _ _ _ _ h=>(nomatch h)
 | n+1=>Oe w0 (DK n) (L6 w0 n) n
theorem Vg {a b:Nat}:decide ((a:Int)≤(b:Int))=decide (a≤b):=decide_eq_decide.2 ⟨fun h=>by omega,fun h=>by omega⟩
theorem O5 (n:Nat) (a b:List (Vl)) (f:Vl→Vl→Option Int) (hl:a.length≤1000000000)
  (hr:∀ p∈a,∀ q∈b,∃ c,f p q=some c∧(c=0↔p=q)):∀ (k m i:Nat),i+k=a.length→k<m→∃ c,A6 n a b f m i=some c∧(c=0↔a.drop i=b.drop i)
 | k,0,i,_,h=>absurd h (Nat.not_lt_zero _)
 | 0,m+1,i,hi,_=>by
  rw [A6,Bv,Ac]
  simp only [Bool.false_eq_true,if_false]
  rw [B9,Bv,List.drop_eq_nil_of_le (show a.length≤i by omega)]
  by_cases h:a.length<b.length
  ·rw [Ag h]
   simp only [if_true]
   exact ⟨-1,rfl,⟨fun h=>absurd h (by decide),fun e=>by have:=List.drop_eq_nil_iff.1 e.symm;omega⟩⟩
  ·rw [Af h]
   simp only [Bool.false_eq_true,if_false]
   exact ⟨0,rfl,⟨fun _=>(List.drop_eq_nil_of_le (by omega)).symm,fun _=>rfl⟩⟩
 | k+1,m+1,i,hi,hm=>by
  have g:i<a.length:=by omega
  rw [A6,Bv,Ag g]
  simp only [if_true,AO g,Ae,Vg]
  by_cases d:i<b.length
  ·rw [Af (show ¬ b.length≤i by omega)]
   simp only [Bool.false_eq_true,if_false,AO d,Ae]
   obtain ⟨c,e,j⟩:=hr _ (List.getElem_mem g) _ (List.getElem_mem d)
   rw [e,JS _ _ i g d]
   simp only [Ae]
   by_cases h0:c=0
   ·rw [Ag h0]
    simp only [Bool.not_true,Bool.false_eq_true,if_false]
    rw [Ah (AW (by omega))]
    obtain ⟨o,l,d⟩:=O5 n a b f hl hr k m (i+1) (by omega) (by omega)
    exact ⟨o,l,d.trans ⟨fun h=>⟨j.1 h0,h⟩,fun h=>h.2⟩⟩
   ·rw [Af h0]
    simp only [Bool.not_false,if_true]
    exact ⟨c,rfl,⟨fun h=>absurd h h0,fun h=>absurd (j.2 h.1) h0⟩⟩
  ·rw [Ag (show b.length≤i by omega)]
   simp only [if_true]
   refine ⟨1,rfl,⟨fun h=>absurd h (by decide),fun e=>?_⟩⟩
   rw [List.drop_eq_nil_of_le (show b.length≤i by omega)] at e
   have:=List.drop_eq_nil_iff.1 e
   omega
theorem Wh (n:Nat) (a b:List (Vl)) (f:Vl→Vl→Option Int) (hl:a.length≤1000000000) (hn:a.length<n)
  (hr:∀ p∈a,∀ q∈b,∃ c,f p q=some c∧(c=0↔p=q)):∃ c,CM n a b f=some c∧(c=0↔a=b) :=
 O5 n a b f hl hr a.length n 0 (by omega) hn
theorem Oq (n:Nat) (a b:List (ByteArray × Vl)) (f:ByteArray × Vl→ByteArray × Vl→Option Int) (hl:a.length≤1000000000)
  (hr:∀ p∈a,∀ q∈b,∃ c,f p q=some c∧(c=0↔p=q)):∀ (k m i:Nat),i+k=a.length→k<m→∃ c,A8 n a b f m i=some c∧(c=0↔a.drop i=b.drop i)
 | k,0,i,_,h=>absurd h (Nat.not_lt_zero _)
 | 0,m+1,i,hi,_=>by
  rw [A8,Bv,Ac]
  simp only [Bool.false_eq_true,if_false]
  rw [Cd,Bv,List.drop_eq_nil_of_le (show a.length≤i by omega)]
  by_cases h:a.length<b.length
  ·rw [Ag h]
   simp only [if_true]
   exact ⟨-1,rfl,⟨fun h=>absurd h (by decide),fun e=>by have:=List.drop_eq_nil_iff.1 e.symm;omega⟩⟩
  ·rw [Af h]
   simp only [Bool.false_eq_true,if_false]
   exact ⟨0,rfl,⟨fun _=>(List.drop_eq_nil_of_le (by omega)).symm,fun _=>rfl⟩⟩
 | k+1,m+1,i,hi,hm=>by
  have g:i<a.length:=by omega
  rw [A8,Bv,Ag g]
  simp only [if_true,AO g,Ae,Vg]
  by_cases d:i<b.length
  ·rw [Af (show ¬ b.length≤i by omega)]
   simp only [Bool.false_eq_true,if_false,AO d,Ae]
   obtain ⟨c,e,j⟩:=hr _ (List.getElem_mem g) _ (List.getElem_mem d)
   rw [e,JS _ _ i g d]
   simp only [Ae]
   by_cases h0:c=0
   ·rw [Ag h0]
    simp only [Bool.not_true,Bool.false_eq_true,if_false]
    rw [Ah (AW (by omega))]
    obtain ⟨o,l,d⟩:=Oq n a b f hl hr k m (i+1) (by omega) (by omega)
    exact ⟨o,l,d.trans ⟨fun h=>⟨j.1 h0,h⟩,fun h=>h.2⟩⟩
   ·rw [Af h0]
    simp only [Bool.not_false,if_true]
    exact ⟨c,rfl,⟨fun h=>absurd h h0,fun h=>absurd (j.2 h.1) h0⟩⟩
  ·rw [Ag (show b.length≤i by omega)]
   simp only [if_true]
   refine ⟨1,rfl,⟨fun h=>absurd h (by decide),fun e=>?_⟩⟩
   rw [List.drop_eq_nil_of_le (show b.length≤i by omega)] at e
   have:=List.drop_eq_nil_iff.1 e
   omega
theorem U4 (n:Nat) (a b:List (ByteArray × Vl)) (f:ByteArray × Vl→ByteArray × Vl→Option Int) (hl:a.length≤1000000000) (hn:a.length<n)
  (hr:∀ p∈a,∀ q∈b,∃ c,f p q=some c∧(c=0↔p=q)):∃ c,CO n a b f=some c∧(c=0↔a=b) :=
 Oq n a b f hl hr a.length n 0 (by omega) hn
theorem Ze1 (n:Nat) (l:List Int) (hl:l.length≤1000000000):∀ (k m i:Nat),i+k=l.length→k<m→∃ c,Du n l m i=some c∧(c=0↔∀ x∈l.drop i,x=0)
 | k,0,i,_,h=>absurd h (Nat.not_lt_zero _)
 | 0,m+1,i,hi,_=>by
  rw [Du,Bv,Ac]
  simp only [Bool.false_eq_true,if_false]
  exact ⟨0,rfl,by rw [List.drop_eq_nil_of_le (by omega)];simp⟩
 | k+1,m+1,i,hi,hm=>by
  have a:i<l.length:=by omega
  rw [Du,Bv,Ag a]
  simp only [if_true,AO a,Ae]
  rw [List.drop_eq_getElem_cons a]
  by_cases h0:l[i]=0
  ·rw [Ag h0]
   simp only [Bool.not_true,Bool.false_eq_true,if_false]
   rw [Ah (AW (by omega))]
   obtain ⟨e,b,d⟩:=Ze1 n l hl k m (i+1) (by omega) (by omega)
   exact ⟨e,b,d.trans ⟨fun h x hx=>by rcases List.mem_cons.1 hx with rfl | hx;exact h0;exact h x hx,fun h x hx=>h x (List.mem_cons_of_mem _ hx)⟩⟩
  ·rw [Af h0]
   simp only [Bool.not_false,if_true]
   exact ⟨_,rfl,⟨fun h=>absurd h h0,fun h=>absurd (h _ (List.mem_cons_self ..)) h0⟩⟩
theorem Zo (n:Nat) (l:List Int) (hl:l.length<n) (h2:l.length≤1000000000):∃ c,EN n l=some c∧(c=0↔∀ x∈l,x=0):=Ze1 n l h2 l.length n 0 (by omega) hl
theorem MO (a b:Int):(if a<b then (-1:Int) else if a=b then 0 else 1)=0↔a=b:=by
 by_cases h1:a<b
 ·rw [Ah h1];omega
 ·rw [Ai h1]
  by_cases h2:a=b
  ·simp [h2]
  ·simp [h2]
theorem Vl.lens' (v:Vl):v.list.length<v.size∧v.fields.length<v.size:=by have:=KG v.list;have:=IY v.fields;have:=v.size_eq;omega
theorem Jy:∀ (n:Nat) (a b:Vl),a.size+10≤n→a.size≤1000000000→∃ c,DK n a b=some c∧(c=0↔a=b)
 | 0,a,b,h,_=>by omega
 | n+1,a,b,h,hs=>by
  have v:=a.lens'
  rw [DK,HQ]
  obtain ⟨t,e1,l⟩:=Wh n a.list b.list (fun x y=>DK n x y) (by omega) (by omega) (fun p d q _=>Jy n p q (by have:=a.list_size p d;omega) (by have:=a.list_size p d;omega))
  obtain ⟨j,f,i⟩:=U4 n a.fields b.fields (fun x y=>Ec (DK n) n x y) (by omega) (by omega) (fun p d q _=>by
   obtain ⟨c,e,g⟩:=Jy n p.2 q.2 (by have:=a.field_size p d;omega) (by have:=a.field_size p d;omega)
   obtain ⟨j,f,i⟩:=Zo n [Q3 p.1 q.1,c] (by simp;omega) (by simp)
   refine ⟨j,by rw [Ec,e,Ae,f];rfl,i.trans ?_⟩
   simp only [List.mem_cons,List.not_mem_nil,or_false,forall_eq_or_imp,forall_eq,Qz,g]
   exact ⟨fun h=>Prod.ext h.1 h.2,fun h=>by rw [h];exact ⟨rfl,rfl⟩⟩)
  rw [e1,Ae,f,Ae]
  obtain ⟨c,e,g⟩:=Zo n [if a.kind<b.kind then -1 else if a.kind=b.kind then 0 else 1,if a.int<b.int then -1 else if a.int=b.int then 0 else 1,if a.scale<b.scale then -1 else if a.scale=b.scale then 0 else 1,Q3 a.text b.text,t,j] (by simp;omega) (by simp)
  refine ⟨c,by rw [e];rfl,g.trans ?_⟩
  simp only [List.mem_cons,List.not_mem_nil,or_false,forall_eq_or_imp,forall_eq,Qz,MO,l,i]
  exact ⟨fun ⟨m,s,k,r,u,o⟩=>Vl.ext' m s k r u o,fun h=>by rw [h];exact ⟨rfl,rfl,rfl,rfl,rfl,rfl⟩⟩
@[go_sem] theorem Zjt:BK Tryz.prog 291=none∧BK Tryz.prog 77=none∧BK Tryz.prog 93=none∧Gs Tryz.prog 264=false∧AD Tryz.prog 106 0=some (0,20,true)∧AD Tryz.prog 106 1=some (20,1,false)∧AD Tryz.prog 106 3=some (23,1,false)∧AD Tryz.prog 122 0=some (0,1,false)∧AD Tryz.prog 122 1=some (1,1,false)∧AD Tryz.prog 281 0=some (0,6,true)∧AD Tryz.prog 294 0=some (0,1,false)∧AD Tryz.prog 294 1=some (1,1,false):=by (repeat' apply Ad)<;>kernel_rfl
@[go_sem] theorem Zim:AD Tryz.prog 34 6=some (6,1,false)∧AD Tryz.prog 53 6=some (16,1,false)∧IK Tryz.prog 264=some .u64∧A3 Tryz.prog 291=some [(0,1),(1,1)]∧A3 Tryz.prog 77=some [(0,2),(2,1),(3,1),(4,1),(5,6)]∧A3 Tryz.prog 93=some [(0,1),(1,10)]∧BP Tryz.prog 264=false∧DO Tryz.prog 264=some (1,false)∧DO Tryz.prog 292=some (1,false)∧AU Tryz.prog 264=some [.val (.int .u64 0)]∧AU Tryz.prog 291=some [.val (.string ⟨#[]⟩),Ak 0]∧AU Tryz.prog 93=some [Ak 0,Ak 0,.list [] .full,Ak 0,.list [] .full,Ak 0,Ak 0,Ak 0,.val (.string ⟨#[]⟩),.list [] .full,.list [] .full]:=by (repeat' apply Ad)<;>kernel_rfl
def EB (n:Nat) (b:Vl):Option Int :=
 if BN b then
  some (0)
 else
  if !(decide (b.kind=9)) then
   some (18)
  else
   (FD n b).bind fun h =>
   some (h)
theorem NI (w0:World) (hT:Lib.Utf8Tabs 1 2 w0) (n:Nat) (B:Aq) (Rw:Au) (L:Av) (a0:Vl) (r:Int) (h:EB n a0=some r) :
  ACalls Tryz.prog w0 128 [.agg (a0.cs)] ⟨B,Rw,L⟩ fun x st=>x=Ak r∧st=⟨B,Rw,L⟩:=by
 rw [EB] at h
 refine hd [.tmp 2] Tryz.func128 Tryz.ntmps128 fun M0 W0 e c d b g f hs=>?_
 simp only [AL]
 exact go (tg (a:=([1],[1,3],([2],()),[1,6],([2],()),[1],[2],()))) h hs e c d b f (q2 (IE w0) (Lj w0 hT n)) trivial
def Fo (b:Int):Bool :=
 (decide (1≤b))&&(decide (b≤1048576))
theorem M7 (w0:World) (B:Aq) (Rw:Au) (L:Av) (a0:Int) (r:Bool) (h:Fo a0=r) :
  ACalls Tryz.prog w0 127 [Ak a0] ⟨B,Rw,L⟩ fun x st=>x = .val (.bool r)∧st=⟨B,Rw,L⟩:=by
 rw [Fo] at h
 refine hd [.tmp 2] Tryz.func127 Tryz.ntmps127 fun M0 W0 e b d a f c hs=>?_
 simp only [AL]
 refine rg [0] hs ?_
 refine rg [2] hs ?_
 exact rT h hs a c
theorem LW (w0:World) (B:Aq) (Rw:Au) (L:Av) (a0:Int) :
  ACalls Tryz.prog w0 127 [Ak a0] ⟨B,Rw,L⟩ fun x st=>x = .val (.bool (Fo a0))∧st=⟨B,Rw,L⟩:=M7 w0 B Rw L a0 _ rfl
def Fg (b:Int):Bool :=
 (decide (b<0))||(decide (1099511627776<b))
theorem M5 (w0:World) (B:Aq) (Rw:Au) (L:Av) (a0:Int) (r:Bool) (h:Fg a0=r) :
  ACalls Tryz.prog w0 126 [Ak a0] ⟨B,Rw,L⟩ fun x st=>x = .val (.bool r)∧st=⟨B,Rw,L⟩:=by
 rw [Fg] at h
 refine hd [.tmp 2] Tryz.func126 Tryz.ntmps126 fun M0 W0 e b d a f c hs=>?_
 simp only [AL]
 refine rg [0] hs ?_
 refine rg [2] hs ?_
 exact rT h hs a c
theorem LC (w0:World) (B:Aq) (Rw:Au) (L:Av) (a0:Int) :
  ACalls Tryz.prog w0 126 [Ak a0] ⟨B,Rw,L⟩ fun x st=>x = .val (.bool (Fg a0))∧st=⟨B,Rw,L⟩:=M5 w0 B Rw L a0 _ rfl
def E1 (n:Nat)  : Option Int :=
 some ((-1))
def Bi (n:Nat) (h:List Int) (a1:Int→Option Bool):Nat→Int→Option Int
 | 0,_=>none
 | m+1,b =>
  if decide (b<(h.length:Int)) then
   (Gg h b).bind fun y =>
   (a1 y).bind fun q =>
   if q then
    some (b)
   else
    if Bj (b+1) then
     (Bi n h a1 m) (b+1)
    else none
  else
   E1 n 
def DT (n:Nat) (b:List Int) (h:Int→Option Bool):Option Int :=
 Bi n b h n 0
theorem Kq (w0:World) (n:Nat) (B:Aq) (Rw:Au) (L:Av) (a0:List Int) (fa1:FuncId) (ca1:List AV) (a1:Int→Option Bool) (ha1:∀ (x0:Int) r,a1 x0=some r→∀ B' rows,B <+: B'→Rw <+: rows→ACalls Tryz.prog w0 fa1 ([Ak x0]++ca1) ⟨B',rows,L⟩ fun v s=>v = .val (.bool r)∧s=⟨B',rows,L⟩) (r:Int) (h:DT n a0 a1=some r) :
  ACalls Tryz.prog w0 194 [.list (a0.map BG) .none,.clo fa1 ca1] ⟨B,Rw,L⟩ fun x st=>x=Ak r∧st=⟨B,Rw,L⟩:=by
 rw [DT] at h
 refine hd [.tmp 4] Tryz.func194 Tryz.ntmps194 fun M0 W0 k i g b l f hs=>?_
 simp only [AL]
 have c:=Fv (l (.clo fa1 ca1) (by simp))
 refine rg [0,1] hs ?_
 refine AZ (fun e st=>Ck e st B Rw L [] [] [] (E1 n  = some r)) ?_ ?_
 ·intro K4 j
  refine rg [0,1,7,8] hs ?_
  apply As
  refine AN (fun m e st=>∃ (d:Int),Ck e st B Rw L [(0,true,.list (a0.map BG) .none),(1,true,.clo fa1 ca1),(7,true,Ak (a0.length:Int)),(8,true,Ak d)] [] [] (Bi n a0 a1 m d=some r)) n ⟨0,([]),Rw,ef hs,ef hs,f,h⟩ ?_
  rintro ml6 e st ⟨d,Xl6,Rl6,rfl,rfl,f,h⟩ Ul6 Vl6
  cases ml6 with
  | zero=>cases h
  | succ ml6 =>
  rw [Bi] at h
  refine D7 k i g rfl b f (QU c f) (QU c f) ?_
  exact go (tg (a:=([0,1,7,8,9],([0,1,7,8],[0,1,5,7,8],[0,1,5,7,8,16],([4],()),[0,1,7,8],[0,1,7,8],()),[],()))) h hs k i g b f (q1 ha1) (q2 j (fun e s=>Vl6 ml6 e s (Nat.lt_succ_self _)))
 ·clear h;rintro e st ⟨Xk3,Rk3,rfl,rfl,f,h⟩
  rw [E1] at h
  refine D7 k i g rfl b f (QU c f) (QU c f) ?_
  refine rg [4] hs ?_
  exact rt h hs b f
def BS (n:Nat) (b:List Int) (q:Int→Option Bool):Option Bool :=
 (DT n b q).bind fun h =>
 some (decide (0≤h))
theorem IX (w0:World) (n:Nat) (B:Aq) (Rw:Au) (L:Av) (a0:List Int) (fa1:FuncId) (ca1:List AV) (a1:Int→Option Bool) (ha1:∀ (x0:Int) r,a1 x0=some r→∀ B' rows,B <+: B'→Rw <+: rows→ACalls Tryz.prog w0 fa1 ([Ak x0]++ca1) ⟨B',rows,L⟩ fun v s=>v = .val (.bool r)∧s=⟨B',rows,L⟩) (r:Bool) (h:BS n a0 a1=some r) :
  ACalls Tryz.prog w0 161 [.list (a0.map BG) .none,.clo fa1 ca1] ⟨B,Rw,L⟩ fun x st=>x = .val (.bool r)∧st=⟨B,Rw,L⟩:=by
 rw [BS] at h
 refine hd [.tmp 4] Tryz.func161 Tryz.ntmps161 fun M0 W0 m i k b l g hs=>?_
 simp only [AL]
 have f:=Fv (l (.clo fa1 ca1) (by simp))
 refine rg [0,1] hs ?_
 obtain ⟨o,d,h⟩:=bind_some h
 refine rc 2 [4] hs ?_;intro K2 c
 refine Ax _ (Kq w0 n _ _ _ a0 fa1 ca1 a1 (fun x0 r j e a q1 q2=>ha1 x0 r j e a (List.IsPrefix.trans px q1) (g.pre.trans q2)) _ d) (hv hs) ?_
 refine ne hs c ?_
 clear c
 exact rt h hs b g
def Df (b:Int):Bool :=
 (decide (b<0))||(decide (65535<b))
theorem MQ (w0:World) (B:Aq) (Rw:Au) (L:Av) (a0:Int) (r:Bool) (h:Df a0=r) :
  ACalls Tryz.prog w0 162 [Ak a0] ⟨B,Rw,L⟩ fun x st=>x = .val (.bool r)∧st=⟨B,Rw,L⟩:=by
 rw [Df] at h
 refine hd [.tmp 2] Tryz.func162 Tryz.ntmps162 fun M0 W0 e b d a f c hs=>?_
 simp only [AL]
 refine rg [0] hs ?_
 refine rg [2] hs ?_
 exact rT h hs a c
theorem LR (w0:World) (B:Aq) (Rw:Au) (L:Av) (a0:Int) :
  ACalls Tryz.prog w0 162 [Ak a0] ⟨B,Rw,L⟩ fun x st=>x = .val (.bool (Df a0))∧st=⟨B,Rw,L⟩:=MQ w0 B Rw L a0 _ rfl
def Fa (n:Nat) (b:Int × List Int):Option Int :=
 if (decide (b.1<1))||(decide (1048576<b.1)) then
  some (2)
 else
  if decide ((b.2.length:Int)=0) then
   some (4)
  else
   if decide (512<(b.2.length:Int)) then
    some (9)
   else
    (BS n b.2 (fun (x0:Int)=>some (Df x0))).bind fun y =>
    if y then
     some (2)
    else
     (Gg b.2 0).bind fun h =>
     if decide (1<h) then
      some (11)
     else
      if decide (h=1) then
       some (0)
      else
       if decide ((b.2.length:Int)=1) then
        some (4)
       else
        (Gg b.2 1).bind fun q =>
        if decide (128≤q) then
         some (2)
        else
         some (0)
theorem PN (w0:World) (n:Nat) (B:Aq) (Rw:Au) (L:Av) (a0:Int × List Int) (r:Int) (h:Fa n a0=some r) :
  ACalls Tryz.prog w0 125 [.agg (Ak a0.1::([.list (a0.2.map BG) .none]))] ⟨B,Rw,L⟩ fun x st=>x=Ak r∧st=⟨B,Rw,L⟩:=by
 rw [Fa] at h
 refine hd [.tmp 2] Tryz.func125 Tryz.ntmps125 fun M0 W0 j e f b o d hs=>?_
 simp only [AL]
 refine rg [1] hs ?_
 apply Am;intro K2 g
 apply As
 refine rg [1,3] hs ?_
 refine Gw h hs ?_ ?_<;>intro hs h
 ·refine rg [2] hs ?_
  exact rt h hs b d
 refine rg [1,12] hs ?_
 refine Gw h hs ?_ ?_<;>intro hs h
 ·refine rg [2] hs ?_
  exact rt h hs b d
 refine rg [1,17] hs ?_
 refine Gw h hs ?_ ?_<;>intro hs h
 ·refine rg [2] hs ?_
  exact rt h hs b d
 obtain ⟨k,hy13,h⟩:=bind_some h
 refine rc 2 [1,22] hs ?_;intro K12 c
 refine Ax _ (IX w0 n _ _ _ a0.2 162 [] (fun (x0:Int)=>some (Df x0)) (fun x0 r hx m rows' l i=>by cases hx;exact LR w0 _ _ _ x0) _ hy13) (hv hs) ?_
 exact go (tg (a:=(([2],()),[1,26],([2],()),[1,32],([2],()),[1,38],([2],()),[43],([2],()),[],[2],()))) h hs j e f b d trivial (q2 c g)
def Ek (n:Nat) (h:Msg):Option Int :=
 (EB n h.body).bind fun b =>
 some (b)
def BC (n:Nat) (h:Msg):Nat→Int→Option Int
 | 0,_=>none
 | m+1,b =>
  if decide (b<(h.origins.length:Int)) then
   (Gg h.origins b).bind fun q =>
   if !(Fo q) then
    some (2)
   else
    if decide (0<b) then
     if Bj (b-1) then
      (Gg h.origins (b-1)).bind fun y =>
      if decide (q≤y) then
       some (24)
      else
       if Bj (b+1) then
        (BC n h m) (b+1)
       else none
     else none
    else
     if Bj (b+1) then
      (BC n h m) (b+1)
     else none
  else
   Ek n h 
def D5 (n:Nat) (b:Msg):Option Int :=
 (Fa n b.stamp).bind fun h =>
 if !(decide (h=0)) then
  some (h)
 else
  if Fg b.mass then
   some (38)
  else
   if decide ((b.origins.length:Int)=0) then
    some (4)
   else
    if decide (4096<(b.origins.length:Int)) then
     some (9)
    else
     BC n b n 0
theorem MP (w0:World) (hT:Lib.Utf8Tabs 1 2 w0) (n:Nat) (B:Aq) (Rw:Au) (L:Av) (a0:Msg) (r:Int) (h:D5 n a0=some r) :
  ACalls Tryz.prog w0 81 [.agg ((Ak a0.stamp.1::([.list (a0.stamp.2.map BG) .none]))++(Ak a0.mass::(.list (a0.origins.map BG) .none::(a0.body.cs))))] ⟨B,Rw,L⟩ fun x st=>x=Ak r∧st=⟨B,Rw,L⟩:=by
 rw [D5] at h
 refine hd [.tmp 2] Tryz.func81 Tryz.ntmps81 fun M0 W0 q f l b u d hs=>?_
 simp only [AL]
 refine rg [1] hs ?_
 apply Am;intro K2 o
 obtain ⟨t,p,h⟩:=bind_some h
 refine rc 2 [1,3] hs ?_;intro K3 g
 refine Ax _ (PN w0 n _ _ _ a0.stamp _ p) (hv hs) ?_
 refine ne hs g ?_
 clear g
 refine rg [1,3,10] hs ?_
 refine Gw h hs ?_ ?_<;>intro hs h
 ·refine rg [2] hs ?_
  exact rt h hs b d
 refine sk [1] hs o ?_
 clear o
 apply Am;intro K8 i
 apply As
 refine rc 2 [1,12] hs ?_;intro K9 k
 refine Ax _ (LC w0 _ _ _ a0.mass) (hv hs) ?_
 refine ne hs k ?_
 clear k
 refine Gw h hs ?_ ?_<;>intro hs h
 ·refine rg [2] hs ?_
  exact rt h hs b d
 refine rg [1,16] hs ?_
 refine Gw h hs ?_ ?_<;>intro hs h
 ·refine rg [2] hs ?_
  exact rt h hs b d
 refine rg [1,21] hs ?_
 refine Gw h hs ?_ ?_<;>intro hs h
 ·refine rg [2] hs ?_
  exact rt h hs b d
 refine sk [1] hs i ?_
 clear i
 refine AZ (fun e st=>Ck e st B Rw L [(1,true,.box B.length 0)] [(Ak a0.stamp.1::([.list (a0.stamp.2.map BG) .none]))++(Ak a0.mass::(.list (a0.origins.map BG) .none::(a0.body.cs)))] [] (Ek n a0  = some r)) ?_ ?_
 ·intro K20 j
  refine rg [1,27,28,29] hs ?_
  apply As
  refine AN (fun m e st=>∃ (c:Int),Ck e st B Rw L [(1,true,.box B.length 0),(27,true,.list (a0.origins.map BG) .none),(28,true,Ak (a0.origins.length:Int)),(29,true,Ak c)] [(Ak a0.stamp.1::([.list (a0.stamp.2.map BG) .none]))++(Ak a0.mass::(.list (a0.origins.map BG) .none::(a0.body.cs)))] [] (BC n a0 m c=some r)) n ⟨0,([]),Rw,ef hs,ef hs,d,h⟩ ?_
  rintro ml22 e st ⟨c,Xl22,Rl22,rfl,rfl,d,h⟩ Ul22 Vl22
  cases ml22 with
  | zero=>cases h
  | succ ml22 =>
  rw [BC] at h
  exact go (tg (a:=([1,27,28,29,30],([1,27,28,29],[1,4,5,27,28,29],[1,4,5,27,28,29,34],([2],()),([1,27,28,29,38],([2],()),[1,27,28,29],[1,27,28,29],()),[1,27,28,29,38],[1,27,28,29],[1,27,28,29],()),[1],()))) h hs q f l b d (q1 (LW w0)) (q2 j (fun e s=>Vl22 ml22 e s (Nat.lt_succ_self _)))
 ·clear h;rintro e st ⟨Xk19,Rk19,rfl,rfl,d,h⟩
  rw [Ek] at h
  exact go (tg (a:=([2],()))) h hs q f l b d (q1 (NI w0 hT n)) trivial
def Dz (n:Nat)  : Option Int :=
 some ((-1))
def A1 (n:Nat) (h:List Msg) (a1:Msg→Option Bool):Nat→Int→Option Int
 | 0,_=>none
 | m+1,b =>
  if decide (b<(h.length:Int)) then
   (Gg h b).bind fun y =>
   (a1 y).bind fun q =>
   if q then
    some (b)
   else
    if Bj (b+1) then
     (A1 n h a1 m) (b+1)
    else none
  else
   Dz n 
def CN (n:Nat) (b:List Msg) (h:Msg→Option Bool):Option Int :=
 A1 n b h n 0
theorem Iy (w0:World) (n:Nat) (B:Aq) (Rw:Au) (L:Av) (a0:List Msg) (fa1:FuncId) (ca1:List AV) (a1:Msg→Option Bool) (ha1:∀ (x0:Msg) r,a1 x0=some r→∀ B' rows,B <+: B'→Rw <+: rows→ACalls Tryz.prog w0 fa1 ([.agg ((Ak x0.stamp.1::([.list (x0.stamp.2.map BG) .none]))++(Ak x0.mass::(.list (x0.origins.map BG) .none::(x0.body.cs))))]++ca1) ⟨B',rows,L⟩ fun v s=>v = .val (.bool r)∧s=⟨B',rows,L⟩) (r:Int) (h:CN n a0 a1=some r) :
  ACalls Tryz.prog w0 129 [.list (a0.map B7) .none,.clo fa1 ca1] ⟨B,Rw,L⟩ fun x st=>x=Ak r∧st=⟨B,Rw,L⟩:=by
 rw [CN] at h
 refine hd [.tmp 4] Tryz.func129 Tryz.ntmps129 fun M0 W0 k i g b l f hs=>?_
 simp only [AL]
 have c:=Fv (l (.clo fa1 ca1) (by simp))
 refine rg [0,1] hs ?_
 refine AZ (fun e st=>Ck e st B Rw L [] [] [] (Dz n  = some r)) ?_ ?_
 ·intro K4 j
  refine rg [0,1,7,8] hs ?_
  apply As
  refine AN (fun m e st=>∃ (d:Int),Ck e st B Rw L [(0,true,.list (a0.map B7) .none),(1,true,.clo fa1 ca1),(7,true,Ak (a0.length:Int)),(8,true,Ak d)] [] [] (A1 n a0 a1 m d=some r)) n ⟨0,([]),Rw,ef hs,ef hs,f,h⟩ ?_
  rintro ml6 e st ⟨d,Xl6,Rl6,rfl,rfl,f,h⟩ Ul6 Vl6
  cases ml6 with
  | zero=>cases h
  | succ ml6 =>
  rw [A1] at h
  refine D7 k i g rfl b f (QU c f) (QU c f) ?_
  exact go (tg (a:=([0,1,7,8,9],([0,1,7,8],[0,1,5,7,8],[0,1,5,7,8,16],([4],()),[0,1,7,8],[0,1,7,8],()),[],()))) h hs k i g b f (q1 ha1) (q2 j (fun e s=>Vl6 ml6 e s (Nat.lt_succ_self _)))
 ·clear h;rintro e st ⟨Xk3,Rk3,rfl,rfl,f,h⟩
  rw [Dz] at h
  refine D7 k i g rfl b f (QU c f) (QU c f) ?_
  refine rg [4] hs ?_
  exact rt h hs b f
def BB (n:Nat) (b:List Msg) (q:Msg→Option Bool):Option Bool :=
 (CN n b q).bind fun h =>
 some (decide (0≤h))
theorem Ha (w0:World) (n:Nat) (B:Aq) (Rw:Au) (L:Av) (a0:List Msg) (fa1:FuncId) (ca1:List AV) (a1:Msg→Option Bool) (ha1:∀ (x0:Msg) r,a1 x0=some r→∀ B' rows,B <+: B'→Rw <+: rows→ACalls Tryz.prog w0 fa1 ([.agg ((Ak x0.stamp.1::([.list (x0.stamp.2.map BG) .none]))++(Ak x0.mass::(.list (x0.origins.map BG) .none::(x0.body.cs))))]++ca1) ⟨B',rows,L⟩ fun v s=>v = .val (.bool r)∧s=⟨B',rows,L⟩) (r:Bool) (h:BB n a0 a1=some r) :
  ACalls Tryz.prog w0 82 [.list (a0.map B7) .none,.clo fa1 ca1] ⟨B,Rw,L⟩ fun x st=>x = .val (.bool r)∧st=⟨B,Rw,L⟩:=by
 rw [BB] at h
 refine hd [.tmp 4] Tryz.func82 Tryz.ntmps82 fun M0 W0 m i k b l g hs=>?_
 simp only [AL]
 have f:=Fv (l (.clo fa1 ca1) (by simp))
 refine rg [0,1] hs ?_
 obtain ⟨o,d,h⟩:=bind_some h
 refine rc 2 [4] hs ?_;intro K2 c
 refine Ax _ (Iy w0 n _ _ _ a0 fa1 ca1 a1 (fun x0 r j e a q1 q2=>ha1 x0 r j e a (List.IsPrefix.trans px q1) (g.pre.trans q2)) _ d) (hv hs) ?_
 refine ne hs c ?_
 clear c
 exact rt h hs b g
def C7 (n:Nat) (b:List Int) (h:List Int):Option Int :=
 if decide ((b.length:Int)<(h.length:Int)) then
  some ((-1))
 else
  some (0)
def A5 (n:Nat) (q:List Int) (y:List Int) (a2:Int→Int→Option Int):Nat→Int→Option Int
 | 0,_=>none
 | m+1,b =>
  if decide (b<(q.length:Int)) then
   (Gg q b).bind fun x12 =>
   if decide ((y.length:Int)≤b) then
    some (1)
   else
    (Gg y b).bind fun x18 =>
    (a2 x12 x18).bind fun h =>
    if !(decide (h=0)) then
     some (h)
    else
     if Bj (b+1) then
      (A5 n q y a2 m) (b+1)
     else none
  else
   C7 n q y 
def Dk (n:Nat) (b:List Int) (q:List Int) (h:Int→Int→Option Int):Option Int :=
 A5 n b q h n 0
theorem Jj (w0:World) (n:Nat) (B:Aq) (Rw:Au) (L:Av) (a0:List Int) (a1:List Int) (fa2:FuncId) (ca2:List AV) (a2:Int→Int→Option Int) (ha2:∀ (x0:Int) (x1:Int) r,a2 x0 x1=some r→∀ B' rows,B <+: B'→Rw <+: rows→ACalls Tryz.prog w0 fa2 ([Ak x0,Ak x1]++ca2) ⟨B',rows,L⟩ fun v s=>v=Ak r∧s=⟨B',rows,L⟩) (r:Int) (h:Dk n a0 a1 a2=some r) :
  ACalls Tryz.prog w0 73 [.list (a0.map BG) .none,.list (a1.map BG) .none,.clo fa2 ca2] ⟨B,Rw,L⟩ fun x st=>x=Ak r∧st=⟨B,Rw,L⟩:=by
 rw [Dk] at h
 refine hd [.tmp 6] Tryz.func73 Tryz.ntmps73 fun M0 W0 j i g b l f hs=>?_
 simp only [AL]
 have c:=Fv (l (.clo fa2 ca2) (by simp))
 refine rg [0,1,2] hs ?_
 refine AZ (fun e st=>Ck e st B Rw L [(0,true,.list (a0.map BG) .none),(1,true,.list (a1.map BG) .none)] [] [] (C7 n a0 a1  = some r)) ?_ ?_
 ·intro K4 k
  refine rg [0,1,2,11,12,13] hs ?_
  apply As
  refine AN (fun m e st=>∃ (d:Int),Ck e st B Rw L [(0,true,.list (a0.map BG) .none),(1,true,.list (a1.map BG) .none),(2,true,.clo fa2 ca2),(11,true,.list (a0.map BG) .none),(12,true,Ak (a0.length:Int)),(13,true,Ak d)] [] [] (A5 n a0 a1 a2 m d=some r)) n ⟨0,([]),Rw,ef hs,ef hs,f,h⟩ ?_
  rintro ml6 e st ⟨d,Xl6,Rl6,rfl,rfl,f,h⟩ Ul6 Vl6
  cases ml6 with
  | zero=>cases h
  | succ ml6 =>
  rw [A5] at h
  refine D7 j i g rfl b f (QU c f) (QU c f) ?_
  exact go (tg (a:=([0,1,2,11,12,13,14],([0,1,2,11,12,13],[0,1,2,7,8,11,12,13],[0,1,2,7,8,11,12,13,21],([6],()),[0,1,2,7,8,11,12,13],[0,1,2,8,9,11,12,13],[0,1,2,10,11,12,13],[0,1,2,10,11,12,13,31],([6],()),[0,1,2,11,12,13],[0,1,2,11,12,13],()),[0,1],()))) h hs j i g b f (q1 ha2) (q2 k (fun e s=>Vl6 ml6 e s (Nat.lt_succ_self _)))
 ·clear h;rintro e st ⟨Xk3,Rk3,rfl,rfl,f,h⟩
  rw [C7] at h
  refine D7 j i g rfl b f (QU c f) (QU c f) ?_
  exact go (tg (a:=([38],([6],()),[],[6],()))) h hs j i g b f trivial trivial
def BE (b:Int) (h:Int):Int :=
 if b<h then -1 else if b=h then 0 else 1
theorem Lh (w0:World) (B:Aq) (Rw:Au) (L:Av) (a0:Int) (a1:Int) (r:Int) (h:BE a0 a1=r) :
  ACalls Tryz.prog w0 74 [Ak a0,Ak a1] ⟨B,Rw,L⟩ fun x st=>x=Ak r∧st=⟨B,Rw,L⟩:=by
 rw [BE] at h
 refine hd [.tmp 4] Tryz.func74 Tryz.ntmps74 fun M0 W0 e c d b g f hs=>?_
 simp only [AL]
 exact go (tg (a:=([0,1],[4],()))) h hs e c d b f (q1 (Hf w0)) trivial
theorem Kr (w0:World) (B:Aq) (Rw:Au) (L:Av) (a0:Int) (a1:Int) :
  ACalls Tryz.prog w0 74 [Ak a0,Ak a1] ⟨B,Rw,L⟩ fun x st=>x=Ak (BE a0 a1)∧st=⟨B,Rw,L⟩:=Lh w0 B Rw L a0 a1 _ rfl
def Fj (n:Nat) (b:Int × List Int) (h:Int × List Int):Option Int :=
 (Dk n b.2 h.2 (fun (x0:Int) (y:Int)=>some (BE x0 y))).bind fun y3 =>
 (EN n ([if b.1<h.1 then -1 else if b.1=h.1 then 0 else 1,y3])).bind fun q =>
 some (q)
theorem MZ (w0:World) (n:Nat) (B:Aq) (Rw:Au) (L:Av) (a0:Int × List Int) (a1:Int × List Int) (r:Int) (h:Fj n a0 a1=some r) :
  ACalls Tryz.prog w0 44 [.agg (Ak a0.1::([.list (a0.2.map BG) .none])),.agg (Ak a1.1::([.list (a1.2.map BG) .none]))] ⟨B,Rw,L⟩ fun x st=>x=Ak r∧st=⟨B,Rw,L⟩:=by
 rw [Fj] at h
 refine hd [.tmp 4] Tryz.func44 Tryz.ntmps44 fun M0 W0 g c d b p i hs=>?_
 simp only [AL]
 refine rg [2,3] hs ?_
 obtain ⟨m,hy3,h⟩:=bind_some h
 obtain ⟨l,j,h⟩:=bind_some h
 apply Am;intro K2 e
 refine dk 13 4 1 [4] hs NZ ?_
 refine Ax _ (Hf w0 _ _ _ a0.1 a1.1) (hv hs) ?_
 refine nc hs ?_
 refine Ax _ (Jj w0 n _ _ _ a0.2 a1.2 74 [] (fun (x0:Int) (x1:Int)=>some (BE x0 x1)) (fun x0 x1 r hx o rows' k f=>by cases hx;exact Kr w0 _ _ _ x0 x1) _ hy3) (hv hs) ?_
 exact go (tg (a:=((),()))) h hs g c d b i (q1 (H6 w0 n)) (q1 e)
def E3 (n:Nat) (b:Int × List Int) (q:Int × List Int):Option Bool :=
 (Fj n b q).bind fun h =>
 some (decide (h=0))
theorem Og (w0:World) (n:Nat) (B:Aq) (Rw:Au) (L:Av) (a0:Int × List Int) (a1:Int × List Int) (r:Bool) (h:E3 n a0 a1=some r) :
  ACalls Tryz.prog w0 24 [.agg (Ak a0.1::([.list (a0.2.map BG) .none])),.agg (Ak a1.1::([.list (a1.2.map BG) .none]))] ⟨B,Rw,L⟩ fun x st=>x = .val (.bool r)∧st=⟨B,Rw,L⟩:=by
 rw [E3] at h
 refine hd [.tmp 4] Tryz.func24 Tryz.ntmps24 fun M0 W0 e c d b g f hs=>?_
 simp only [AL]
 exact go (tg (a:=([2,3],[4],()))) h hs e c d b f (q1 (MZ w0 n)) trivial
def Br (n:Nat) (b:Msg) (q:Msg):Option Bool :=
 (E3 n b.stamp q.stamp).bind fun h =>
 some (h)
theorem IC (w0:World) (n:Nat) (B:Aq) (Rw:Au) (L:Av) (a0:Msg) (la1:Nat) (a1:Msg) (hla1:B[la1]? = some ((Ak a1.stamp.1::([.list (a1.stamp.2.map BG) .none]))++(Ak a1.mass::(.list (a1.origins.map BG) .none::(a1.body.cs))))) (r:Bool) (h:Br n a0 a1=some r) :
  ACalls Tryz.prog w0 83 [.agg ((Ak a0.stamp.1::([.list (a0.stamp.2.map BG) .none]))++(Ak a0.mass::(.list (a0.origins.map BG) .none::(a0.body.cs)))),.box la1 0] ⟨B,Rw,L⟩ fun x st=>x = .val (.bool r)∧st=⟨B,Rw,L⟩:=by
 rw [Br] at h
 refine hd [.tmp 3] Tryz.func83 Tryz.ntmps83 fun M0 W0 f d e b i g hs=>?_
 simp only [AL]
 have c:=(Aj.1 hla1).1
 have hs:=Ad (B1 hla1) hs
 exact go (tg (a:=([1,2],[3],()))) h hs f d e b g (q1 (Og w0 n)) trivial
def Bg (b:Int) (h:Int):Int :=
 if (((decide (b<((-999999999999999))))||(decide (999999999999999<b)))||(decide (h<0)))||(decide (17592186044416<h)) then
  2
 else
  0
theorem MU (w0:World) (B:Aq) (Rw:Au) (L:Av) (a0:Int) (a1:Int) (r:Int) (h:Bg a0 a1=r) :
  ACalls Tryz.prog w0 45 [Ak a0,Ak a1] ⟨B,Rw,L⟩ fun x st=>x=Ak r∧st=⟨B,Rw,L⟩:=by
 rw [Bg] at h
 refine hd [.tmp 4] Tryz.func45 Tryz.ntmps45 fun M0 W0 e c d b g f hs=>?_
 simp only [AL]
 exact go (tg (a:=([0,1],[18],([4],()),[],[4],()))) h hs e c d b f trivial trivial
theorem HJ (w0:World) (B:Aq) (Rw:Au) (L:Av) (a0:Int) (a1:Int) :
  ACalls Tryz.prog w0 45 [Ak a0,Ak a1] ⟨B,Rw,L⟩ fun x st=>x=Ak (Bg a0 a1)∧st=⟨B,Rw,L⟩:=MU w0 B Rw L a0 a1 _ rfl
def BQ (n:Nat)  (pla0_k39_0:List Msg) (pla0_k39_1:Int):Option (Int × Chk) :=
 some ((0,Chk.mk pla0_k39_0 pla0_k39_1))
def AX (n:Nat) (y:Slt):Nat→Int→(List Msg)→Int→Option (Int × Chk)
 | 0,_,_,_=>none
 | m+1,b,pla0_l42_0,pla0_l42_1 =>
  if decide (b<(y.values.length:Int)) then
   (Gg y.values b).bind fun q =>
   if decide (pla0_l42_1=4096) then
    some ((9,Chk.mk pla0_l42_0 pla0_l42_1))
   else
    (FD n q).bind fun h =>
    if !(decide (h=0)) then
     some ((h,Chk.mk pla0_l42_0 pla0_l42_1))
    else
     if Bj (pla0_l42_1+1) then
      if Bj (b+1) then
       (AX n y m) (b+1) pla0_l42_0 (pla0_l42_1+1)
      else none
     else none
  else
   BQ n pla0_l42_0 pla0_l42_1
def BR (n:Nat) (b:Chk) (h:Slt) (pla0_k8_0:List Msg):Option (Int × Chk) :=
 AX n h n 0 pla0_k8_0 b.values
def AY (n:Nat) (q:Chk) (a1:Slt):Nat→Int→(List Msg)→Option (Int × Chk)
 | 0,_,_=>none
 | m+1,b,pla0_l11_0 =>
  if decide (b<(a1.items.length:Int)) then
   (Gg a1.items b).bind fun h =>
   if decide ((pla0_l11_0.length:Int)=256) then
    some ((9,Chk.mk pla0_l11_0 q.values))
   else
    (D5 n h).bind fun y =>
    if !(decide (y=0)) then
     some ((y,Chk.mk pla0_l11_0 q.values))
    else
     (BB n pla0_l11_0 (fun (x0:Msg)=>Br n x0 h)).bind fun y30 =>
     if y30 then
      some ((7,Chk.mk pla0_l11_0 q.values))
     else
      if (pla0_l11_0.length+1)*152≤140737488355328∧pla0_l11_0.length+1≤4611686018427387904 then
       if Bj (b+1) then
        (AY n q a1 m) (b+1) (pla0_l11_0++([h]))
       else none
      else none
  else
   BR n q a1 pla0_l11_0
def Bn (n:Nat) (h:Chk) (b:Slt):Option (Int × Chk) :=
 if !(decide ((Bg b.number b.time)=0)) then
  some ((Bg b.number b.time,h))
 else
  AY n h b n 0 h.items
theorem Ji (w0:World) (hT:Lib.Utf8Tabs 1 2 w0) (n:Nat) (B:Aq) (Rw:Au) (L:Av) (la0:Nat) (a0:Chk) (oa0:Ev.Own) (hla0:B[la0]? = some ([.list (a0.items.map B7) oa0,Ak a0.values])) (hGa0:Owns Rw Rw [(10,a0.items.length,oa0)] oa0) (a1:Slt) (r:Int × Chk) (h:Bn n a0 a1=some r) :
  ACalls Tryz.prog w0 49 [.box la0 0,.agg ((a1.key.cs)++(Ak a1.number::(Ak a1.time::(.list (a1.items.map B7) .none::([.list (a1.values.map C4) .none])))))] ⟨B,Rw,L⟩ fun x st=>x=Ak r.1∧∃ (R1:Au) (o1:Ev.Own),st=⟨(B.set la0 ([.list (r.2.items.map B7) o1,Ak r.2.values])),R1,L⟩∧Owns Rw R1 [(10,r.2.items.length,o1)] oa0:=by
 rw [Bn] at h
 refine ACalls.finG (DF (rs:=[.tmp 4]) Tryz.func49 rfl rfl Tryz.ntmps49 (A2 Tryz.func49 rfl (by decide)) (Nat.le_of_ble_eq_true rfl) ?_)
 intro M0 W0 hN U V k hu
 dsimp only at hN U V k hu
 simp only [AL]
 have j:=hGa0
 have hs:=Zjp
 have a5:=(Aj.1 hla0).1
 have hs:=Ad (B1 hla0) hs
 refine rg [0,3] hs ?_
 apply Am;intro K2 a4
 refine rc 2 [0,3,5] hs ?_;intro K3 av
 refine Ax _ (HJ w0 _ _ _ a1.number a1.time) (hv hs) ?_
 refine ne hs av ?_
 clear av
 refine rg [0,3,5,18] hs ?_
 refine Gw h hs ?_ ?_<;>intro hs h
 ·have l:=hs.1
  refine rg [4] hs ?_
  apply Bz;simp +decide only [go_sem,Nat.reduceAdd,B1 hla0,l]
  have hgt:=Option.some.inj h;subst hgt
  have O:=j.unders
  simp only [List.mem_cons,List.not_mem_nil,or_false,forall_eq_or_imp,forall_eq] at O
  refine KD j (FY k j.len) rfl ev ⟨?_,_,_,?_,(j.sub (List.sublist_append_left [_] _)).len1 Et⟩
  all_goals first | rfl | (simp +decide only [go_sem,Nat.reduceAdd,B1 hla0,l];done) | (simp +decide only [go_sem,Nat.reduceAdd,Vl.cs,Ty.cs,B1 hla0,l];done)
 have l:=hs.1
 refine sk [0,3] hs a4 ?_
 clear a4
 refine AZ (fun e st=>∃ (p:List Msg) (u:Ev.Own) (Xk8:Aq) (Rk8:Au),e=[(0,true,.box la0 0),(3,true,.box B.length 0)]∧st=⟨(B.set la0 ([.list (p.map B7) u,Ak a0.values]))++([(a1.key.cs)++(Ak a1.number::(Ak a1.time::(.list (a1.items.map B7) .none::([.list (a1.values.map C4) .none]))))]++Xk8),Rk8,L⟩∧Owns Rw Rk8 [(10,p.length,u)] oa0∧BR n a0 a1 p=some r) ?_ ?_
 ·intro K9 ba
  refine rg [0,3,21,22,23] hs ?_
  apply As
  refine AN (fun m e st=>∃ (G:Int) (b:List Msg) (o:Ev.Own) (Xl11:Aq) (Rl11:Au),e=[(0,true,.box la0 0),(3,true,.box B.length 0),(21,true,.list (a1.items.map B7) .none),(22,true,Ak (a1.items.length:Int)),(23,true,Ak G)]∧st=⟨(B.set la0 ([.list (b.map B7) o,Ak a0.values]))++([(a1.key.cs)++(Ak a1.number::(Ak a1.time::(.list (a1.items.map B7) .none::([.list (a1.values.map C4) .none]))))]++Xl11),Rl11,L⟩∧Owns Rw Rl11 [(10,b.length,o)] oa0∧AY n a0 a1 m G b=some r) n ⟨0,a0.items,oa0,([]),Rw,ef hs,ef hs,Owns.of_eq (j) Et,h⟩ ?_
  rintro ml11 e st ⟨G,b,o,Xl11,Rl11,rfl,rfl,j,h⟩ Ul11 Vl11
  cases ml11 with
  | zero=>cases h
  | succ ml11 =>
  rw [AY] at h
  have O:=j.unders
  simp only [List.mem_cons,List.not_mem_nil,or_false,forall_eq_or_imp,forall_eq] at O
  refine J3 hN U V ls_ (D8 (FY k j.len) ow) j ow ow ?_
  refine rg [0,3,21,22,23,24] hs ?_
  apply Am;intro K13 ap
  refine Gw h hs ?_ ?_<;>intro hs h
  rotate_left
  ·have w:=hs.1
   refine sx [0,3] hs ba ?_
   exact ⟨b,o,([]),Rl11,ef hs,ef hs,Owns.of_eq (j) Et,h⟩
  have w:=hs.1
  refine sk [0,3,21,22,23] hs ap ?_
  clear ap
  apply Am;intro K15 am
  apply As
  obtain ⟨F,ax,h⟩:=bind_some h
  obtain ⟨a7,a6,ar⟩:=E8 ax
  have g:=E6 (f:=B7) ar
  have hs:=Ad g hs
  refine rg [0,3,7,21,22,23] hs ?_
  apply Am;intro K18 aa
  refine rg [0,3,7,21,22,23,32] hs ?_
  refine Gw h hs ?_ ?_<;>intro hs h
  ·have v:=hs.1
   refine rg [4] hs ?_
   apply Bz;simp +decide only [go_sem,Nat.reduceAdd,B1 hla0,l,w,g,v]
   have hgt:=Option.some.inj h;subst hgt
   have O:=j.unders
   simp only [List.mem_cons,List.not_mem_nil,or_false,forall_eq_or_imp,forall_eq] at O
   refine KD j (D8 (FY k j.len) ow) ls_ ev ⟨?_,_,_,?_,(j.sub (List.sublist_append_left [_] _)).len1 Et⟩
   all_goals first | rfl | (simp +decide only [go_sem,Nat.reduceAdd,B1 hla0,l,w,g,v];done) | (simp +decide only [go_sem,Nat.reduceAdd,Vl.cs,Ty.cs,B1 hla0,l,w,g,v];done)
  have v:=hs.1
  refine sk [0,3,7,21,22,23] hs aa ?_
  clear aa
  apply Am;intro K22 ae
  obtain ⟨bg,a2,h⟩:=bind_some h
  refine rc 2 [0,3,7,8,21,22,23] hs ?_;intro K23 ai
  refine Ax _ (MP w0 hT n _ _ _ F _ a2) (hv hs) ?_
  refine ne hs ai ?_
  clear ai
  refine rg [0,3,7,8,21,22,23,36] hs ?_
  refine Gw h hs ?_ ?_<;>intro hs h
  ·have D:=hs.1
   refine rg [4] hs ?_
   apply Bz;simp +decide only [go_sem,Nat.reduceAdd,B1 hla0,l,w,g,v,D]
   have hgt:=Option.some.inj h;subst hgt
   have O:=j.unders
   simp only [List.mem_cons,List.not_mem_nil,or_false,forall_eq_or_imp,forall_eq] at O
   refine KD j (D8 (FY k j.len) ow) ls_ ev ⟨?_,_,_,?_,(j.sub (List.sublist_append_left [_] _)).len1 Et⟩
   all_goals first | rfl | (simp +decide only [go_sem,Nat.reduceAdd,B1 hla0,l,w,g,v,D];done) | (simp +decide only [go_sem,Nat.reduceAdd,Vl.cs,Ty.cs,B1 hla0,l,w,g,v,D];done)
  have D:=hs.1
  refine sk [0,3,7,21,22,23] hs ae ?_
  clear ae
  apply Am;intro K28 Z
  obtain ⟨bi,aw,h⟩:=bind_some h
  refine rc 2 [0,3,7,21,22,23,43] hs ?_;intro K29 ag
  refine Ax _ (Ha w0 n _ _ _ b 83 [.box (B.length+1) 0] (fun (x0:Msg)=>Br n x0 F) (fun x0 r hx B' rows' bc bh=>by exact IC w0 n _ _ _ x0 _ F (Wj bc (ef hs)) _ hx) _ aw) (hv hs) ?_
  refine ne hs ag ?_
  clear ag
  refine Gw h hs ?_ ?_<;>intro hs h
  ·have N:=hs.1
   refine rg [4] hs ?_
   apply Bz;simp +decide only [go_sem,Nat.reduceAdd,B1 hla0,l,w,g,v,D,N]
   have hgt:=Option.some.inj h;subst hgt
   have O:=j.unders
   simp only [List.mem_cons,List.not_mem_nil,or_false,forall_eq_or_imp,forall_eq] at O
   refine KD j (D8 (FY k j.len) ow) ls_ ev ⟨?_,_,_,?_,(j.sub (List.sublist_append_left [_] _)).len1 Et⟩
   all_goals first | rfl | (simp +decide only [go_sem,Nat.reduceAdd,B1 hla0,l,w,g,v,D,N];done) | (simp +decide only [go_sem,Nat.reduceAdd,Vl.cs,Ty.cs,B1 hla0,l,w,g,v,D,N];done)
  have N:=hs.1
  refine sk [0,3,7,21,22,23] hs Z ?_
  clear Z
  obtain ⟨ah,h⟩:=An h
  obtain ⟨a9,Y,j,q⟩:=j.append (P:=Tryz.prog) ZaW (by rw [Ta];rfl) (by decide) 1 ah.1 ah.2
  replace q:=fun (ys:List AV) B L o2=>q (b.map B7) ys B L o2 Et
  replace q:=fun (y:AV) B L o2=>q [y] B L o2 Et ev
  try simp only [List.mem_singleton,List.mem_cons,List.not_mem_nil,or_false,forall_eq_or_imp,forall_eq,List.map_append,List.map_cons,List.map_nil,Hv,Hh,Hy,G4,Hm,G5,FR,FX,Hw,D3,D9,Gf,F2,FV,Hg,FQ,He] at q
  apply Jk NZ [7,10] [4] [0,3,21,22,23] kr (fun s=>∃ (X:Aq) (rows:Au) (ad:List AV),s=⟨(B.set la0 ad)++([(a1.key.cs)++(Ak a1.number::(Ak a1.time::(.list (a1.items.map B7) .none::([.list (a1.values.map C4) .none])))),(Ak F.stamp.1::([.list (F.stamp.2.map BG) .none]))++(Ak F.mass::(.list (F.origins.map BG) .none::(F.body.cs)))]++X),rows,L⟩) 3 (B.length+2)
  ·simp +decide only [go_sem,Nat.reduceAdd]
  ·refine ⟨1,?_⟩
   rw [Ao];simp +decide only [go_sem,Nat.reduceAdd,Bd,B1 hla0,l,w,g,v,D,N,q]
   (repeat' apply Ad)<;>first | rfl | exact cl
  ·rintro s ⟨X,rows,ad,rfl⟩
   refine ⟨1,?_⟩
   rw [Ao];simp +decide only [go_sem,Nat.reduceAdd,Bd,List.append_eq,List.cons_append,List.nil_append,B1 hla0,l,w,g,v,D,N,q]
   have hs:=Ad q hs
   (repeat' apply Ad)<;>first | rfl | ((repeat (first | exact .nil | refine .cons (ef hs) ?_));done) | exact cl
  ·exact gd (tg (a:=(7,10,[0,3,21,22,23]))) (Ad q (Ad g (Ad (B1 hla0) hs)))
  simp +decide only [go_sem,Nat.reduceAdd,B1 hla0,l,w,g,v,D,N,q]
  (repeat' apply Ad)<;>first | refine am _ _ ?_ | exact cl
  clear am
  obtain ⟨bd,h⟩:=An h
  have hs:=Ad q hs
  refine rl [0,3,21,22,23] hs (fun e s=>Vl11 ml11 e s (Nat.lt_succ_self _)) ?_
  exact ⟨(G+1),(b++([F])),a9,([(Ak F.stamp.1::([.list (F.stamp.2.map BG) .none]))++(Ak F.mass::(.list (F.origins.map BG) .none::(F.body.cs)))]),Y,ef hs,ef hs,Owns.of_eq (j) Et,h⟩
 ·clear h;rintro e st ⟨p,u,Xk8,Rk8,rfl,rfl,j,h⟩
  rw [BR] at h
  have O:=j.unders
  simp only [List.mem_cons,List.not_mem_nil,or_false,forall_eq_or_imp,forall_eq] at O
  refine J3 hN U V ls_ (D8 (FY k j.len) ow) j ow ow ?_
  refine AZ (fun e st=>∃ (t:List Msg) (C:Int) (z:Ev.Own) (Xk39:Aq) (Rk39:Au),e=[]∧st=⟨(B.set la0 ([.list (t.map B7) z,Ak C]))++([(a1.key.cs)++(Ak a1.number::(Ak a1.time::(.list (a1.items.map B7) .none::([.list (a1.values.map C4) .none]))))]++Xk39),Rk39,L⟩∧Owns Rw Rk39 [(10,t.length,z)] oa0∧BQ n t C=some r) ?_ ?_
  ·intro K40 ay
   refine rg [0,56,57,58] hs ?_
   apply As
   refine AN (fun m e st=>∃ (H:Int) (c:List Msg) (i:Int) (d:Ev.Own) (Xl42:Aq) (Rl42:Au),e=[(0,true,.box la0 0),(56,true,.list (a1.values.map C4) .none),(57,true,Ak (a1.values.length:Int)),(58,true,Ak H)]∧st=⟨(B.set la0 ([.list (c.map B7) d,Ak i]))++([(a1.key.cs)++(Ak a1.number::(Ak a1.time::(.list (a1.items.map B7) .none::([.list (a1.values.map C4) .none]))))]++Xl42),Rl42,L⟩∧Owns Rw Rl42 [(10,c.length,d)] oa0∧AX n a1 m H c i=some r) n ⟨0,p,a0.values,u,([]),Rk8,ef hs,ef hs,Owns.of_eq (j) Et,h⟩ ?_
   rintro ml42 e st ⟨H,c,i,d,Xl42,Rl42,rfl,rfl,j,h⟩ Ul42 Vl42
   cases ml42 with
   | zero=>cases h
   | succ ml42 =>
   rw [AX] at h
   have O:=j.unders
   simp only [List.mem_cons,List.not_mem_nil,or_false,forall_eq_or_imp,forall_eq] at O
   refine J3 hN U V ls_ (D8 (FY k j.len) ow) j ow ow ?_
   refine rg [0,56,57,58,59] hs ?_
   apply Am;intro K44 ao
   refine Gw h hs ?_ ?_<;>intro hs h
   rotate_left
   ·have J:=hs.1
    refine sx [] hs ay ?_
    exact ⟨c,i,d,([]),Rl42,ef hs,ef hs,Owns.of_eq (j) Et,h⟩
   have J:=hs.1
   refine sk [0,56,57,58] hs ao ?_
   clear ao
   apply Am;intro K46 af
   apply As
   obtain ⟨a3,az,h⟩:=bind_some h
   obtain ⟨a8,bb,aq⟩:=E8 az
   have E:=E6 (f:=C4) aq
   have hs:=Ad E hs
   refine rg [0,10,56,57,58] hs ?_
   apply Am;intro K49 ak
   refine rg [0,10,56,57,58,66] hs ?_
   refine Gw h hs ?_ ?_<;>intro hs h
   ·have K:=hs.1
    refine rg [4] hs ?_
    apply Bz;simp +decide only [go_sem,Nat.reduceAdd,B1 hla0,l,J,E,K]
    have hgt:=Option.some.inj h;subst hgt
    have O:=j.unders
    simp only [List.mem_cons,List.not_mem_nil,or_false,forall_eq_or_imp,forall_eq] at O
    refine KD j (D8 (FY k j.len) ow) ls_ ev ⟨?_,_,_,?_,(j.sub (List.sublist_append_left [_] _)).len1 Et⟩
    all_goals first | rfl | (simp +decide only [go_sem,Nat.reduceAdd,B1 hla0,l,J,E,K];done) | (simp +decide only [go_sem,Nat.reduceAdd,Vl.cs,Ty.cs,B1 hla0,l,J,E,K];done)
   have K:=hs.1
   refine sk [0,10,56,57,58] hs ak ?_
   clear ak
   apply Am;intro K53 aj
   obtain ⟨bj,au,h⟩:=bind_some h
   refine rc 2 [0,11,56,57,58] hs ?_;intro K54 ab
   refine Ax _ (Lj w0 hT n _ _ _ a3 _ au) (hv hs) ?_
   refine ne hs ab ?_
   clear ab
   refine rg [0,11,56,57,58,70] hs ?_
   refine Gw h hs ?_ ?_<;>intro hs h
   ·have Q:=hs.1
    refine rg [4] hs ?_
    apply Bz;simp +decide only [go_sem,Nat.reduceAdd,B1 hla0,l,J,E,K,Q]
    have hgt:=Option.some.inj h;subst hgt
    have O:=j.unders
    simp only [List.mem_cons,List.not_mem_nil,or_false,forall_eq_or_imp,forall_eq] at O
    refine KD j (D8 (FY k j.len) ow) ls_ ev ⟨?_,_,_,?_,(j.sub (List.sublist_append_left [_] _)).len1 Et⟩
    all_goals first | rfl | (simp +decide only [go_sem,Nat.reduceAdd,B1 hla0,l,J,E,K,Q];done) | (simp +decide only [go_sem,Nat.reduceAdd,Vl.cs,Ty.cs,B1 hla0,l,J,E,K,Q];done)
   have Q:=hs.1
   refine sk [0,56,57,58] hs aj ?_
   clear aj
   obtain ⟨be,h⟩:=An h
   refine rl [0,56,57,58] hs af ?_
   clear af
   obtain ⟨bf,h⟩:=An h
   refine rl [0,56,57,58] hs (fun e s=>Vl42 ml42 e s (Nat.lt_succ_self _)) ?_
   exact ⟨(H+1),c,(i+1),d,([a3.cs]),Rl42,ef hs,ef hs,Owns.of_eq (j) Et,h⟩
  ·clear h;rintro e st ⟨t,C,z,Xk39,Rk39,rfl,rfl,j,h⟩
   rw [BQ] at h
   have O:=j.unders
   simp only [List.mem_cons,List.not_mem_nil,or_false,forall_eq_or_imp,forall_eq] at O
   refine J3 hN U V ls_ (D8 (FY k j.len) ow) j ow ow ?_
   refine rg [4] hs ?_
   apply Bz;simp +decide only [go_sem,Nat.reduceAdd,B1 hla0,l]
   have hgt:=Option.some.inj h;subst hgt
   have O:=j.unders
   simp only [List.mem_cons,List.not_mem_nil,or_false,forall_eq_or_imp,forall_eq] at O
   refine KD j (D8 (FY k j.len) ow) ls_ ev ⟨?_,_,_,?_,(j.sub (List.sublist_append_left [_] _)).len1 Et⟩
   all_goals first | rfl | (simp +decide only [go_sem,Nat.reduceAdd,B1 hla0,l];done) | (simp +decide only [go_sem,Nat.reduceAdd,Vl.cs,Ty.cs,B1 hla0,l];done)
def Dh (n:Nat) (h:Int→(List Msg)→Int→Option Int) (b:Int) (b1_l16_1:Int) (y:Slt) (b1_k30_0:List Msg):Option Int :=
 (Bn n (Chk.mk b1_k30_0 b1_l16_1) y).bind fun q =>
 if !(decide (q.1=0)) then
  some (q.1)
 else
  if Bj (b+1) then
   h (b+1) q.2.items q.2.values
  else none
def Fp (n:Nat)  (b1_k13_0:List Msg) (b1_k13_1:Int):Option Int :=
 some (0)
def Bq (n:Nat) (q:Stt):Nat→Int→(List Msg)→Int→Option Int
 | 0,_,_,_=>none
 | m+1,b,b1_l16_0,b1_l16_1 =>
  if decide (b<(q.slots.length:Int)) then
   (Gg q.slots b).bind fun h =>
   (FD n h.key).bind fun y25 =>
   if (!(decide (y25=0)))&&(!(BN h.key)) then
    some (y25)
   else
    if decide (0<b) then
     if Bj (b-1) then
      (Gg q.slots (b-1)).bind fun x36 =>
      (DK n h.key x36.key).bind fun y =>
      if decide (y=0) then
       some (7)
      else
       if decide (y=((-1))) then
        some (24)
       else
        Dh n (Bq n q m) b b1_l16_1 h b1_l16_0
     else none
    else
     Dh n (Bq n q m) b b1_l16_1 h b1_l16_0
  else
   Fp n b1_l16_0 b1_l16_1
def Ed (n:Nat) (b:Stt):Option Int :=
 if !(decide ((Bg b.number b.time)=0)) then
  some (Bg b.number b.time)
 else
  if decide (1024<(b.slots.length:Int)) then
   some (9)
  else
   Bq n b n 0 ([]) 0
theorem JR (w0:World) (hT:Lib.Utf8Tabs 1 2 w0) (n:Nat) (B:Aq) (Rw:Au) (L:Av) (a0:Stt) (r:Int) (h:Ed n a0=some r) :
  ACalls Tryz.prog w0 25 [.agg (Ak a0.number::(Ak a0.time::([.list (a0.slots.map BF) .none])))] ⟨B,Rw,L⟩ fun x st=>x=Ak r∧st=⟨B,Rw,L⟩:=by
 rw [Ed] at h
 refine hd [.tmp 2] Tryz.func25 Tryz.ntmps25 fun M0 W0 G v u k hu t hs=>?_
 simp only [AL]
 refine rg [1] hs ?_
 apply Am;intro K2 Z
 refine rc 2 [1,3] hs ?_;intro K3 K
 refine Ax _ (HJ w0 _ _ _ a0.number a0.time) (hv hs) ?_
 refine ne hs K ?_
 clear K
 refine rg [1,3,15] hs ?_
 refine Gw h hs ?_ ?_<;>intro hs h
 ·refine rg [2] hs ?_
  exact rt h hs k t
 refine sk [1] hs Z ?_
 clear Z
 apply Am;intro K7 V
 refine rg [1,20] hs ?_
 refine Gw h hs ?_ ?_<;>intro hs h
 ·refine rg [2] hs ?_
  exact rt h hs k t
 refine sk [1] hs V ?_
 clear V
 refine rg [1,4] hs ?_
 refine AZ (fun e st=>∃ (l:List Msg) (p:Int) (o:Ev.Own),Ck e st B Rw L [] [Ak a0.number::(Ak a0.time::([.list (a0.slots.map BF) .none])),[.list (l.map B7) o,Ak p]] [(10,l.length,o)] (Fp n l p=some r)) ?_ ?_
 ·intro K14 N
  refine rg [1,4,22,23,24] hs ?_
  apply As
  refine AN (fun m e st=>∃ (j:Int) (d:List Msg) (b:Int) (g:Ev.Own),Ck e st B Rw L [(1,true,.box B.length 0),(4,true,.box (B.length+1) 0),(22,true,.list (a0.slots.map BF) .none),(23,true,Ak (a0.slots.length:Int)),(24,true,Ak j)] [Ak a0.number::(Ak a0.time::([.list (a0.slots.map BF) .none])),[.list (d.map B7) g,Ak b]] [(10,d.length,g)] (Bq n a0 m j d b=some r)) n ⟨0,([]),0,.full,([]),Rw,ef hs,ef hs,Owns.of_eq ((t).full 10 0) Et,h⟩ ?_
  rintro ml16 e st ⟨j,d,b,g,Xl16,Rl16,rfl,rfl,t,h⟩ Ul16 Vl16
  cases ml16 with
  | zero=>cases h
  | succ ml16 =>
  rw [Bq] at h
  have hU:=t.unders
  simp only [List.mem_cons,List.not_mem_nil,or_false,forall_eq_or_imp,forall_eq] at hU
  refine td G v u k t ?_
  refine rg [1,4,22,23,24,25] hs ?_
  apply Am;intro K18 z
  refine Gw h hs ?_ ?_<;>intro hs h
  rotate_left
  ·refine sx [] hs N ?_
   exact ⟨d,b,g,([]),Rl16,ef hs,ef hs,Owns.of_eq (t) Et,h⟩
  refine sk [1,4,22,23,24] hs z ?_
  clear z
  apply Am;intro K20 Y
  apply As
  obtain ⟨q,Q,h⟩:=bind_some h
  obtain ⟨ab,aa,E⟩:=E8 Q
  have F:=E6 (f:=BF) E
  have hs:=Ad F hs
  refine rg [1,4,5,6,22,23,24] hs ?_
  apply Am;intro K23 y
  obtain ⟨ae,J,h⟩:=bind_some h
  refine rc 2 [1,4,5,6,7,22,23,24] hs ?_;intro K24 D
  refine Ax _ (Lj w0 hT n _ _ _ q.key _ J) (hv hs) ?_
  refine ne hs D ?_
  clear D
  refine rc 2 [1,4,5,6,7,22,23,24,39] hs ?_;intro K26 C
  refine VK _ (fun _=>IE w0 _ _ _ q.key) (hv hs) ?_
  refine ne hs C ?_
  clear C
  refine Gw h hs ?_ ?_<;>intro hs h
  ·refine rg [2] hs ?_
   exact rt h hs k t
  refine sk [1,4,5,6,22,23,24] hs y ?_
  clear y
  refine AZ (fun e st=>∃ (c:List Msg) (i:Ev.Own),Ck e st B Rw L [(1,true,.box B.length 0),(4,true,.box (B.length+1) 0),(6,true,.box (B.length+2) 0),(22,true,.list (a0.slots.map BF) .none),(23,true,Ak (a0.slots.length:Int)),(24,true,Ak j)] [Ak a0.number::(Ak a0.time::([.list (a0.slots.map BF) .none])),[.list (c.map B7) i,Ak b],(q.key.cs)++(Ak q.number::(Ak q.time::(.list (q.items.map B7) .none::([.list (q.values.map C4) .none]))))] [(10,c.length,i)] (Dh n (Bq n a0 ml16) j b q c=some r)) ?_ ?_
  ·intro K31 U
   exact go (tg (a:=([1,4,5,6,22,23,24,42],([10,1,4,6,22,23,24,52],[1,4,6,22,23,24,52,53],([2],()),[1,4,6,22,23,24,55],([2],()),[1,4,6,22,23,24],()),[1,4,6,22,23,24],()))) h hs G v u k t (q1 (L6 w0 n)) (q1 U)
  ·clear h;rintro e st ⟨c,i,Xk30,Rk30,rfl,rfl,t,h⟩
   rw [Dh] at h
   have hU:=t.unders
   simp only [List.mem_cons,List.not_mem_nil,or_false,forall_eq_or_imp,forall_eq] at hU
   refine td G v u k t ?_
   obtain ⟨af,H,h⟩:=bind_some h
   refine rc 2 [1,4,8,22,23,24] hs ?_;intro K44 O
   refine T8 _ (Ji w0 hT n _ _ _ (B.length+1) (Chk.mk c b) i (ef hs) t.enter q _ H) (hv hs) ?_;rintro _ _ ⟨rfl,Rg46,ad,rfl,w⟩
   have t:=t.call w
   exact go (tg (a:=([1,4,8,22,23,24,60],([2],()),[1,4,22,23,24],[1,4,22,23,24],()))) h hs G v u k t trivial (q3 O Y (fun e s=>Vl16 ml16 e s (Nat.lt_succ_self _)))
 ·clear h;rintro e st ⟨l,p,o,Xk13,Rk13,rfl,rfl,t,h⟩
  rw [Fp] at h
  exact go (tg (a:=([2],()))) h hs G v u k t trivial trivial
def NB (k:Int):Prop := -999999999999999≤k∧k≤999999999999999
theorem ZaV (n:Nat) (l:List Int) (f:Int→Option Bool) (hf:∀ x∈l,∃ b,f x=some b) (hl:l.length≤1000000000):∀ (k m i:Nat),i+k=l.length→k<m→∃ c,Bi n l f m i=some c
 | k,0,i,_,h=>absurd h (Nat.not_lt_zero _)
 | 0,m+1,i,hi,_=>by
  rw [Bi,Bv,Ac]
  exact ⟨_,rfl⟩
 | k+1,m+1,i,hi,hm=>by
  have a:i<l.length:=by omega
  obtain ⟨b,d⟩:=hf _ (List.getElem_mem a)
  rw [Bi,Bv,Ag a,Ah rfl,AO a,Ae,d,Ae]
  by_cases h:b=true
  ·rw [Ah h];exact ⟨_,rfl⟩
  ·rw [Ai h,Ah (AW (by omega))]
   exact ZaV n l f hf hl k m (i+1) (by omega) (by omega)
theorem ZdA (n:Nat) (l:List Int) (f:Int→Option Bool) (hf:∀ x∈l,∃ b,f x=some b) (hl:l.length≤1000) (hn:10000≤n):∃ c,BS n l f=some c:=by
 obtain ⟨c,e⟩:=ZaV n l f hf (by omega) l.length n 0 (by omega) (by omega)
 have e:Bi n l f n 0=some c:=e
 rw [BS,DT,e]
 exact ⟨_,rfl⟩
theorem Zbb (n:Nat) (l:List Msg) (f:Msg→Option Bool) (hf:∀ x∈l,∃ b,f x=some b) (hl:l.length≤1000000000):∀ (k m i:Nat),i+k=l.length→k<m→∃ c,A1 n l f m i=some c
 | k,0,i,_,h=>absurd h (Nat.not_lt_zero _)
 | 0,m+1,i,hi,_=>by
  rw [A1,Bv,Ac]
  exact ⟨_,rfl⟩
 | k+1,m+1,i,hi,hm=>by
  have a:i<l.length:=by omega
  obtain ⟨b,d⟩:=hf _ (List.getElem_mem a)
  rw [A1,Bv,Ag a,Ah rfl,AO a,Ae,d,Ae]
  by_cases h:b=true
  ·rw [Ah h];exact ⟨_,rfl⟩
  ·rw [Ai h,Ah (AW (by omega))]
   exact Zbb n l f hf hl k m (i+1) (by omega) (by omega)
theorem ZdP (n:Nat) (l:List Msg) (f:Msg→Option Bool) (hf:∀ x∈l,∃ b,f x=some b) (hl:l.length≤1000) (hn:10000≤n):∃ c,BB n l f=some c:=by
 obtain ⟨c,e⟩:=Zbb n l f hf (by omega) l.length n 0 (by omega) (by omega)
 have e:A1 n l f n 0=some c:=e
 rw [BB,CN,e]
 exact ⟨_,rfl⟩
theorem ZbF (n:Nat) (a b:List Int) (f:Int→Int→Option Int) (hl:a.length≤1000000000)
  (hr:∀ p q,∃ c,f p q=some c∧(c=0↔p=q)):∀ (k m i:Nat),i+k=a.length→k<m→∃ c,A5 n a b f m i=some c∧(c=0↔a.drop i=b.drop i)
 | k,0,i,_,h=>absurd h (Nat.not_lt_zero _)
 | 0,m+1,i,hi,_=>by
  rw [A5,Bv,Ac]
  simp only [Bool.false_eq_true,if_false]
  rw [C7,Bv,List.drop_eq_nil_of_le (show a.length≤i by omega)]
  by_cases h:a.length<b.length
  ·rw [Ag h]
   simp only [if_true]
   exact ⟨-1,rfl,⟨fun h=>absurd h (by decide),fun e=>by have:=List.drop_eq_nil_iff.1 e.symm;omega⟩⟩
  ·rw [Af h]
   simp only [Bool.false_eq_true,if_false]
   exact ⟨0,rfl,⟨fun _=>(List.drop_eq_nil_of_le (by omega)).symm,fun _=>rfl⟩⟩
 | k+1,m+1,i,hi,hm=>by
  have g:i<a.length:=by omega
  rw [A5,Bv,Ag g]
  simp only [if_true,AO g,Ae,Vg]
  by_cases d:i<b.length
  ·rw [Af (show ¬ b.length≤i by omega)]
   simp only [Bool.false_eq_true,if_false,AO d,Ae]
   obtain ⟨c,e,j⟩:=hr a[i] b[i]
   rw [e,JS _ _ i g d]
   simp only [Ae]
   by_cases h0:c=0
   ·rw [Ag h0]
    simp only [Bool.not_true,Bool.false_eq_true,if_false]
    rw [Ah (AW (by omega))]
    obtain ⟨o,l,d⟩:=ZbF n a b f hl hr k m (i+1) (by omega) (by omega)
    exact ⟨o,l,d.trans ⟨fun h=>⟨j.1 h0,h⟩,fun h=>h.2⟩⟩
   ·rw [Af h0]
    simp only [Bool.not_false,if_true]
    exact ⟨c,rfl,⟨fun h=>absurd h h0,fun h=>absurd (j.2 h.1) h0⟩⟩
  ·rw [Ag (show b.length≤i by omega)]
   simp only [if_true]
   refine ⟨1,rfl,⟨fun h=>absurd h (by decide),fun e=>?_⟩⟩
   rw [List.drop_eq_nil_of_le (show b.length≤i by omega)] at e
   have:=List.drop_eq_nil_iff.1 e
   omega
theorem ZdW (n:Nat) (hn:10000≤n) (a b:Int × List Int) (ha:a.2.length≤1000):E3 n a b=some (decide (a=b)):=by
 obtain ⟨c,e,h⟩:=ZbF n a.2 b.2 (fun (x0:Int) (x1:Int)=>some (BE x0 x1)) (by omega) (fun p q=>⟨_,rfl,by rw [BE];exact MO p q⟩) a.2.length n 0 (by omega) (by omega)
 have e:A5 n a.2 b.2 (fun (x0:Int) (x1:Int)=>some (BE x0 x1)) n 0=some c:=e
 rw [List.drop_zero,List.drop_zero] at h
 obtain ⟨d,g,f⟩:=Zo n [if a.1<b.1 then -1 else if a.1=b.1 then 0 else 1,c] (by simp only [List.length_cons,List.length_nil];omega) (by simp only [List.length_cons,List.length_nil];omega)
 rw [E3,Fj,Dk,e,Ae,g,Ae,Ae]
 congr 1
 rw [decide_eq_decide,f]
 simp only [List.mem_cons,List.not_mem_nil,or_false,forall_eq_or_imp,forall_eq,MO,h]
 exact ⟨fun q=>Prod.ext q.1 q.2,fun q=>by rw [q];exact ⟨rfl,rfl⟩⟩
theorem Z7 (n:Nat) (hn:10000≤n) (a:Int × List Int) (ha:a.2.length≤1000):∃ c,Fa n a=some c:=by
 obtain ⟨b,e⟩:=ZdA n a.2 (fun (x0:Int)=>some (Df x0)) (fun x _=>⟨_,rfl⟩) ha hn
 rw [Fa]
 split
 ·exact ⟨_,rfl⟩
 split
 ·exact ⟨_,rfl⟩
 split
 ·exact ⟨_,rfl⟩
 rename_i h0 h1
 rw [e,Ae]
 have f:0<a.2.length:=by
  by_cases q:a.2.length=0
  ·exact absurd (Ag (by omega)) h0
  ·omega
 split
 ·exact ⟨_,rfl⟩
 rw [show (0:Int)=((0:Nat):Int) from rfl,AO f,Ae]
 split
 ·exact ⟨_,rfl⟩
 split
 ·exact ⟨_,rfl⟩
 split
 ·exact ⟨_,rfl⟩
 rename_i h3
 have d:1<a.2.length:=by
  by_cases q:a.2.length=1
  ·exact absurd (Ag (by omega)) h3
  ·omega
 rw [show (1:Int)=((1:Nat):Int) from rfl,AO d,Ae]
 split
 ·exact ⟨_,rfl⟩
 ·exact ⟨_,rfl⟩
theorem ZdD (n:Nat) (hn:1000000≤n) (v:Vl) (hv:v.size≤22621∧v.ok):∃ c,EB n v=some c:=by
 rw [EB]
 split
 ·exact ⟨_,rfl⟩
 split
 ·exact ⟨_,rfl⟩
 rw [M9 n v (by omega) (by omega) hv.2]
 exact ⟨_,rfl⟩
theorem W2 (n:Nat) (hn:1000000≤n) (a:Msg) (ha:DJ a):∀ (k m i:Nat),i+k=a.origins.length→k<m→∃ c,BC n a m i=some c
 | k,0,i,_,h=>absurd h (Nat.not_lt_zero _)
 | 0,m+1,i,hi,_=>by
  obtain ⟨c,e⟩:=ZdD n hn a.body ⟨ha.2.2.1,ha.2.2.2⟩
  rw [BC,Bv,Ac,Ai (by decide),Ek,e]
  exact ⟨_,rfl⟩
 | k+1,m+1,i,hi,hm=>by
  have b:i<a.origins.length:=by omega
  have d:=ha.2.1
  have ih:=W2 n hn a ha k m (i+1) (by omega) (by omega)
  rw [BC,Bv,Ag b,Ah rfl,AO b,Ae]
  split
  ·exact ⟨_,rfl⟩
  cases i with
  | zero=>rw [show decide ((0:Int)<((0:Nat):Int))=false from rfl,Ai (by decide),Ah (AW (by omega))];exact ih
  | succ j =>
   rw [LY,Ah rfl,JP,Ah (LN (by omega)),AO (by omega),Ae]
   split
   ·exact ⟨_,rfl⟩
   rw [Ah (AW (by omega))];exact ih
theorem Zgm (n:Nat) (hn:1000000≤n) (a:Msg) (ha:DJ a):∃ c,D5 n a=some c:=by
 obtain ⟨c,e⟩:=Z7 n (by omega) a.stamp (by have:=ha.1;omega)
 rw [D5,e,Ae]
 split
 ·exact ⟨_,rfl⟩
 split
 ·exact ⟨_,rfl⟩
 split
 ·exact ⟨_,rfl⟩
 split
 ·exact ⟨_,rfl⟩
 have b:=ha.2.1
 exact W2 n hn a ha a.origins.length n 0 (by omega) (by omega)
def Ua (i0:Nat) (v0:Int) (P:Prop) (o:Option (Int × Chk)):Prop:=∃ c k,o=some (c,k)∧k.items.length≤i0+4∧v0≤k.values∧k.values≤v0+4∧(c=0→P)
theorem UV (n:Nat) (hn:1000000≤n) (x:Slt) (hx:IR x) (i0:Nat) (v0:Int) (P:Prop) (hP:P) (b:List Msg) (hb:b.length≤i0+4) (hv0:0≤v0∧v0≤1000):∀ (k m i:Nat) (v:Int),i+k=x.values.length→k<m→v=v0+i→Ua i0 v0 P (AX n x m (i:Int) b v)
 | k,0,i,_,_,h,_=>absurd h (Nat.not_lt_zero _)
 | 0,m+1,i,v,hi,_,hv=>by
  have f:=hx.2.2.1
  rw [AX,Bv,Ac,Ai (by decide),BQ]
  exact ⟨_,_,rfl,hb,by simp only;omega,by simp only;omega,fun _=>hP⟩
 | k+1,m+1,i,v,hi,hm,hv=>by
  have f:=hx.2.2.1
  have a:i<x.values.length:=by omega
  obtain ⟨j,d⟩:=hx.2.2.2 _ (List.getElem_mem a)
  have c:∀ e:Int,(e=0→P)→Ua i0 v0 P (some (e,Chk.mk b v)):=fun e g=>⟨_,_,rfl,hb,by simp only;omega,by simp only;omega,g⟩
  rw [AX,Bv,Ag a,Ah rfl,AO a,Ae]
  split
  ·exact c 9 (fun h=>absurd h (by decide))
  rw [M9 n _ (by omega) (by omega) d,Ae]
  split
  ·exact c _ (fun _=>hP)
  rw [Ah (by unfold Bj;omega),Ah (AW (by omega))]
  exact UV n hn x hx i0 v0 P hP b hb hv0 k m (i+1) _ (by omega) (by omega) (by omega)
theorem UJ (n:Nat) (hn:1000000≤n) (a:Chk) (x:Slt) (hx:IR x) (P:Prop) (hP:P) (ha:a.items.length≤500) (hv0:0≤a.values∧a.values≤1000) (hms:∀ m∈a.items,DJ m):∀ (k m i:Nat) (b:List Msg),i+k=x.items.length→k<m→b.length≤a.items.length+i→(∀ m∈b,DJ m)→Ua a.items.length a.values P (AY n a x m (i:Int) b)
 | k,0,i,_,_,h,_,_=>absurd h (Nat.not_lt_zero _)
 | 0,m+1,i,b,hi,_,hb,hbm=>by
  have o:=hx.2.1.1
  have q:=hx.2.2.1
  rw [AY,Bv,Ac,Ai (by decide),BR]
  exact UV n hn x hx _ _ P hP b (by omega) hv0 x.values.length n 0 _ (by omega) (by omega) (by omega)
 | k+1,m+1,i,b,hi,hm,hb,hbm=>by
  have o:=hx.2.1.1
  have g:i<x.items.length:=by omega
  have j:=hx.2.1.2 _ (List.getElem_mem g)
  have f:∀ e:Int,Ua a.items.length a.values P (some (e,Chk.mk b a.values)):=fun e=>⟨_,_,rfl,by simp only;omega,by simp only;omega,by simp only;omega,fun _=>hP⟩
  rw [AY,Bv,Ag g,Ah rfl,AO g,Ae]
  split
  ·exact f _
  obtain ⟨c,e⟩:=Zgm n hn _ j
  rw [e,Ae]
  split
  ·exact f _
  obtain ⟨d,l⟩:=ZdP n b (fun (x0:Msg)=>Br n x0 x.items[i]) (fun y p=>by
   rw [Br,ZdW n (by omega) y.stamp _ (by have:=(hbm y p).1;omega)];exact ⟨_,rfl⟩) (by omega) (by omega)
  rw [l,Ae]
  split
  ·exact f _
  rw [Ab,Ah (AW (by omega))]
  exact UJ n hn a x hx P hP ha hv0 hms k m (i+1) _ (by omega) (by omega) (by rw [C9];omega) (Dv hbm j)
theorem L0 {a b:Int} (h:Bg a b=0):NB a∧0≤b∧b≤17592186044416:=by
 rw [Bg] at h
 split at h
 ·cases h
 ·rename_i q
  simp only [Bool.or_eq_true,decide_eq_true_eq,not_or,Int.not_lt] at q
  unfold NB
  omega
def Vd (x:Slt):Prop:=NB x.number∧(0≤x.time∧x.time≤17592186044416)∧(x.key.kind=2→NB x.key.int)
theorem ZeX (n:Nat) (hn:1000000≤n) (a:Chk) (x:Slt) (hx:IR x) (ha:a.items.length≤500) (hv0:0≤a.values∧a.values≤1000) (hms:∀ m∈a.items,DJ m) (hk:x.key.kind=2→NB x.key.int) :
  Ua a.items.length a.values (Vd x) (Bn n a x):=by
 rw [Bn]
 by_cases h:Bg x.number x.time=0
 ·rw [Ag h,Ai (by decide)]
  obtain ⟨c,b⟩:=L0 h
  have d:=hx.2.1.1
  exact UJ n hn a x hx _ ⟨c,b,hk⟩ ha hv0 hms x.items.length n 0 _ (by omega) (by omega) (by omega) hms
 ·rw [Af h,Ah (by decide)]
  exact ⟨_,_,rfl,by omega,by omega,by omega,fun q=>absurd q h⟩
theorem Zd7 {v:Vl} (h:Yn v=0) (k:v.kind=2):NB v.int:=by
 have g:=Tt _ _ h (1,v) (by rw [NY];exact List.mem_cons_self ..)
 simp only at g
 obtain ⟨g1,g2⟩:=XA g
 rw [Eu] at g
 have a:¬ BN v=true:=by
  intro q
  rw [BN] at q
  simp only [Bool.and_eq_true,decide_eq_true_eq] at q
  omega
 rw [Ai a,Ai g1,Ai g2,Aa,Ah k] at g
 split at g
 ·cases g
 ·rename_i q
  rw [not_or] at q
  have q:=q.1
  rw [BA] at q
  simp only [Bool.or_eq_true,decide_eq_true_eq,not_or,Int.not_lt] at q
  exact q
theorem UZ {n:Nat} {a:Chk} {x:Slt} {c:Int} {k:Chk} (hx:IR x) (hms:∀ m∈a.items,DJ m) (h:Bn n a x=some (c,k)):∀ m∈k.items,DJ m:=by
 have d:∀ (m:Nat) (i:Int) (b:List Msg) (v:Int),(∀ m∈b,DJ m)→AX n x m i b v=some (c,k)→∀ m∈k.items,DJ m:=by
  intro m
  induction m with
  | zero=>intro i b v hb h;cases h
  | succ m ih =>
   intro i b v hb h
   rw [AX] at h
   split at h
   ·obtain ⟨y,_,h⟩:=bind_some h
    split at h
    ·cases h;exact hb
    obtain ⟨z,_,h⟩:=bind_some h
    split at h
    ·cases h;exact hb
    obtain ⟨_,h⟩:=An h
    obtain ⟨_,h⟩:=An h
    exact ih _ _ _ hb h
   ·rw [BQ] at h;cases h;exact hb
 have e:∀ (m:Nat) (i:Int) (b:List Msg),(∀ m∈b,DJ m)→AY n a x m i b=some (c,k)→∀ m∈k.items,DJ m:=by
  intro m
  induction m with
  | zero=>intro i b hb h;cases h
  | succ m ih =>
   intro i b hb h
   rw [AY] at h
   split at h
   ·obtain ⟨y,f,h⟩:=bind_some h
    split at h
    ·cases h;exact hb
    obtain ⟨z,_,h⟩:=bind_some h
    split at h
    ·cases h;exact hb
    obtain ⟨z,_,h⟩:=bind_some h
    split at h
    ·cases h;exact hb
    obtain ⟨_,h⟩:=An h
    obtain ⟨_,h⟩:=An h
    obtain ⟨_,_,g⟩:=E8 f
    exact ih _ _ (Dv hb (hx.2.1.2 _ (List.mem_of_getElem? g))) h
   ·rw [BR] at h
    exact d _ _ _ _ hb h
 rw [Bn] at h
 split at h
 ·cases h;exact hms
 ·exact e _ _ _ hms h
theorem Zdx (n:Nat) (hn:1000000≤n) (ag:Int→List Msg→Int→Option Int) (x:Slt) (hx:IR x) (i:Nat) (hi:i≤5) (P:Prop) (b:List Msg) (v:Int) (hb:b.length≤4*i) (hbm:∀ m∈b,DJ m) (hv:0≤v∧v≤4*i) (hk:x.key.kind=2→NB x.key.int)
  (hag:Vd x→∀ b v,b.length≤4*(i+1)→(∀ m∈b,DJ m)→0≤v∧v≤4*((i:Int)+1)→∃ c,ag ((i:Int)+1) b v=some c∧(c=0→P)):∃ c,Dh n ag (i:Int) v x b=some c∧(c=0→P):=by
 obtain ⟨c,k,e,g,f,d,a⟩:=ZeX n hn (Chk.mk b v) x hx (by simp only;omega) (by simp only;omega) hbm hk
 rw [Dh,e,Ae]
 simp only at g f d a ⊢
 by_cases q:c=0
 ·rw [Ag q,Ai (by decide),Ah (AW (by omega))]
  exact hag (a q) _ _ (by omega) (UZ hx hbm e) (by omega)
 ·rw [Af q,Ah (by decide)]
  exact ⟨_,rfl,fun z=>absurd z q⟩
theorem Xi (n:Nat) (hn:1000000≤n) (a:Stt) (ha:H4 a):∀ (k m i:Nat) (b:List Msg) (v:Int),i+k=a.slots.length→k<m→b.length≤4*i→(∀ m∈b,DJ m)→0≤v∧v≤4*(i:Int)→∃ c,Bq n a m (i:Int) b v=some c∧(c=0→∀ x∈a.slots.drop i,Vd x)
 | k,0,i,_,_,_,h,_,_,_=>absurd h (Nat.not_lt_zero _)
 | 0,m+1,i,b,v,hi,_,_,_,_=>by
  rw [Bq,Bv,Ac,Ai (by decide),Fp]
  exact ⟨_,rfl,fun _=>by rw [List.drop_eq_nil_of_le (by omega)];simp⟩
 | k+1,m+1,i,b,v,hi,hm,l,f,hv=>by
  have o:=ha.1
  have d:i<a.slots.length:=by omega
  have hx:=ha.2 _ (List.getElem_mem d)
  rw [Bq,Bv,Ag d,Ah rfl,AO d,Ae,M9 n _ (by have:=hx.1.1;omega) (by have:=hx.1.1;omega) hx.1.2,Ae]
  by_cases q:(!(decide (Yn a.slots[i].key=0)) && !(BN a.slots[i].key))=true
  ·rw [Ah q]
   refine ⟨_,rfl,fun z=>?_⟩
   rw [Ag z] at q
   simp at q
  rw [Ai q]
  have g:a.slots[i].key.kind=2→NB a.slots[i].key.int:=by
   intro g
   refine Zd7 ?_ g
   simp only [Bool.and_eq_true,Bool.not_eq_true',decide_eq_false_iff_not,not_and,Bool.not_eq_false] at q
   by_cases z:Yn a.slots[i].key=0
   ·exact z
   ·have q:=q z
    rw [BN] at q
    simp only [Bool.and_eq_true,decide_eq_true_eq] at q
    omega
  have fin:=Zdx n hn (Bq n a m) a.slots[i] hx i (by omega) (∀ x∈a.slots.drop i,Vd x) b v l f hv g (fun hs b v l f hv=>by
   obtain ⟨c,e,h⟩:=Xi n hn a ha k m (i+1) b v (by omega) (by omega) l f (by omega)
   refine ⟨c,e,fun z x hx=>?_⟩
   rw [List.drop_eq_getElem_cons d] at hx
   rcases List.mem_cons.1 hx with rfl | hx
   ·exact hs
   ·exact h z x hx)
  cases i with
  | zero=>rw [show decide ((0:Int)<((0:Nat):Int))=false from rfl,Ai (by decide)];exact fin
  | succ j =>
   rw [LY,Ah rfl,JP,Ah (LN (by omega)),AO (by omega),Ae]
   obtain ⟨c,e,_⟩:=Jy n a.slots[j+1].key a.slots[j].key (by have:=hx.1.1;omega) (by have:=hx.1.1;omega)
   rw [e,Ae]
   split
   ·exact ⟨_,rfl,fun z=>absurd z (by decide)⟩
   split
   ·exact ⟨_,rfl,fun z=>absurd z (by decide)⟩
   exact fin
theorem Zaa (n:Nat) (hn:1000000≤n) (a:Stt) (ha:H4 a):∃ c,Ed n a=some c∧(c=0→NB a.number∧∀ x∈a.slots,Vd x):=by
 have g:=ha.1
 rw [Ed]
 by_cases h:Bg a.number a.time=0
 ·rw [Ag h,Ai (by decide)]
  obtain ⟨d,i⟩:=L0 h
  rw [Ac,Ai (by decide)]
  obtain ⟨c,e,b⟩:=Xi n hn a ha a.slots.length n 0 [] 0 (by omega) (by omega) (by simp) (by simp) (by omega)
  exact ⟨c,e,fun z=>⟨d,fun x f=>b z x (by simpa using f)⟩⟩
 ·rw [Af h,Ah (by decide)]
  exact ⟨_,rfl,fun z=>absurd z h⟩
def EP (h:Int) (b:Slt):Option Bool :=
 if Bj (2*h) then
  if Bj ((2*h)-2) then
   if Bj (h-1) then
    if (((!(decide ((b.items.length:Int)=1)))||(decide (b.number<0)))||(decide (((2*h)-2)<b.number)))||((!(decide (b.time=0)))&&(decide ((h-1)≤b.number))) then
     some (true)
    else
     if decide (b.number<h) then
      if Bj (2*b.number) then
       if Bj ((2*b.number)+1) then
        some (!(decide ((b.values.length:Int)=((2*b.number)+1))))
       else none
      else none
     else
      if Bj (b.number-h) then
       if Bj (2*(b.number-h)) then
        if Bj ((2*(b.number-h))+1) then
         if Bj (2*h) then
          if Bj ((2*h)-1) then
           some (((decide ((b.values.length:Int)<((2*(b.number-h))+1)))||(decide (((2*h)-1)<(b.values.length:Int))))||(decide (((b.values.length:Int).tmod 2)=0)))
          else none
         else none
        else none
       else none
      else none
   else none
  else none
 else none
theorem Ky (w0:World) (B:Aq) (Rw:Au) (L:Av) (a0:Int) (a1:Slt) (r:Bool) (h:EP a0 a1=some r) :
  ACalls Tryz.prog w0 26 [Ak a0,.agg ((a1.key.cs)++(Ak a1.number::(Ak a1.time::(.list (a1.items.map B7) .none::([.list (a1.values.map C4) .none])))))] ⟨B,Rw,L⟩ fun x st=>x = .val (.bool r)∧st=⟨B,Rw,L⟩:=by
 rw [EP] at h
 refine hd [.tmp 4] Tryz.func26 Tryz.ntmps26 fun M0 W0 s n q a t d hs=>?_
 simp only [AL]
 refine rg [0,3] hs ?_
 refine rg [0,3,5] hs ?_
 apply Am;intro K3 c
 obtain ⟨o,h⟩:=An h
 obtain ⟨p,h⟩:=An h
 obtain ⟨m,h⟩:=An h
 refine rg [0,3,5,34] hs ?_
 refine Gw h hs ?_ ?_<;>intro hs h
 ·refine rg [4] hs ?_
  exact rt h hs a d
 refine sk [0,3,5] hs c ?_
 clear c
 refine rg [0,5,6] hs ?_
 apply Am;intro K11 b
 refine rg [0,5,6,40] hs ?_
 refine Gw h hs ?_ ?_<;>intro hs h
 ·obtain ⟨k,h⟩:=An h
  obtain ⟨f,h⟩:=An h
  refine rg [4] hs ?_
  exact rt h hs a d
 refine sk [0,5,6] hs b ?_
 clear b
 obtain ⟨e,h⟩:=An h
 obtain ⟨i,h⟩:=An h
 obtain ⟨g,h⟩:=An h
 obtain ⟨l,h⟩:=An h
 obtain ⟨j,h⟩:=An h
 refine rg [4] hs ?_
 exact rt h hs a d
def B5 (n:Nat) (h:Int→Option Int) (b:Int) (q:Bool):Option Int :=
 if q then
  some (10)
 else
  if Bj (b+1) then
   h (b+1)
  else none
def Ho (n:Nat)  : Option Int :=
 some (0)
def A0 (n:Nat) (h:Nod) (y:Stt):Nat→Int→Option Int
 | 0,_=>none
 | m+1,b =>
  if decide (b<(y.slots.length:Int)) then
   (Gg y.slots b).bind fun q =>
   if Bj (b-1) then
    if (!(decide (q.key.kind=2)))||(decide (q.key.int<1)) then
     B5 n (A0 n h y m) b true
    else
     if decide (0<b) then
      (Gg y.slots (b-1)).bind fun x38 =>
      if Bj (x38.key.int+(h.calls.length:Int)) then
       if Bj (y.number-(h.calls.length:Int)) then
        if Bj ((y.number-(h.calls.length:Int))+1) then
         if (decide (q.key.int<(x38.key.int+(h.calls.length:Int))))||(decide (((y.number-(h.calls.length:Int))+1)<q.key.int)) then
          B5 n (A0 n h y m) b true
         else
          (EP (h.calls.length:Int) q).bind fun y43 =>
          B5 n (A0 n h y m) b y43
        else none
       else none
      else none
     else
      if Bj (y.number-(h.calls.length:Int)) then
       if Bj ((y.number-(h.calls.length:Int))+1) then
        if decide (((y.number-(h.calls.length:Int))+1)<q.key.int) then
         B5 n (A0 n h y m) b true
        else
         (EP (h.calls.length:Int) q).bind fun y47 =>
         B5 n (A0 n h y m) b y47
       else none
      else none
   else none
  else
   Ho n 
def FU (n:Nat) (b:Nod) (q:Stt):Option Int :=
 if !(decide (b.kind=10)) then
  some (11)
 else
  if Bj (2*(b.calls.length:Int)) then
   if ((decide ((b.calls.length:Int)<1))||(decide (16<(b.calls.length:Int))))||(!(decide ((b.types.length:Int)=(2*(b.calls.length:Int))))) then
    some (10)
   else
    (Ed n q).bind fun h =>
    if !(decide (h=0)) then
     some (h)
    else
     if (decide (q.number<0))||(!(decide (q.time=0))) then
      some (10)
     else
      A0 n b q n 0
  else none
theorem PV (w0:World) (hT:Lib.Utf8Tabs 1 2 w0) (n:Nat) (B:Aq) (Rw:Au) (L:Av) (a0:Nod) (a1:Stt) (r:Int) (h:FU n a0 a1=some r) :
  ACalls Tryz.prog w0 10 [.agg (.val (.string a0.name)::(Ak a0.kind::(Ak a0.schema::(Ak a0.result::(Ak a0.number::(Ak a0.time::(Ak a0.limit::(.val (.string a0.text)::((a0.type.cs)++(.list (a0.types.map EV) .none::(.list (a0.exprs.map GM) .none::(.list (a0.mapping.map BH) .none::(.list (a0.calls.map CX) .none::([.list (a0.next.map BG) .none])))))))))))))),.agg (Ak a1.number::(Ak a1.time::([.list (a1.slots.map BF) .none])))] ⟨B,Rw,L⟩ fun x st=>x=Ak r∧st=⟨B,Rw,L⟩:=by
 rw [FU] at h
 refine hd [.tmp 4] Tryz.func10 Tryz.ntmps10 fun M0 W0 J v t b hu g hs=>?_
 simp only [AL]
 refine rg [2,3] hs ?_
 refine rg [2,3,5] hs ?_
 apply Am;intro K3 D
 apply As
 refine rg [2,3,5,12] hs ?_
 refine Gw h hs ?_ ?_<;>intro hs h
 ·refine rg [4] hs ?_
  exact rt h hs b g
 obtain ⟨ag,h⟩:=An h
 refine rg [3,5,16] hs ?_
 refine Gw h hs ?_ ?_<;>intro hs h
 ·refine rg [4] hs ?_
  exact rt h hs b g
 refine sk [3,5] hs D ?_
 clear D
 apply Am;intro K11 k
 obtain ⟨af,F,h⟩:=bind_some h
 refine rc 2 [3,5,6] hs ?_;intro K12 p
 refine Ax _ (JR w0 hT n _ _ _ a1 _ F) (hv hs) ?_
 refine ne hs p ?_
 clear p
 refine rg [3,5,6,34] hs ?_
 refine Gw h hs ?_ ?_<;>intro hs h
 ·refine rg [4] hs ?_
  exact rt h hs b g
 refine sk [3,5] hs k ?_
 clear k
 apply Am;intro K17 o
 refine rg [3,5,43] hs ?_
 refine Gw h hs ?_ ?_<;>intro hs h
 ·refine rg [4] hs ?_
  exact rt h hs b g
 refine sk [3,5] hs o ?_
 clear o
 refine AZ (fun e st=>Ck e st B Rw L [] [.val (.string a0.name)::(Ak a0.kind::(Ak a0.schema::(Ak a0.result::(Ak a0.number::(Ak a0.time::(Ak a0.limit::(.val (.string a0.text)::((a0.type.cs)++(.list (a0.types.map EV) .none::(.list (a0.exprs.map GM) .none::(.list (a0.mapping.map BH) .none::(.list (a0.calls.map CX) .none::([.list (a0.next.map BG) .none]))))))))))))),Ak a1.number::(Ak a1.time::([.list (a1.slots.map BF) .none]))] [] (Ho n  = some r)) ?_ ?_
 ·intro K23 z
  refine rg [3,5,45,46,47] hs ?_
  apply As
  refine AN (fun m e st=>∃ (a:Int),Ck e st B Rw L [(3,true,.box (B.length+1) 0),(5,true,Ak (a0.calls.length:Int)),(45,true,.list (a1.slots.map BF) .none),(46,true,Ak (a1.slots.length:Int)),(47,true,Ak a)] [.val (.string a0.name)::(Ak a0.kind::(Ak a0.schema::(Ak a0.result::(Ak a0.number::(Ak a0.time::(Ak a0.limit::(.val (.string a0.text)::((a0.type.cs)++(.list (a0.types.map EV) .none::(.list (a0.exprs.map GM) .none::(.list (a0.mapping.map BH) .none::(.list (a0.calls.map CX) .none::([.list (a0.next.map BG) .none]))))))))))))),Ak a1.number::(Ak a1.time::([.list (a1.slots.map BF) .none]))] [] (A0 n a0 a1 m a=some r)) n ⟨0,([]),Rw,ef hs,ef hs,g,h⟩ ?_
  rintro ml25 e st ⟨a,Xl25,Rl25,rfl,rfl,g,h⟩ Ul25 Vl25
  cases ml25 with
  | zero=>cases h
  | succ ml25 =>
  rw [A0] at h
  refine td J v t b g ?_
  refine rg [3,5,45,46,47,48] hs ?_
  apply Am;intro K27 l
  refine Gw h hs ?_ ?_<;>intro hs h
  rotate_left
  ·refine sx [] hs z ?_
   exact ⟨([]),Rl25,ef hs,ef hs,g,h⟩
  refine sk [3,5,45,46,47] hs l ?_
  clear l
  apply Am;intro K29 q
  apply As
  obtain ⟨c,E,h⟩:=bind_some h
  obtain ⟨H,Q,u⟩:=E8 E
  have w:=E6 (f:=BF) u
  have hs:=Ad w hs
  refine rg [3,5,7,8,45,46,47] hs ?_
  refine AZ (fun e st=>∃ (d:Bool),Ck e st B Rw L [(3,true,.box (B.length+1) 0),(5,true,Ak (a0.calls.length:Int)),(45,true,.list (a1.slots.map BF) .none),(46,true,Ak (a1.slots.length:Int)),(47,true,Ak a),(97,true,.val (.bool d))] [.val (.string a0.name)::(Ak a0.kind::(Ak a0.schema::(Ak a0.result::(Ak a0.number::(Ak a0.time::(Ak a0.limit::(.val (.string a0.text)::((a0.type.cs)++(.list (a0.types.map EV) .none::(.list (a0.exprs.map GM) .none::(.list (a0.mapping.map BH) .none::(.list (a0.calls.map CX) .none::([.list (a0.next.map BG) .none]))))))))))))),Ak a1.number::(Ak a1.time::([.list (a1.slots.map BF) .none])),(c.key.cs)++(Ak c.number::(Ak c.time::(.list (c.items.map B7) .none::([.list (c.values.map C4) .none]))))] [] (B5 n (A0 n a0 a1 ml25) a d=some r)) ?_ ?_
  ·intro K34 i
   obtain ⟨Y,h⟩:=An h
   rcases Bool.eq_false_or_eq_true ((!(decide (c.key.kind=2)))||(decide (c.key.int<1))) with hf36 | hf36
   ·replace h:=Eh h hf36
    have hs:=Ad hf36 hs
    refine dk 46 2 1 [3,5,45,46,47,97] (al hs) NZ ?_
    refine I4 ?_
    refine dn (al hs) i ?_
    exact ⟨true,([]),Rl25,ef hs,ef hs,g,h⟩
   ·replace h:=Eg h hf36
    rcases Bool.eq_false_or_eq_true (decide (0<a)) with hf37 | hf37
    ·replace h:=Eh h hf37
     obtain ⟨O,G,K,j,h⟩:=ix BF h
     obtain ⟨ab,h⟩:=An h
     obtain ⟨ad,h⟩:=An h
     obtain ⟨V,h⟩:=An h
     rcases Bool.eq_false_or_eq_true ((decide (c.key.int<(O.key.int+(a0.calls.length:Int))))||(decide (((a1.number-(a0.calls.length:Int))+1)<c.key.int))) with hf42 | hf42
     ·replace h:=Eh h hf42
      have hs:=Ad hf36 hs
      have hs:=Ad hf37 hs
      have hs:=Ad j hs
      have hs:=Ad hf42 hs
      refine dk 46 2 1 [3,5,45,46,47,97] (al hs) NZ ?_
      refine I4 ?_
      refine dn (al hs) i ?_
      exact ⟨true,([]),Rl25,ef hs,ef hs,g,h⟩
     ·replace h:=Eg h hf42
      obtain ⟨N,C,h⟩:=bind_some h
      have hs:=Ad hf36 hs
      have hs:=Ad hf37 hs
      have hs:=Ad j hs
      have hs:=Ad hf42 hs
      refine dk 46 2 1 [3,5,45,46,47,97] (al hs) NZ ?_
      refine Ax _ (Ky w0 _ _ _ (a0.calls.length:Int) c _ C) (hv (al hs)) ?_
      refine dn (al hs) i ?_
      exact ⟨N,([]),Rl25,ef hs,ef hs,g,h⟩
    ·replace h:=Eg h hf37
     obtain ⟨aa,h⟩:=An h
     obtain ⟨Z,h⟩:=An h
     rcases Bool.eq_false_or_eq_true (decide (((a1.number-(a0.calls.length:Int))+1)<c.key.int)) with hf46 | hf46
     ·replace h:=Eh h hf46
      have hs:=Ad hf36 hs
      have hs:=Ad hf37 hs
      have hs:=Ad hf46 hs
      refine dk 46 2 1 [3,5,45,46,47,97] (al hs) NZ ?_
      refine I4 ?_
      refine dn (al hs) i ?_
      exact ⟨true,([]),Rl25,ef hs,ef hs,g,h⟩
     ·replace h:=Eg h hf46
      obtain ⟨U,y,h⟩:=bind_some h
      have hs:=Ad hf36 hs
      have hs:=Ad hf37 hs
      have hs:=Ad hf46 hs
      refine dk 46 2 1 [3,5,45,46,47,97] (al hs) NZ ?_
      refine Ax _ (Ky w0 _ _ _ (a0.calls.length:Int) c _ y) (hv (al hs)) ?_
      refine dn (al hs) i ?_
      exact ⟨U,([]),Rl25,ef hs,ef hs,g,h⟩
  ·clear h;rintro e st ⟨d,Xk33,Rk33,rfl,rfl,g,h⟩
   rw [B5] at h
   refine td J v t b g ?_
   refine Gw h hs ?_ ?_<;>intro hs h
   ·refine rg [4] hs ?_
    exact rt h hs b g
   refine sk [3,5,45,46,47] hs q ?_
   clear q
   obtain ⟨ae,h⟩:=An h
   refine rl [3,5,45,46,47] hs (fun e s=>Vl25 ml25 e s (Nat.lt_succ_self _)) ?_
   exact ⟨(a+1),([(c.key.cs)++(Ak c.number::(Ak c.time::(.list (c.items.map B7) .none::([.list (c.values.map C4) .none]))))]),Rk33,ef hs,ef hs,g,h⟩
 ·clear h;rintro e st ⟨Xk22,Rk22,rfl,rfl,g,h⟩
  rw [Ho] at h
  refine td J v t b g ?_
  refine rg [4] hs ?_
  exact rt h hs b g
def Dp (n:Nat) (h:Int→Option Int) (a0:Nod) (q:Int) (b:Slt) (y:Bool):Option Int :=
 if y then
  some (10)
 else
  if Bj (2*b.number) then
   if Bj ((2*b.number)+1) then
    if Bj (b.number-(a0.calls.length:Int)) then
     if Bj (2*(b.number-(a0.calls.length:Int))) then
      if Bj ((2*(b.number-(a0.calls.length:Int)))+1) then
       if Bj (2*(a0.calls.length:Int)) then
        if Bj ((2*(a0.calls.length:Int))-1) then
         if Bj ((a0.calls.length:Int)-1) then
          if (((decide (b.number<(a0.calls.length:Int)))&&(!(decide ((b.values.length:Int)=((2*b.number)+1)))))||((decide ((a0.calls.length:Int)≤b.number))&&(((decide ((b.values.length:Int)<((2*(b.number-(a0.calls.length:Int)))+1)))||(decide (((2*(a0.calls.length:Int))-1)<(b.values.length:Int))))||(decide (((b.values.length:Int).tmod 2)=0)))))||((!(decide (b.time=0)))&&(decide (((a0.calls.length:Int)-1)≤b.number))) then
           some (10)
          else
           if Bj (q+1) then
            h (q+1)
           else none
         else none
        else none
       else none
      else none
     else none
    else none
   else none
  else none
def H5 (n:Nat)  : Option Int :=
 some (0)
def Bh (n:Nat) (q:Nod) (y:Stt):Nat→Int→Option Int
 | 0,_=>none
 | m+1,b =>
  if decide (b<(y.slots.length:Int)) then
   (Gg y.slots b).bind fun h =>
   if Bj (b-1) then
    if (!(decide (h.key.kind=2)))||(decide (h.key.int<1)) then
     Dp n (Bh n q y m) q b h true
    else
     if decide (0<b) then
      (Gg y.slots (b-1)).bind fun x40 =>
      if Bj (x40.key.int+(q.calls.length:Int)) then
       if Bj (y.number-(q.calls.length:Int)) then
        if Bj ((y.number-(q.calls.length:Int))+1) then
         if Bj (2*(q.calls.length:Int)) then
          if Bj ((2*(q.calls.length:Int))-2) then
           Dp n (Bh n q y m) q b h (((((decide (h.key.int<(x40.key.int+(q.calls.length:Int))))||(decide (((y.number-(q.calls.length:Int))+1)<h.key.int)))||(!(decide ((h.items.length:Int)=1))))||(decide (h.number<0)))||(decide (((2*(q.calls.length:Int))-2)<h.number)))
          else none
         else none
        else none
       else none
      else none
     else
      if Bj (y.number-(q.calls.length:Int)) then
       if Bj ((y.number-(q.calls.length:Int))+1) then
        if Bj (2*(q.calls.length:Int)) then
         if Bj ((2*(q.calls.length:Int))-2) then
          Dp n (Bh n q y m) q b h ((((decide (((y.number-(q.calls.length:Int))+1)<h.key.int))||(!(decide ((h.items.length:Int)=1))))||(decide (h.number<0)))||(decide (((2*(q.calls.length:Int))-2)<h.number)))
         else none
        else none
       else none
      else none
   else none
  else
   H5 n 
def GI (n:Nat) (b:Nod) (q:Stt):Option Int :=
 if !(decide (b.kind=10)) then
  some (11)
 else
  if Bj (2*(b.calls.length:Int)) then
   if ((decide ((b.calls.length:Int)<1))||(decide (16<(b.calls.length:Int))))||(!(decide ((b.types.length:Int)=(2*(b.calls.length:Int))))) then
    some (10)
   else
    (Ed n q).bind fun h =>
    if !(decide (h=0)) then
     some (h)
    else
     if (decide (q.number<0))||(!(decide (q.time=0))) then
      some (10)
     else
      Bh n b q n 0
  else none
theorem SE (w0:World) (hT:Lib.Utf8Tabs 1 2 w0) (n:Nat) (B:Aq) (Rw:Au) (L:Av) (a0:Nod) (a1:Stt) (r:Int) (h:GI n a0 a1=some r) :
  ACalls Tryz.prog w0 11 [.agg (.val (.string a0.name)::(Ak a0.kind::(Ak a0.schema::(Ak a0.result::(Ak a0.number::(Ak a0.time::(Ak a0.limit::(.val (.string a0.text)::((a0.type.cs)++(.list (a0.types.map EV) .none::(.list (a0.exprs.map GM) .none::(.list (a0.mapping.map BH) .none::(.list (a0.calls.map CX) .none::([.list (a0.next.map BG) .none])))))))))))))),.agg (Ak a1.number::(Ak a1.time::([.list (a1.slots.map BF) .none])))] ⟨B,Rw,L⟩ fun x st=>x=Ak r∧st=⟨B,Rw,L⟩:=by
 rw [GI] at h
 refine hd [.tmp 4] Tryz.func11 Tryz.ntmps11 fun M0 W0 G w v b hu g hs=>?_
 simp only [AL]
 refine rg [2,3] hs ?_
 refine rg [2,3,5] hs ?_
 apply Am;intro K3 z
 refine rg [2,3,5,15] hs ?_
 refine Gw h hs ?_ ?_<;>intro hs h
 ·refine rg [4] hs ?_
  exact rt h hs b g
 refine sk [2,3,5] hs z ?_
 clear z
 apply Am;intro K7 E
 obtain ⟨au,h⟩:=An h
 refine rg [3,5,29] hs ?_
 refine Gw h hs ?_ ?_<;>intro hs h
 ·refine rg [4] hs ?_
  exact rt h hs b g
 refine sk [3,5] hs E ?_
 clear E
 apply Am;intro K12 p
 obtain ⟨ar,C,h⟩:=bind_some h
 refine rc 2 [3,5,6] hs ?_;intro K13 q
 refine Ax _ (JR w0 hT n _ _ _ a1 _ C) (hv hs) ?_
 refine ne hs q ?_
 clear q
 refine rg [3,5,6,33] hs ?_
 refine Gw h hs ?_ ?_<;>intro hs h
 ·refine rg [4] hs ?_
  exact rt h hs b g
 refine sk [3,5] hs p ?_
 clear p
 apply Am;intro K18 k
 refine rg [3,5,42] hs ?_
 refine Gw h hs ?_ ?_<;>intro hs h
 ·refine rg [4] hs ?_
  exact rt h hs b g
 refine sk [3,5] hs k ?_
 clear k
 refine AZ (fun e st=>Ck e st B Rw L [] [.val (.string a0.name)::(Ak a0.kind::(Ak a0.schema::(Ak a0.result::(Ak a0.number::(Ak a0.time::(Ak a0.limit::(.val (.string a0.text)::((a0.type.cs)++(.list (a0.types.map EV) .none::(.list (a0.exprs.map GM) .none::(.list (a0.mapping.map BH) .none::(.list (a0.calls.map CX) .none::([.list (a0.next.map BG) .none]))))))))))))),Ak a1.number::(Ak a1.time::([.list (a1.slots.map BF) .none]))] [] (H5 n  = some r)) ?_ ?_
 ·intro K24 F
  refine rg [3,5,7] hs ?_
  apply As
  refine AN (fun m e st=>∃ (c:Int),Ck e st B Rw L [(3,true,.box (B.length+1) 0),(5,true,Ak (a0.calls.length:Int)),(7,true,Ak c)] [.val (.string a0.name)::(Ak a0.kind::(Ak a0.schema::(Ak a0.result::(Ak a0.number::(Ak a0.time::(Ak a0.limit::(.val (.string a0.text)::((a0.type.cs)++(.list (a0.types.map EV) .none::(.list (a0.exprs.map GM) .none::(.list (a0.mapping.map BH) .none::(.list (a0.calls.map CX) .none::([.list (a0.next.map BG) .none]))))))))))))),Ak a1.number::(Ak a1.time::([.list (a1.slots.map BF) .none]))] [] (Bh n a0 a1 m c=some r)) n ⟨0,([]),Rw,ef hs,ef hs,g,h⟩ ?_
  rintro ml26 e st ⟨c,Xl26,Rl26,rfl,rfl,g,h⟩ Ul26 Vl26
  cases ml26 with
  | zero=>cases h
  | succ ml26 =>
  rw [Bh] at h
  refine td G w v b g ?_
  apply Am;intro K27 j
  refine rg [3,5,7,47] hs ?_
  refine Gw h hs ?_ ?_<;>intro hs h
  rotate_left
  ·refine sx [] hs F ?_
   exact ⟨([]),Rl26,ef hs,ef hs,g,h⟩
  refine sk [3,5,7] hs j ?_
  clear j
  apply Am;intro K30 o
  apply As
  obtain ⟨a,D,h⟩:=bind_some h
  obtain ⟨J,N,y⟩:=E8 D
  have t:=E6 (f:=BF) y
  have hs:=Ad t hs
  refine rg [3,5,7,8] hs ?_
  apply Am;intro K33 l
  refine AZ (fun e st=>∃ (d:Bool),Ck e st B Rw L [(3,true,.box (B.length+1) 0),(5,true,Ak (a0.calls.length:Int)),(7,true,Ak c),(8,true,.box (B.length+2) 0),(114,true,.val (.bool d))] [.val (.string a0.name)::(Ak a0.kind::(Ak a0.schema::(Ak a0.result::(Ak a0.number::(Ak a0.time::(Ak a0.limit::(.val (.string a0.text)::((a0.type.cs)++(.list (a0.types.map EV) .none::(.list (a0.exprs.map GM) .none::(.list (a0.mapping.map BH) .none::(.list (a0.calls.map CX) .none::([.list (a0.next.map BG) .none]))))))))))))),Ak a1.number::(Ak a1.time::([.list (a1.slots.map BF) .none])),(a.key.cs)++(Ak a.number::(Ak a.time::(.list (a.items.map B7) .none::([.list (a.values.map C4) .none]))))] [] (Dp n (Bh n a0 a1 ml26) a0 c a d=some r)) ?_ ?_
  ·intro K36 i
   obtain ⟨ab,h⟩:=An h
   rcases Bool.eq_false_or_eq_true ((!(decide (a.key.kind=2)))||(decide (a.key.int<1))) with hf38 | hf38
   ·replace h:=Eh h hf38
    have hs:=Ad hf38 hs
    refine dl 60 1 1 [3,5,7,8,114] (al hs) NZ i ?_
    exact ⟨true,([]),Rl26,ef hs,ef hs,g,h⟩
   ·replace h:=Eg h hf38
    rcases Bool.eq_false_or_eq_true (decide (0<c)) with hf39 | hf39
    ·replace h:=Eh h hf39
     obtain ⟨H,O,K,u,h⟩:=ix BF h
     obtain ⟨Q,h⟩:=An h
     obtain ⟨aa,h⟩:=An h
     obtain ⟨ao,h⟩:=An h
     obtain ⟨af,h⟩:=An h
     obtain ⟨Y,h⟩:=An h
     have hs:=Ad hf38 hs
     have hs:=Ad hf39 hs
     have hs:=Ad u hs
     refine dl 60 1 1 [3,5,7,8,114] (al hs) NZ i ?_
     exact ⟨(((((decide (a.key.int<(H.key.int+(a0.calls.length:Int))))||(decide (((a1.number-(a0.calls.length:Int))+1)<a.key.int)))||(!(decide ((a.items.length:Int)=1))))||(decide (a.number<0)))||(decide (((2*(a0.calls.length:Int))-2)<a.number))),([]),Rl26,ef hs,ef hs,g,h⟩
    ·replace h:=Eg h hf39
     obtain ⟨U,h⟩:=An h
     obtain ⟨V,h⟩:=An h
     obtain ⟨ai,h⟩:=An h
     obtain ⟨ak,h⟩:=An h
     have hs:=Ad hf38 hs
     have hs:=Ad hf39 hs
     refine dl 60 1 1 [3,5,7,8,114] (al hs) NZ i ?_
     exact ⟨((((decide (((a1.number-(a0.calls.length:Int))+1)<a.key.int))||(!(decide ((a.items.length:Int)=1))))||(decide (a.number<0)))||(decide (((2*(a0.calls.length:Int))-2)<a.number))),([]),Rl26,ef hs,ef hs,g,h⟩
  ·clear h;rintro e st ⟨d,Xk35,Rk35,rfl,rfl,g,h⟩
   rw [Dp] at h
   refine td G w v b g ?_
   refine Gw h hs ?_ ?_<;>intro hs h
   ·refine rg [4] hs ?_
    exact rt h hs b g
   refine sk [3,5,7,8] hs l ?_
   clear l
   refine rg [3,5,7,8,9] hs ?_
   obtain ⟨aj,h⟩:=An h
   obtain ⟨aq,h⟩:=An h
   obtain ⟨ap,h⟩:=An h
   obtain ⟨Z,h⟩:=An h
   obtain ⟨ae,h⟩:=An h
   obtain ⟨ad,h⟩:=An h
   obtain ⟨am,h⟩:=An h
   obtain ⟨ah,h⟩:=An h
   refine rg [3,5,7,169] (al hs) ?_
   refine Gw h hs ?_ ?_<;>intro hs h
   ·refine rg [4] hs ?_
    exact rt h hs b g
   refine sk [3,5,7] hs o ?_
   clear o
   obtain ⟨ag,h⟩:=An h
   refine rl [3,5,7] hs (fun e s=>Vl26 ml26 e s (Nat.lt_succ_self _)) ?_
   exact ⟨(c+1),([(a.key.cs)++(Ak a.number::(Ak a.time::(.list (a.items.map B7) .none::([.list (a.values.map C4) .none]))))]),Rk35,ef hs,ef hs,g,h⟩
 ·clear h;rintro e st ⟨Xk23,Rk23,rfl,rfl,g,h⟩
  rw [H5] at h
  refine td G w v b g ?_
  refine rg [4] hs ?_
  exact rt h hs b g
end Go.Proofs.YtcdnijfbfdnjlaaGreatDoor
