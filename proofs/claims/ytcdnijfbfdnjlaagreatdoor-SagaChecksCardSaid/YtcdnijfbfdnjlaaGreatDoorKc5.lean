/-
  Part 5 of the proof: rules and walks that the claim's last text uses.
-/
import Derived.Test.YtcdnijfbfdnjlaaGreatDoorKc4
set_option linter.unusedSimpArgs false
set_option linter.unusedVariables false
set_option maxRecDepth 100000
set_option maxHeartbeats 4000000
namespace Go.Proofs.YtcdnijfbfdnjlaaGreatDoor
open Go Go.RowKit Go.Ev
def Di (n:Nat) (b:Nod) (q:List (ByteArray × List (ByteArray × Ex))) (h:List Ty) (b0_k56_16:List Ex):Option Nod :=
 (Ft n b.mapping).bind fun y =>
 (Bl n b.type 4).bind fun y73 =>
 if 0≤0∧0≤(if 60<(b.name.size:Int) then 60 else (b.name.size:Int))∧(if 60<(b.name.size:Int) then 60 else (b.name.size:Int))≤(b.name.size:Int) then
  if 0≤0∧0≤(if 60<(b.text.size:Int) then 60 else (b.text.size:Int))∧(if 60<(b.text.size:Int) then 60 else (b.text.size:Int))≤(b.text.size:Int) then
   if 0≤0∧0≤(if 70<(b.next.length:Int) then 70 else (b.next.length:Int))∧(if 70<(b.next.length:Int) then 70 else (b.next.length:Int))≤(b.next.length:Int) then
    some (Nod.mk (b.name.extract 0 ((if 60<(b.name.size:Int) then 60 else (b.name.size:Int))).toNat) b.kind b.schema b.result b.number b.time b.limit (b.text.extract 0 ((if 60<(b.text.size:Int) then 60 else (b.text.size:Int))).toNat) y73 h b0_k56_16 y q (b.next.take ((if 70<(b.next.length:Int) then 70 else (b.next.length:Int))).toNat))
   else none
  else none
 else none
def B6 (n:Nat) (y:Nod):Nat→(List (ByteArray × List (ByteArray × Ex)))→(List Ty)→Int→(List Ex)→Option Nod
 | 0,_,_,_,_=>none
 | m+1,q,h,b,b0_l59_16 =>
  if (decide (b<(y.types.length:Int)))&&(decide (b<8)) then
   (GM y.types b).bind fun x64 =>
   (Bl n x64 4).bind fun y65 =>
   if (h.length+1)*104≤140737488355328∧h.length+1≤4611686018427387904 then
    if Bj (b+1) then
     (B6 n y m) q (h++([y65])) (b+1) b0_l59_16
    else none
   else none
  else
   Di n y q h b0_l59_16
def Ee (n:Nat) (h:Nod) (b:List (ByteArray × List (ByteArray × Ex))) (b0_k38_16:List Ex):Option Nod :=
 B6 n h n b ([]) 0 b0_k38_16
def Cb (n:Nat) (y:Nod):Nat→(List (ByteArray × List (ByteArray × Ex)))→Int→(List Ex)→Option Nod
 | 0,_,_,_=>none
 | m+1,h,b,b0_l41_16 =>
  if (decide (b<(y.calls.length:Int)))&&(decide (b<4)) then
   (GM y.calls b).bind fun q =>
   if 0≤0∧0≤(if 60<(q.1.size:Int) then 60 else (q.1.size:Int))∧(if 60<(q.1.size:Int) then 60 else (q.1.size:Int))≤(q.1.size:Int) then
    (Ft n q.2).bind fun y48 =>
    if (h.length+1)*40≤140737488355328∧h.length+1≤4611686018427387904 then
     if Bj (b+1) then
      (Cb n y m) (h++([(q.1.extract 0 ((if 60<(q.1.size:Int) then 60 else (q.1.size:Int))).toNat,y48)])) (b+1) b0_l41_16
     else none
    else none
   else none
  else
   Ee n y h b0_l41_16
def Eg (n:Nat) (b:Nod) (b0_k22_16:List Ex):Option Nod :=
 Cb n b n ([]) 0 b0_k22_16
def B5 (n:Nat) (y:Nod) (h:(List (ByteArray × Ex))):Nat→Int→(List Ex)→Option Nod
 | 0,_,_=>none
 | m+1,b,b0_l25_16 =>
  if decide (b<(h.length:Int)) then
   (GM h b).bind fun q =>
   if (b0_l25_16.length+1)*80≤140737488355328∧b0_l25_16.length+1≤4611686018427387904 then
    if Bj (b+1) then
     (B5 n y h m) (b+1) (b0_l25_16++([q.2]))
    else none
   else none
  else
   Eg n y b0_l25_16
def ER (n:Nat) (h:Nod) (b2_k4_0:List (ByteArray × Ex)):Option Nod :=
 (Ft n b2_k4_0).bind fun b =>
 B5 n h b n 0 ([])
def CQ (n:Nat) (h:Nod):Nat→Int→(List (ByteArray × Ex))→Option Nod
 | 0,_,_=>none
 | m+1,b,b2_l7_0 =>
  if (decide (b<(h.exprs.length:Int)))&&(decide (b<4)) then
   (GM h.exprs b).bind fun q =>
   if (b2_l7_0.length+1)*96≤140737488355328∧b2_l7_0.length+1≤4611686018427387904 then
    if Bj (b+1) then
     (CQ n h m) (b+1) (b2_l7_0++([((⟨#[]⟩:ByteArray),q)]))
    else none
   else none
  else
   ER n h b2_l7_0
def Fa (n:Nat) (b:Nod):Option Nod :=
 CQ n b n 0 ([])
theorem MD (w0:World) (n:Nat) (B:Aq) (Rw:Au) (L:Av) (a0:Nod) (r:Nod) (h:Fa n a0=some r) :
  ACalls Tryz.prog w0 7 [.agg (.val (.string a0.name)::(Ak a0.kind::(Ak a0.schema::(Ak a0.result::(Ak a0.number::(Ak a0.time::(Ak a0.limit::(.val (.string a0.text)::((a0.type.cs)++(.list (a0.types.map Gx) .none::(.list (a0.exprs.map Ir) .none::(.list (a0.mapping.map BX) .none::(.list (a0.calls.map Ej) .none::([.list (a0.next.map C4) .none]))))))))))))))] ⟨B,Rw,L⟩ fun x st=>x = .agg (.val (.string r.name)::(Ak r.kind::(Ak r.schema::(Ak r.result::(Ak r.number::(Ak r.time::(Ak r.limit::(.val (.string r.text)::((r.type.cs)++(.list (r.types.map Gx) .none::(.list (r.exprs.map Ir) .none::(.list (r.mapping.map BX) .none::(.list (r.calls.map Ej) .none::([.list (r.next.map C4) .none]))))))))))))))∧st=⟨B,Rw,L⟩:=by
 rw [Fa] at h
 refine hd [.cell 2 34] Tryz.func7 Tryz.ntmps7 fun M0 W0 hN ah ai o hu v hs=>?_
 simp only [AM]
 refine rg [1,2] hs ?_
 refine rg [1,2,3] hs ?_
 refine A2 (fun e st=>∃ (l:List (ByteArray × Ex)) (D:Ev.Own),Ck e st B Rw L [(1,true,.box B.length 0),(2,true,.box (B.length+1) 0),(3,true,.box (B.length+2) 0)] [.val (.string a0.name)::(Ak a0.kind::(Ak a0.schema::(Ak a0.result::(Ak a0.number::(Ak a0.time::(Ak a0.limit::(.val (.string a0.text)::((a0.type.cs)++(.list (a0.types.map Gx) .none::(.list (a0.exprs.map Ir) .none::(.list (a0.mapping.map BX) .none::(.list (a0.calls.map Ej) .none::([.list (a0.next.map C4) .none]))))))))))))),[.val (.string (⟨#[]⟩:ByteArray)),Ak 0,Ak 0,Ak 0,Ak 0,Ak 0,Ak 0,.val (.string (⟨#[]⟩:ByteArray)),Ak 0,Ak 0,Ak 0,Ak 0,.list ([]) .full,.list ([]) .full,.list ([]) .full,.list ([]) .full,.list ([]) .full,.list ([]) .full,.list ([]) .full,.list ([]) .full],[.list (l.map BX) D]] [(6,l.length,D)] (ER n a0 l=some r)) ?_ ?_
 ·intro K5 bd
  refine rg [1,2,3,4] hs ?_
  apply As
  refine AP (fun m e st=>∃ (aj:Int) (J:List (ByteArray × Ex)) (Q:Ev.Own),Ck e st B Rw L [(1,true,.box B.length 0),(2,true,.box (B.length+1) 0),(3,true,.box (B.length+2) 0),(4,true,Ak aj)] [.val (.string a0.name)::(Ak a0.kind::(Ak a0.schema::(Ak a0.result::(Ak a0.number::(Ak a0.time::(Ak a0.limit::(.val (.string a0.text)::((a0.type.cs)++(.list (a0.types.map Gx) .none::(.list (a0.exprs.map Ir) .none::(.list (a0.mapping.map BX) .none::(.list (a0.calls.map Ej) .none::([.list (a0.next.map C4) .none]))))))))))))),[.val (.string (⟨#[]⟩:ByteArray)),Ak 0,Ak 0,Ak 0,Ak 0,Ak 0,Ak 0,.val (.string (⟨#[]⟩:ByteArray)),Ak 0,Ak 0,Ak 0,Ak 0,.list ([]) .full,.list ([]) .full,.list ([]) .full,.list ([]) .full,.list ([]) .full,.list ([]) .full,.list ([]) .full,.list ([]) .full],[.list (J.map BX) Q]] [(6,J.length,Q)] (CQ n a0 m aj J=some r)) n ⟨0,([]),.full,([]),Rw,ef hs,ef hs,Owns.of_eq ((v).full 6 0) EF,h⟩ ?_
  rintro ml7 e st ⟨aj,J,Q,Xl7,Rl7,rfl,rfl,v,h⟩ Ul7 Vl7
  cases ml7 with
  | zero=>cases h
  | succ ml7 =>
  rw [CQ] at h
  exact go (tg (a:=([1,2,3,4,18],([1,2,3,4],[9,1,2,3,4],[1,2,3,4],()),[1,2,3],()))) h hs hN ah ai o v (q1 (ae YA SY)) (q2 bd (fun e s=>Vl7 ml7 e s (Nat.lt_succ_self _)))
 ·clear h;rintro e st ⟨l,D,Xk4,Rk4,rfl,rfl,v,h⟩
  rw [ER] at h
  have hU:=v.unders
  simp only [List.mem_cons,List.not_mem_nil,or_false,forall_eq_or_imp,forall_eq] at hU
  refine td hN ah ai o v ?_
  obtain ⟨ag,bc,h⟩:=bind_some h
  refine rc 2 [1,2,3] hs ?_;intro K18 a2
  refine Az _ (GN w0 n _ _ _ l _ bc) (hv hs) ?_
  refine ne hs a2 ?_
  clear a2
  have hs:=Ad (Ty.cs_eqs a0.type) hs
  refine rg [1,2,3] hs ?_
  refine A2 (fun e st=>∃ (i:List Ex) (j:Ev.Own),Ck e st B Rw L [(1,true,.box B.length 0),(2,true,.box (B.length+1) 0)] [[.val (.string a0.name),Ak a0.kind,Ak a0.schema,Ak a0.result,Ak a0.number,Ak a0.time,Ak a0.limit,.val (.string a0.text),Ak a0.type.kind,Ak a0.type.min,Ak a0.type.max,Ak a0.type.scale,.list (a0.type.words.map JO) .none,.list (a0.type.elem.map Gx) .none,.list (a0.type.fields.map GE) .none,.list (a0.types.map Gx) .none,.list (i.map Ir) j,.list (a0.mapping.map BX) .none,.list (a0.calls.map Ej) .none,.list (a0.next.map C4) .none],[.val (.string (⟨#[]⟩:ByteArray)),Ak 0,Ak 0,Ak 0,Ak 0,Ak 0,Ak 0,.val (.string (⟨#[]⟩:ByteArray)),Ak 0,Ak 0,Ak 0,Ak 0,.list ([]) .full,.list ([]) .full,.list ([]) .full,.list ([]) .full,.list ([]) .full,.list ([]) .full,.list ([]) .full,.list ([]) .full],[.list (ag.map BX) .none]] [(5,i.length,j)] (Eg n a0 i=some r)) ?_ ?_
  ·intro K23 a9
   refine rg [1,2,3,5] hs ?_
   apply As
   refine AP (fun m e st=>∃ (af:Int) (u:List Ex) (w:Ev.Own),Ck e st B Rw L [(1,true,.box B.length 0),(2,true,.box (B.length+1) 0),(3,true,.box (B.length+2) 0),(5,true,Ak af)] [[.val (.string a0.name),Ak a0.kind,Ak a0.schema,Ak a0.result,Ak a0.number,Ak a0.time,Ak a0.limit,.val (.string a0.text),Ak a0.type.kind,Ak a0.type.min,Ak a0.type.max,Ak a0.type.scale,.list (a0.type.words.map JO) .none,.list (a0.type.elem.map Gx) .none,.list (a0.type.fields.map GE) .none,.list (a0.types.map Gx) .none,.list (u.map Ir) w,.list (a0.mapping.map BX) .none,.list (a0.calls.map Ej) .none,.list (a0.next.map C4) .none],[.val (.string (⟨#[]⟩:ByteArray)),Ak 0,Ak 0,Ak 0,Ak 0,Ak 0,Ak 0,.val (.string (⟨#[]⟩:ByteArray)),Ak 0,Ak 0,Ak 0,Ak 0,.list ([]) .full,.list ([]) .full,.list ([]) .full,.list ([]) .full,.list ([]) .full,.list ([]) .full,.list ([]) .full,.list ([]) .full],[.list (ag.map BX) .none]] [(5,u.length,w)] (B5 n a0 ag m af u=some r)) n ⟨0,([]),.full,([]),Rk4,ef hs,ef hs,Owns.of_eq (((v).full 5 0).sub (List.sublist_append_left [(5,0,Own.full)] [(6,l.length,D)])) EF,h⟩ ?_
   rintro ml25 e st ⟨af,u,w,Xl25,Rl25,rfl,rfl,v,h⟩ Ul25 Vl25
   cases ml25 with
   | zero=>cases h
   | succ ml25 =>
   rw [B5] at h
   exact go (tg (a:=([1,2,3,5,39],([1,2,3,5],[9,1,2,3,5],[1,2,3,5],()),[1,2],()))) h hs hN ah ai o v (q1 (ae Za5 S5)) (q2 a9 (fun e s=>Vl25 ml25 e s (Nat.lt_succ_self _)))
  ·clear h;rintro e st ⟨i,j,Xk22,Rk22,rfl,rfl,v,h⟩
   rw [Eg] at h
   have hU:=v.unders
   simp only [List.mem_cons,List.not_mem_nil,or_false,forall_eq_or_imp,forall_eq] at hU
   refine td hN ah ai o v ?_
   refine rg [1,2,6] hs ?_
   refine A2 (fun e st=>∃ (N:List (ByteArray × List (ByteArray × Ex))) (g:List Ex) (G:Ev.Own) (k:Ev.Own),Ck e st B Rw L [(1,true,.box B.length 0),(2,true,.box (B.length+1) 0),(6,true,.list (N.map Ej) G)] [[.val (.string a0.name),Ak a0.kind,Ak a0.schema,Ak a0.result,Ak a0.number,Ak a0.time,Ak a0.limit,.val (.string a0.text),Ak a0.type.kind,Ak a0.type.min,Ak a0.type.max,Ak a0.type.scale,.list (a0.type.words.map JO) .none,.list (a0.type.elem.map Gx) .none,.list (a0.type.fields.map GE) .none,.list (a0.types.map Gx) .none,.list (g.map Ir) k,.list (a0.mapping.map BX) .none,.list (a0.calls.map Ej) .none,.list (a0.next.map C4) .none],[.val (.string (⟨#[]⟩:ByteArray)),Ak 0,Ak 0,Ak 0,Ak 0,Ak 0,Ak 0,.val (.string (⟨#[]⟩:ByteArray)),Ak 0,Ak 0,Ak 0,Ak 0,.list ([]) .full,.list ([]) .full,.list ([]) .full,.list ([]) .full,.list ([]) .full,.list ([]) .full,.list ([]) .full,.list ([]) .full],[.list (ag.map BX) .none]] [(2,N.length,G),(5,g.length,k)] (Ee n a0 N g=some r)) ?_ ?_
   ·intro K39 a8
    refine rg [1,2,6,7] hs ?_
    apply As
    refine AP (fun m e st=>∃ (p:List (ByteArray × List (ByteArray × Ex))) (Y:Int) (c:List Ex) (K:Ev.Own) (f:Ev.Own),Ck e st B Rw L [(1,true,.box B.length 0),(2,true,.box (B.length+1) 0),(6,true,.list (p.map Ej) K),(7,true,Ak Y)] [[.val (.string a0.name),Ak a0.kind,Ak a0.schema,Ak a0.result,Ak a0.number,Ak a0.time,Ak a0.limit,.val (.string a0.text),Ak a0.type.kind,Ak a0.type.min,Ak a0.type.max,Ak a0.type.scale,.list (a0.type.words.map JO) .none,.list (a0.type.elem.map Gx) .none,.list (a0.type.fields.map GE) .none,.list (a0.types.map Gx) .none,.list (c.map Ir) f,.list (a0.mapping.map BX) .none,.list (a0.calls.map Ej) .none,.list (a0.next.map C4) .none],[.val (.string (⟨#[]⟩:ByteArray)),Ak 0,Ak 0,Ak 0,Ak 0,Ak 0,Ak 0,.val (.string (⟨#[]⟩:ByteArray)),Ak 0,Ak 0,Ak 0,Ak 0,.list ([]) .full,.list ([]) .full,.list ([]) .full,.list ([]) .full,.list ([]) .full,.list ([]) .full,.list ([]) .full,.list ([]) .full],[.list (ag.map BX) .none]] [(2,p.length,K),(5,c.length,f)] (Cb n a0 m p Y c=some r)) n ⟨([]),0,i,.full,j,([]),Rk22,ef hs,ef hs,Owns.of_eq ((v).full 2 0) EF,h⟩ ?_
    rintro ml41 e st ⟨p,Y,c,K,f,Xl41,Rl41,rfl,rfl,v,h⟩ Ul41 Vl41
    cases ml41 with
    | zero=>cases h
    | succ ml41 =>
    rw [Cb] at h
    have hU:=v.unders
    simp only [List.mem_cons,List.not_mem_nil,or_false,forall_eq_or_imp,forall_eq] at hU
    obtain ⟨a6,a5⟩:=hU
    refine td hN ah ai o v ?_
    apply Am;intro K42 au
    refine rg [1,2,6,7,61] hs ?_
    refine GB h hs ?_ ?_<;>intro hs h
    rotate_left
    ·refine sx [1,2,6] hs a8 ?_
     exact ⟨p,c,K,f,([]),Rl41,ef hs,ef hs,Owns.of_eq (((v).swap (List.Perm.swap _ _ _)).swap (List.Perm.swap _ _ _)) EF,h⟩
    refine sk [1,2,6,7] hs au ?_
    clear au
    apply Am;intro K45 av
    apply As
    obtain ⟨ao,bh,bj,a3,h⟩:=ix Ej h
    obtain ⟨bq,h⟩:=An h
    obtain ⟨bl,ba,h⟩:=bind_some h
    obtain ⟨ap,h⟩:=An h
    obtain ⟨bn,am,v,O⟩:=v.append (P:=Tryz.prog) Zgv (by rw [Za4];rfl) (by decide) 1 ap.1 ap.2
    replace O:=fun (ys:List AV) B L o2=>O (p.map Ej) ys B L o2 EF
    replace O:=fun (y:AV) B L o2=>O [y] B L o2 EF ev
    try simp only [List.mem_singleton,List.mem_cons,List.not_mem_nil,or_false,forall_eq_or_imp,forall_eq,List.map_append,List.map_cons,List.map_nil,HQ,HI,HH,HU,HF,HS,Gf,F9,HT,EC,Ep,Gg,Gi,Gh,HL,Ge,HG] at O
    have hs:=Ad a3 hs
    have hs:=Ad O hs
    refine dk 25 2 1 [1,2,6,7] hs Pz ?_
    refine Az _ (GN w0 n _ _ _ ao.2 _ ba) (hv hs) ?_
    refine dn hs av ?_
    clear av
    obtain ⟨bs,h⟩:=An h
    refine rl [1,2,6,7] hs (fun e s=>Vl41 ml41 e s (Nat.lt_succ_self _)) ?_
    exact ⟨(p++([(ao.1.extract 0 ((if 60<(ao.1.size:Int) then 60 else (ao.1.size:Int))).toNat,bl)])),(Y+1),c,bn,f,([]),am,ef hs,ef hs,Owns.of_eq (((v).swap (List.Perm.swap _ _ _)).swap (List.Perm.swap _ _ _)) EF,h⟩
   ·clear h;rintro e st ⟨N,g,G,k,Xk38,Rk38,rfl,rfl,v,h⟩
    rw [Ee] at h
    have hU:=v.unders
    simp only [List.mem_cons,List.not_mem_nil,or_false,forall_eq_or_imp,forall_eq] at hU
    obtain ⟨a6,a5⟩:=hU
    refine td hN ah ai o v ?_
    refine rg [1,2,6,8] hs ?_
    refine A2 (fun e st=>∃ (aa:List (ByteArray × List (ByteArray × Ex))) (Z:List Ty) (q:List Ex) (ab:Ev.Own) (ad:Ev.Own) (C:Ev.Own),Ck e st B Rw L [(1,true,.box B.length 0),(2,true,.box (B.length+1) 0),(6,true,.list (aa.map Ej) ab),(8,true,.list (Z.map Gx) ad)] [[.val (.string a0.name),Ak a0.kind,Ak a0.schema,Ak a0.result,Ak a0.number,Ak a0.time,Ak a0.limit,.val (.string a0.text),Ak a0.type.kind,Ak a0.type.min,Ak a0.type.max,Ak a0.type.scale,.list (a0.type.words.map JO) .none,.list (a0.type.elem.map Gx) .none,.list (a0.type.fields.map GE) .none,.list (a0.types.map Gx) .none,.list (q.map Ir) C,.list (a0.mapping.map BX) .none,.list (a0.calls.map Ej) .none,.list (a0.next.map C4) .none],[.val (.string (⟨#[]⟩:ByteArray)),Ak 0,Ak 0,Ak 0,Ak 0,Ak 0,Ak 0,.val (.string (⟨#[]⟩:ByteArray)),Ak 0,Ak 0,Ak 0,Ak 0,.list ([]) .full,.list ([]) .full,.list ([]) .full,.list ([]) .full,.list ([]) .full,.list ([]) .full,.list ([]) .full,.list ([]) .full],[.list (ag.map BX) .none]] [(2,aa.length,ab),(7,Z.length,ad),(5,q.length,C)] (Di n a0 aa Z q=some r)) ?_ ?_
    ·intro K57 a7
     refine rg [1,2,6,8,9] hs ?_
     apply As
     refine AP (fun m e st=>∃ (E:List (ByteArray × List (ByteArray × Ex))) (t:List Ty) (V:Int) (b:List Ex) (z:Ev.Own) (H:Ev.Own) (d:Ev.Own),Ck e st B Rw L [(1,true,.box B.length 0),(2,true,.box (B.length+1) 0),(6,true,.list (E.map Ej) z),(8,true,.list (t.map Gx) H),(9,true,Ak V)] [[.val (.string a0.name),Ak a0.kind,Ak a0.schema,Ak a0.result,Ak a0.number,Ak a0.time,Ak a0.limit,.val (.string a0.text),Ak a0.type.kind,Ak a0.type.min,Ak a0.type.max,Ak a0.type.scale,.list (a0.type.words.map JO) .none,.list (a0.type.elem.map Gx) .none,.list (a0.type.fields.map GE) .none,.list (a0.types.map Gx) .none,.list (b.map Ir) d,.list (a0.mapping.map BX) .none,.list (a0.calls.map Ej) .none,.list (a0.next.map C4) .none],[.val (.string (⟨#[]⟩:ByteArray)),Ak 0,Ak 0,Ak 0,Ak 0,Ak 0,Ak 0,.val (.string (⟨#[]⟩:ByteArray)),Ak 0,Ak 0,Ak 0,Ak 0,.list ([]) .full,.list ([]) .full,.list ([]) .full,.list ([]) .full,.list ([]) .full,.list ([]) .full,.list ([]) .full,.list ([]) .full],[.list (ag.map BX) .none]] [(2,E.length,z),(7,t.length,H),(5,b.length,d)] (B6 n a0 m E t V b=some r)) n ⟨N,([]),0,g,G,.full,k,([]),Rk38,ef hs,ef hs,Owns.of_eq ((((v).swap (List.Perm.swap _ _ _)).full 7 0).swap ((List.Perm.cons _ (List.Perm.swap _ _ _)).trans (List.Perm.swap _ _ _))) EF,h⟩ ?_
     rintro ml59 e st ⟨E,t,V,b,z,H,d,Xl59,Rl59,rfl,rfl,v,h⟩ Ul59 Vl59
     cases ml59 with
     | zero=>cases h
     | succ ml59 =>
     rw [B6] at h
     have hU:=v.unders
     simp only [List.mem_cons,List.not_mem_nil,or_false,forall_eq_or_imp,forall_eq] at hU
     obtain ⟨a6,a5,bk⟩:=hU
     refine td hN ah ai o v ?_
     apply Am;intro K60 aw
     refine rg [1,2,6,8,9,98] hs ?_
     refine GB h hs ?_ ?_<;>intro hs h
     rotate_left
     ·refine sx [1,2,6,8] hs a7 ?_
      exact ⟨E,t,b,z,H,d,([]),Rl59,ef hs,ef hs,Owns.of_eq ((((v).swap ((List.Perm.cons _ (List.Perm.swap _ _ _)).trans (List.Perm.swap _ _ _))).swap ((List.Perm.cons _ (List.Perm.swap _ _ _)).trans (List.Perm.swap _ _ _))).swap ((List.Perm.cons _ (List.Perm.swap _ _ _)).trans (List.Perm.swap _ _ _))) EF,h⟩
     refine sk [1,2,6,8,9] hs aw ?_
     clear aw
     apply Am;intro K63 az
     apply As
     obtain ⟨bf,bm,be,a4,h⟩:=ix Gx h
     obtain ⟨bg,bb,h⟩:=bind_some h
     obtain ⟨a1,h⟩:=An h
     have v:=v.swap (List.Perm.swap _ _ _)
     obtain ⟨bi,ak,v,U⟩:=v.append (P:=Tryz.prog) Za2 (by rw [S7];rfl) (by decide) 1 a1.1 a1.2
     replace U:=fun (ys:List AV) B L o2=>U (t.map Gx) ys B L o2 EF
     replace U:=fun (y:AV) B L o2=>U [y] B L o2 EF ev
     try simp only [List.mem_singleton,List.mem_cons,List.not_mem_nil,or_false,forall_eq_or_imp,forall_eq,List.map_append,List.map_cons,List.map_nil,HQ,HI,HH,HU,HF,HS,Gf,F9,HT,EC,Ep,Gg,Gi,Gh,HL,Ge,HG] at U
     have hs:=Ad a4 hs
     have hs:=Ad U hs
     refine rk 2 [1,2,6,8,9] hs ?_
     refine Az _ (E6 w0 n _ _ _ bf 4 _ bb) (hv hs) ?_
     refine ne hs az ?_
     clear az
     obtain ⟨bo,h⟩:=An h
     refine rl [1,2,6,8,9] hs (fun e s=>Vl59 ml59 e s (Nat.lt_succ_self _)) ?_
     exact ⟨E,(t++([bg])),(V+1),b,z,bi,d,([]),ak,ef hs,ef hs,Owns.of_eq ((((v).swap ((List.Perm.cons _ (List.Perm.swap _ _ _)).trans (List.Perm.swap _ _ _))).swap (List.Perm.swap _ _ _)).swap ((List.Perm.cons _ (List.Perm.swap _ _ _)).trans (List.Perm.swap _ _ _))) EF,h⟩
    ·clear h;rintro e st ⟨aa,Z,q,ab,ad,C,Xk56,Rk56,rfl,rfl,v,h⟩
     rw [Di] at h
     have hU:=v.unders
     simp only [List.mem_cons,List.not_mem_nil,or_false,forall_eq_or_imp,forall_eq] at hU
     obtain ⟨a6,a5,bk⟩:=hU
     refine td hN ah ai o v ?_
     apply Am;intro K71 aq
     obtain ⟨bu,ar,h⟩:=bind_some h
     obtain ⟨F,ax,h⟩:=bind_some h
     apply Jw Pz [9,11,13,15] [3,6] [1,2] kr (fun s=>∃ (X:Aq) (rows:Au) (c0:List AV),s=⟨B++([c0,[.val (.string (⟨#[]⟩:ByteArray)),Ak 0,Ak 0,Ak 0,Ak 0,Ak 0,Ak 0,.val (.string (⟨#[]⟩:ByteArray)),Ak 0,Ak 0,Ak 0,Ak 0,.list ([]) .full,.list ([]) .full,.list ([]) .full,.list ([]) .full,.list ([]) .full,.list ([]) .full,.list ([]) .full,.list ([]) .full],[.list (ag.map BX) .none]]++X),rows,L⟩) 5 (B.length+3)
     ·simp +decide only [go_sem,Nat.reduceAdd]
     ·refine ⟨3,?_⟩
      rw [Ao];simp +decide only [go_sem,Nat.reduceAdd,BA,Ty.cs_eqs a0.type,Ty.cs_eqs F]
      have hs:=Ad (Ty.cs_eqs F) hs
      (repeat' apply Ad)<;>first | refine Az _ (GN w0 n _ _ _ a0.mapping _ ar) (hv hs) ?_ | exact cl
      rw [Ao];simp +decide only [go_sem,Nat.reduceAdd,Ty.cs_eqs a0.type,Ty.cs_eqs F]
      (repeat' apply Ad)<;>first | refine Az _ (E6 w0 n _ _ _ a0.type 4 _ ax) (hv hs) ?_ | exact cl
      rw [Ao];simp +decide only [go_sem,Nat.reduceAdd,Ty.cs_eqs a0.type,Ty.cs_eqs F]
      (repeat' apply Ad)<;>first | rfl | exact cl
     ·rintro s ⟨X,rows,c0,rfl⟩
      refine ⟨3,?_⟩
      rw [Ao];simp +decide only [go_sem,Nat.reduceAdd,BA,List.append_eq,List.cons_append,List.nil_append,Ty.cs_eqs a0.type,Ty.cs_eqs F]
      have hs:=Ad (Ty.cs_eqs F) hs
      (repeat' apply Ad)<;>first | refine Az _ (GN w0 n _ _ _ a0.mapping _ ar) (hv hs) ?_ | exact cl
      rw [Ao];simp +decide only [go_sem,Nat.reduceAdd,Ty.cs_eqs a0.type,Ty.cs_eqs F]
      (repeat' apply Ad)<;>first | refine Az _ (E6 w0 n _ _ _ a0.type 4 _ ax) (hv hs) ?_ | exact cl
      rw [Ao];simp +decide only [go_sem,Nat.reduceAdd,Ty.cs_eqs a0.type,Ty.cs_eqs F]
      (repeat' apply Ad)<;>first | rfl | ((repeat (first | exact .nil | refine .cons (ef hs) ?_));done) | exact cl
     ·exact gd (tg (a:=(9,11,13,15,[1,2]))) (Ad (Ty.cs_eqs F) (Ad (Ty.cs_eqs a0.type) hs))
     simp +decide only [go_sem,Nat.reduceAdd,Ty.cs_eqs a0.type,Ty.cs_eqs F]
     (repeat' apply Ad)<;>first | refine aq _ _ ?_ | exact cl
     clear aq
     apply Am;intro K74 ay
     obtain ⟨bt,h⟩:=An h
     obtain ⟨bp,h⟩:=An h
     obtain ⟨br,h⟩:=An h
     apply Jw Pz [22,24,26] [1,3,8,10,15,17] [1,2] kr (fun s=>∃ (X:Aq) (rows:Au) (c0:List AV),s=⟨B++([c0,[.val (.string (⟨#[]⟩:ByteArray)),Ak 0,Ak 0,Ak 0,Ak 0,Ak 0,Ak 0,.val (.string (⟨#[]⟩:ByteArray)),Ak 0,Ak 0,Ak 0,Ak 0,.list ([]) .full,.list ([]) .full,.list ([]) .full,.list ([]) .full,.list ([]) .full,.list ([]) .full,.list ([]) .full,.list ([]) .full],[.list (ag.map BX) .none]]++X),rows,L⟩) 4 (B.length+3)
     ·simp +decide only [go_sem,Nat.reduceAdd]
     ·refine ⟨1,?_⟩
      rw [Ao];simp +decide only [go_sem,Nat.reduceAdd,BA,Ty.cs_eqs a0.type,Ty.cs_eqs F]
      (repeat' apply Ad)<;>first | rfl | exact cl
     ·rintro s ⟨X,rows,c0,rfl⟩
      refine ⟨1,?_⟩
      rw [Ao];simp +decide only [go_sem,Nat.reduceAdd,BA,List.append_eq,List.cons_append,List.nil_append,Ty.cs_eqs a0.type,Ty.cs_eqs F]
      have hs:=Ad (Ty.cs_eqs F) hs
      (repeat' apply Ad)<;>first | rfl | ((repeat (first | exact .nil | refine .cons (ef hs) ?_));done) | exact cl
     ·exact gd (tg (a:=(22,24,26,[1,2]))) (Ad (Ty.cs_eqs F) (Ad (Ty.cs_eqs a0.type) hs))
     simp +decide only [go_sem,Nat.reduceAdd,Ty.cs_eqs a0.type,Ty.cs_eqs F]
     (repeat' apply Ad)<;>first | refine ay _ _ ?_ | exact cl
     clear ay
     have hs:=Ad (Ty.cs_eqs F) hs
     refine rg [2] hs ?_
     exact rt h hs o v
def D9 (m:Msg):Prop:=m.stamp.2.length≤6∧m.origins.length≤6∧m.body.size≤22621∧m.body.ok
def IH (s:Slt):Prop:=(s.key.size≤22621∧s.key.ok)∧(s.items.length≤4∧∀ m∈s.items,D9 m)∧s.values.length≤4∧∀ v∈s.values,v.size≤22621∧v.ok
def Iw (s:Stt):Prop:=s.slots.length≤6∧∀ x∈s.slots,IH x
theorem Zbb {α:Type} (l:List α):(0:Nat)≤0∧(0:Int)≤(if 6<(l.length:Int) then 6 else (l.length:Int))∧(if 6<(l.length:Int) then 6 else (l.length:Int))≤(l.length:Int):=by
 refine ⟨Nat.le_refl _,?_,?_⟩<;>split<;>omega
theorem Zac {α:Type} (l:List α):(l.take ((if 6<(l.length:Int) then 6 else (l.length:Int))).toNat).length≤6:=by
 rw [List.length_take];split<;>omega
theorem XT (n:Nat) (hn:100≤n) (m:Msg):∃ w,CW n m=some w∧D9 w:=by
 obtain ⟨v,e,a,b⟩:=GP 4 n m.body (by omega) (by omega)
 have e:AB n m.body 5=some v:=e
 have a:v.size≤22621:=a
 have c:=Zac m.stamp.2
 have d:=Zac m.origins
 rw [CW,Ah (Zbb _),Ab,Ah (Zbb _),Ab,e,Ae]
 exact ⟨_,rfl,c,d,a,b⟩
theorem YN (n:Nat) (hn:100≤n) (ag:List Slt→Int→Option Stt) (j:Nat) (hj:j≤5) (x:Slt) (y:Vl) (hy:y.size≤22621∧y.ok) (f:List Slt) (hf:f.length≤5) (b8:List Msg) (h8:b8.length≤4∧∀ m∈b8,D9 m) (hag:∀ s,IH s→∃ w,ag (f++[s]) ((j:Int)+1)=some w∧Iw w) :
  ∀ (m k i:Nat) (b9:List Vl),i+k=4→k<m→b9.length=i→(∀ v∈b9,v.size≤22621∧v.ok)→∃ w,BU n ag (j:Int) x y m f (i:Int) b8 b9=some w∧Iw w
 | 0,k,i,_,_,h,_,_=>absurd h (Nat.not_lt_zero _)
 | m+1,k,i,b9,hi,hm,h9,hp=>by
  rw [BU]
  by_cases c:((decide ((i:Int)<(x.values.length:Int)))&&(decide ((i:Int)<4)))=true
  ·rw [Ah c]
   simp only [Bool.and_eq_true,decide_eq_true_eq] at c
   obtain ⟨l,g⟩:=c
   have a:i<x.values.length:=by omega
   obtain ⟨v,e,b,d⟩:=GP 3 n x.values[i] (by omega) (by omega)
   have e:AB n x.values[i] 4=some v:=e
   have b:v.size≤1885:=b
   obtain ⟨k,rfl⟩:∃ q,k=q+1:=⟨k-1,by omega⟩
   rw [AW a,Ae,e,Ae,Ab,Ah (AY (by omega))]
   exact YN n hn ag j hj x y hy f hf b8 h8 hag m k (i+1) _ (by omega) (by omega) (by rw [Dh];omega) (Dq hp ⟨by omega,d⟩)
  ·rw [Ai c,DT,Ab,DR,Ah (AY (by omega))]
   exact hag _ ⟨hy,h8,by simp only;omega,hp⟩
theorem Yy (n:Nat) (hn:100≤n) (ag:List Slt→Int→Option Stt) (j:Nat) (hj:j≤5) (x:Slt) (y:Vl) (hy:y.size≤22621∧y.ok) (f:List Slt) (hf:f.length≤5) (hag:∀ s,IH s→∃ w,ag (f++[s]) ((j:Int)+1)=some w∧Iw w) :
  ∀ (m k i:Nat) (b8:List Msg),i+k=4→k<m→b8.length=i→(∀ m∈b8,D9 m)→∃ w,BQ n ag (j:Int) x y m f (i:Int) b8=some w∧Iw w
 | 0,k,i,_,_,h,_,_=>absurd h (Nat.not_lt_zero _)
 | m+1,k,i,b8,hi,hm,h8,hp=>by
  rw [BQ]
  by_cases c:((decide ((i:Int)<(x.items.length:Int)))&&(decide ((i:Int)<4)))=true
  ·rw [Ah c]
   simp only [Bool.and_eq_true,decide_eq_true_eq] at c
   obtain ⟨g,d⟩:=c
   have a:i<x.items.length:=by omega
   obtain ⟨v,e,b⟩:=XT n hn x.items[i]
   obtain ⟨k,rfl⟩:∃ q,k=q+1:=⟨k-1,by omega⟩
   rw [AW a,Ae,e,Ae,Ab,Ah (AY (by omega))]
   exact Yy n hn ag j hj x y hy f hf hag m k (i+1) _ (by omega) (by omega) (by rw [Dh];omega) (Dq hp b)
  ·rw [Ai c,DN]
   exact YN n hn ag j hj x y hy f hf b8 ⟨by omega,hp⟩ hag n 4 0 [] (by omega) (by omega) rfl (by simp)
theorem Zfb (n:Nat) (hn:100≤n) (a:Stt):∀ (m k i:Nat) (f:List Slt),i+k=6→k<m→f.length=i→(∀ x∈f,IH x)→∃ w,A4 n a m f (i:Int)=some w∧Iw w
 | 0,k,i,_,_,h,_,_=>absurd h (Nat.not_lt_zero _)
 | m+1,k,i,f,hi,hm,hf,hp=>by
  rw [A4]
  by_cases c:((decide ((i:Int)<(a.slots.length:Int)))&&(decide ((i:Int)<6)))=true
  ·rw [Ah c]
   simp only [Bool.and_eq_true,decide_eq_true_eq] at c
   obtain ⟨l,j⟩:=c
   have b:i<a.slots.length:=by omega
   obtain ⟨v,e,d,g⟩:=GP 2 n a.slots[i].key (by omega) (by omega)
   have e:AB n a.slots[i].key 3=some v:=e
   have d:v.size≤157:=d
   obtain ⟨k,rfl⟩:∃ q,k=q+1:=⟨k-1,by omega⟩
   rw [AW b,Ae,e,Ae]
   exact Yy n hn _ i (by omega) _ v ⟨by omega,g⟩ f (by omega) (fun s hs=>Zfb n hn a m k (i+1) _ (by omega) (by omega) (by rw [Dh];omega) (Dq hp hs)) n 4 0 [] (by omega) (by omega) rfl (by simp)
  ·rw [Ai c,Ec]
   exact ⟨_,rfl,by simp only;omega,hp⟩
theorem Xl (n:Nat) (hn:100≤n) (a:Stt):∃ w,EI n a=some w∧Iw w:=Zfb n hn a n 6 0 [] (by omega) (by omega) rfl (by simp)
def MN (y:Nod):Prop:=y.calls.length≤4∧(∀ c∈y.calls,c.1.size≤60∧KD c.2)∧y.types.length≤8∧(∀ t∈y.types,Ky 585 4 t)∧KD y.mapping∧Ky 585 4 y.type∧y.name.size≤60
theorem ZiI {α:Type} (l:List α):(0:Nat)≤0∧(0:Int)≤(if 70<(l.length:Int) then 70 else (l.length:Int))∧(if 70<(l.length:Int) then 70 else (l.length:Int))≤(l.length:Int):=by
 refine ⟨Nat.le_refl _,?_,?_⟩<;>split<;>omega
theorem Tc (n:Nat) (hn:100≤n) (t:Ty):∃ w,Bl n t 4=some w∧Ky 585 4 w:=by
 obtain ⟨w,e,h⟩:=Qi 3 n t (by omega) (by omega)
 exact ⟨w,e,h⟩
theorem ZfT (n:Nat) (hn:100≤n) (a:Nod) (cs:List (ByteArray × List (ByteArray × Ex))) (ts:List Ty) (es:List Ex) (hc:cs.length≤4∧∀ c∈cs,c.1.size≤60∧KD c.2) (ht:ts.length≤8∧∀ t∈ts,Ky 585 4 t):∃ w,Di n a cs ts es=some w∧MN w:=by
 obtain ⟨m,e1,e⟩:=Ox n (by omega) a.mapping
 obtain ⟨t,d,b⟩:=Tc n hn a.type
 have f:=Jl a.name (c:=60) (by decide)
 rw [Di,e1,Ae,d,Ae,Ah (Jg _ (by decide)),Ah (Jg _ (by decide)),Ah (ZiI _)]
 exact ⟨_,rfl,hc.1,hc.2,ht.1,ht.2,e,b,by simp only;omega⟩
theorem ZI (n:Nat) (hn:100≤n) (a:Nod) (cs:List (ByteArray × List (ByteArray × Ex))) (es:List Ex) (hc:cs.length≤4∧∀ c∈cs,c.1.size≤60∧KD c.2) :
  ∀ (m k i:Nat) (ts:List Ty),i+k=8→k<m→ts.length=i→(∀ t∈ts,Ky 585 4 t)→∃ w,B6 n a m cs ts (i:Int) es=some w∧MN w
 | 0,k,i,_,_,h,_,_=>absurd h (Nat.not_lt_zero _)
 | m+1,k,i,ts,hi,hm,ht,hp=>by
  rw [B6]
  by_cases c:((decide ((i:Int)<(a.types.length:Int)))&&(decide ((i:Int)<8)))=true
  ·rw [Ah c]
   simp only [Bool.and_eq_true,decide_eq_true_eq] at c
   obtain ⟨g,f⟩:=c
   have b:i<a.types.length:=by omega
   obtain ⟨t,e,d⟩:=Tc n hn a.types[i]
   obtain ⟨k,rfl⟩:∃ q,k=q+1:=⟨k-1,by omega⟩
   rw [AW b,Ae,e,Ae,Ab,Ah (AY (by omega))]
   exact ZI n hn a cs es hc m k (i+1) _ (by omega) (by omega) (by rw [Dh];omega) (Dq hp d)
  ·rw [Ai c]
   exact ZfT n hn a cs ts es hc ⟨by omega,hp⟩
theorem YM (n:Nat) (hn:100≤n) (a:Nod) (es:List Ex) :
  ∀ (m k i:Nat) (cs:List (ByteArray × List (ByteArray × Ex))),i+k=4→k<m→cs.length=i→(∀ c∈cs,c.1.size≤60∧KD c.2)→∃ w,Cb n a m cs (i:Int) es=some w∧MN w
 | 0,k,i,_,_,h,_,_=>absurd h (Nat.not_lt_zero _)
 | m+1,k,i,cs,hi,hm,ht,hp=>by
  rw [Cb]
  by_cases c:((decide ((i:Int)<(a.calls.length:Int)))&&(decide ((i:Int)<4)))=true
  ·rw [Ah c]
   simp only [Bool.and_eq_true,decide_eq_true_eq] at c
   obtain ⟨j,f⟩:=c
   have b:i<a.calls.length:=by omega
   obtain ⟨t,e,d⟩:=Ox n (by omega) a.calls[i].2
   have g:=Jl a.calls[i].1 (c:=60) (by decide)
   obtain ⟨k,rfl⟩:∃ q,k=q+1:=⟨k-1,by omega⟩
   rw [AW b,Ae,Ah (Jg _ (by decide)),e,Ae,Ab,Ah (AY (by omega))]
   exact YM n hn a es m k (i+1) _ (by omega) (by omega) (by rw [Dh];omega) (Dq hp ⟨by simp only;omega,d⟩)
  ·rw [Ai c,Ee]
   exact ZI n hn a cs es ⟨by omega,hp⟩ n 8 0 [] (by omega) (by omega) rfl (by simp)
theorem ZaZ (n:Nat) (hn:100≤n) (a:Nod) (y:List (ByteArray × Ex)) (hy:y.length≤8) :
  ∀ (m k i:Nat) (es:List Ex),i+k=8→k<m→es.length=i→∃ w,B5 n a y m (i:Int) es=some w∧MN w
 | 0,k,i,_,_,h,_=>absurd h (Nat.not_lt_zero _)
 | m+1,k,i,es,hi,hm,ht=>by
  rw [B5]
  by_cases c:i<y.length
  ·rw [BH,Ag c,Ah rfl]
   obtain ⟨k,rfl⟩:∃ q,k=q+1:=⟨k-1,by omega⟩
   rw [AW c,Ae,Ab,Ah (AY (by omega))]
   exact ZaZ n hn a y hy m k (i+1) _ (by omega) (by omega) (by rw [Dh];omega)
  ·rw [BH,Af c,Ai (by decide),Eg]
   exact YM n hn a es n 4 0 [] (by omega) (by omega) rfl (by simp)
theorem Zfp (n:Nat) (hn:100≤n) (a:Nod) :
  ∀ (m k i:Nat) (es:List (ByteArray × Ex)),i+k=4→k<m→es.length=i→∃ w,CQ n a m (i:Int) es=some w∧MN w
 | 0,k,i,_,_,h,_=>absurd h (Nat.not_lt_zero _)
 | m+1,k,i,es,hi,hm,ht=>by
  rw [CQ]
  by_cases c:((decide ((i:Int)<(a.exprs.length:Int)))&&(decide ((i:Int)<4)))=true
  ·rw [Ah c]
   simp only [Bool.and_eq_true,decide_eq_true_eq] at c
   obtain ⟨f,d⟩:=c
   have b:i<a.exprs.length:=by omega
   obtain ⟨k,rfl⟩:∃ q,k=q+1:=⟨k-1,by omega⟩
   rw [AW b,Ae,Ab,Ah (AY (by omega))]
   exact Zfp n hn a m k (i+1) _ (by omega) (by omega) (by rw [Dh];omega)
  ·rw [Ai c,ER]
   obtain ⟨y,e,h⟩:=Ox n (by omega) es
   rw [e,Ae]
   exact ZaZ n hn a y h.1 n 8 0 [] (by omega) (by omega) rfl
theorem W8 (n:Nat) (hn:100≤n) (a:Nod):∃ w,Fa n a=some w∧MN w:=Zfp n hn a n 4 0 [] (by omega) (by omega) rfl
theorem ZgT {a b:ByteArray} (h:a.data.toList=b.data.toList):a=b:=by
 cases a;cases b;simp at h;rw [h]
theorem W5:∀ a b:List UInt8,Lib.compareBytes a b=0→a=b
 | [],[],_=>rfl
 | [],_::_,h=>absurd (show (-1:Int)=0 from h) (by decide)
 | _::_,[],h=>absurd (show (1:Int)=0 from h) (by decide)
 | x::a,y::b,h=>by
  simp only [Lib.compareBytes] at h
  by_cases h1:x<y
  ·simp [h1] at h
  ·by_cases h2:y<x
   ·simp [h1,h2] at h
   ·simp only [h1,h2,if_false] at h
    rw [W5 a b h]
    have:x=y:=by
     rw [UInt8.lt_iff_toNat_lt] at h1 h2
     exact UInt8.toNat_inj.1 (by omega)
    rw [this]
theorem QD (a b:ByteArray):Q6 a b=0↔a=b:=by
 unfold Q6
 constructor
 ·intro h;exact ZgT (W5 _ _ h)
 ·rintro rfl;exact Wm _
theorem JG {α:Type} (l m:List α) (i:Nat) (h1:i<l.length) (h2:i<m.length):l.drop i=m.drop i↔l[i]=m[i]∧l.drop (i+1)=m.drop (i+1):=by
 rw [List.drop_eq_getElem_cons h1,List.drop_eq_getElem_cons h2,List.cons.injEq]
theorem Y0 {n:Nat} (h:n≤1048576):n≤maxLen:=by unfold maxLen;omega
theorem Vl.ext' {a b:Vl} (h1:a.kind=b.kind) (h2:a.int=b.int) (h3:a.scale=b.scale) (h4:a.text=b.text) (h5:a.list=b.list) (h6:a.fields=b.fields):a=b:=by
 rw [←a.eta,←b.eta,h1,h2,h3,h4,h5,h6]
theorem TF.ext' {p q:TF} (h1:p.1=q.1) (h2:p.2.1=q.2.1) (h3:p.2.2.1=q.2.2.1) (h4:p.2.2.2.1=q.2.2.2.1) (h5:p.2.2.2.2=q.2.2.2.2):p=q:=by
 obtain ⟨a,b,c,d,e⟩:=p
 obtain ⟨f,h,i,g,j⟩:=q
 simp only at h1 h2 h3 h4 h5
 rw [h1,h2,h3,h4,h5]
theorem Ty.ext' {a b:Ty} (h1:a.kind=b.kind) (h2:a.min=b.min) (h3:a.max=b.max) (h4:a.scale=b.scale) (h5:a.words=b.words) (h6:a.elem=b.elem) (h7:a.fields=b.fields):a=b:=by
 rw [←a.eta,←b.eta,h1,h2,h3,h4,h5,h6,h7]
def BJ (b:Vl):Bool :=
 (((((decide (b.kind=0))&&(decide (b.int=0)))&&(decide (b.scale=0)))&&(ND b.text (⟨#[]⟩:ByteArray)))&&(decide ((b.list.length:Int)=0)))&&(decide ((b.fields.length:Int)=0))
theorem Ug (w0:World) (B:Aq) (Rw:Au) (L:Av) (a0:Vl) (r:Bool) (h:BJ a0=r) :
  ACalls Tryz.prog w0 47 [.agg (a0.cs)] ⟨B,Rw,L⟩ fun x st=>x = .val (.bool r)∧st=⟨B,Rw,L⟩:=by
 rw [BJ] at h
 refine hd [.tmp 2] Tryz.func47 Tryz.ntmps47 fun M0 W0 f c d a e b hs=>?_
 simp only [AM]
 refine rg [1] hs ?_
 refine rg [2] hs ?_
 exact rT h hs a b
theorem IC (w0:World) (B:Aq) (Rw:Au) (L:Av) (a0:Vl) :
  ACalls Tryz.prog w0 47 [.agg (a0.cs)] ⟨B,Rw,L⟩ fun x st=>x = .val (.bool (BJ a0))∧st=⟨B,Rw,L⟩:=Ug w0 B Rw L a0 _ rfl
def BB (b:Int) (q:Int) (h:Int):Int :=
 if (decide (b<q))||(decide (h<b)) then
  2
 else
  0
theorem Sv (w0:World) (B:Aq) (Rw:Au) (L:Av) (a0:Int) (a1:Int) (a2:Int) (r:Int) (h:BB a0 a1 a2=r) :
  ACalls Tryz.prog w0 109 [Ak a0,Ak a1,Ak a2] ⟨B,Rw,L⟩ fun x st=>x=Ak r∧st=⟨B,Rw,L⟩:=by
 rw [BB] at h
 refine hd [.tmp 6] Tryz.func109 Tryz.ntmps109 fun M0 W0 f c d b g e hs=>?_
 simp only [AM]
 exact go (tg (a:=([0,1,2],[14],([6],()),[],[6],()))) h hs f c d b e trivial trivial
theorem E3 (w0:World) (B:Aq) (Rw:Au) (L:Av) (a0:Int) (a1:Int) (a2:Int) :
  ACalls Tryz.prog w0 109 [Ak a0,Ak a1,Ak a2] ⟨B,Rw,L⟩ fun x st=>x=Ak (BB a0 a1 a2)∧st=⟨B,Rw,L⟩:=Sv w0 B Rw L a0 a1 a2 _ rfl
def EA (b:Vl):Int :=
 BB b.int 0 1
theorem RI (w0:World) (B:Aq) (Rw:Au) (L:Av) (a0:Vl) (r:Int) (h:EA a0=r) :
  ACalls Tryz.prog w0 108 [.agg (a0.cs)] ⟨B,Rw,L⟩ fun x st=>x=Ak r∧st=⟨B,Rw,L⟩:=by
 rw [EA] at h
 refine hd [.tmp 2] Tryz.func108 Tryz.ntmps108 fun M0 W0 f c d b g e hs=>?_
 simp only [AM]
 exact go (tg (a:=([1],[2],()))) h hs f c d b e (q1 (E3 w0)) trivial
theorem PD (w0:World) (B:Aq) (Rw:Au) (L:Av) (a0:Vl) :
  ACalls Tryz.prog w0 108 [.agg (a0.cs)] ⟨B,Rw,L⟩ fun x st=>x=Ak (EA a0)∧st=⟨B,Rw,L⟩:=RI w0 B Rw L a0 _ rfl
def BW (q:Int) (h:Int) (b:Int):Int :=
 if decide (h<q) then
  b
 else
  0
theorem Xm (w0:World) (B:Aq) (Rw:Au) (L:Av) (a0:Int) (a1:Int) (a2:Int) (r:Int) (h:BW a0 a1 a2=r) :
  ACalls Tryz.prog w0 114 [Ak a0,Ak a1,Ak a2] ⟨B,Rw,L⟩ fun x st=>x=Ak r∧st=⟨B,Rw,L⟩:=by
 rw [BW] at h
 refine hd [.tmp 6] Tryz.func114 Tryz.ntmps114 fun M0 W0 f c d b g e hs=>?_
 simp only [AM]
 exact go (tg (a:=([0,1,2],[2,9],([6],()),[],[6],()))) h hs f c d b e trivial trivial
theorem GZ (w0:World) (B:Aq) (Rw:Au) (L:Av) (a0:Int) (a1:Int) (a2:Int) :
  ACalls Tryz.prog w0 114 [Ak a0,Ak a1,Ak a2] ⟨B,Rw,L⟩ fun x st=>x=Ak (BW a0 a1 a2)∧st=⟨B,Rw,L⟩:=Xm w0 B Rw L a0 a1 a2 _ rfl
def FP (b:Vl):Option Int :=
 if b.text.size≤maxLen then
  if !(H4 b.text) then
   some (12)
  else
   if decide ((b.list.length:Int)=0) then
    some (4)
   else
    some (BW (b.list.length:Int) 1 3)
 else none
theorem PI (w0:World) (B:Aq) (Rw:Au) (L:Av) (a0:Vl) (r:Int) (h:FP a0=some r) :
  ACalls Tryz.prog w0 122 [.agg (a0.cs)] ⟨B,Rw,L⟩ fun x st=>x=Ak r∧st=⟨B,Rw,L⟩:=by
 rw [FP] at h
 refine hd [.tmp 2] Tryz.func122 Tryz.ntmps122 fun M0 W0 f c d b g e hs=>?_
 simp only [AM]
 exact go (tg (a:=([1],[1,3],([2],()),[1,8],([2],()),[1],[2],()))) h hs f c d b e (q2 (Qy w0) (GZ w0)) trivial
def EE (b:Vl):Int :=
 BB b.int ((-999999999999999)) 999999999999999
theorem Q4 (w0:World) (B:Aq) (Rw:Au) (L:Av) (a0:Vl) (r:Int) (h:EE a0=r) :
  ACalls Tryz.prog w0 110 [.agg (a0.cs)] ⟨B,Rw,L⟩ fun x st=>x=Ak r∧st=⟨B,Rw,L⟩:=by
 rw [EE] at h
 refine hd [.tmp 2] Tryz.func110 Tryz.ntmps110 fun M0 W0 f c d b g e hs=>?_
 simp only [AM]
 exact go (tg (a:=([1],[2],()))) h hs f c d b e (q1 (E3 w0)) trivial
theorem PU (w0:World) (B:Aq) (Rw:Au) (L:Av) (a0:Vl) :
  ACalls Tryz.prog w0 110 [.agg (a0.cs)] ⟨B,Rw,L⟩ fun x st=>x=Ak (EE a0)∧st=⟨B,Rw,L⟩:=Q4 w0 B Rw L a0 _ rfl
def IX (n:Nat)  : Option Int :=
 some (0)
def Fh (n:Nat) (q:List Int):Nat→Int→Option Int
 | 0,_=>none
 | m+1,b =>
  if decide (b<(q.length:Int)) then
   (GM q b).bind fun h =>
   if !(decide (h=0)) then
    some (h)
   else
    if Bj (b+1) then
     (Fh n q m) (b+1)
    else none
  else
   IX n 
def Ij (n:Nat) (b:List Int):Option Int :=
 Fh n b n 0
theorem VG (w0:World) (n:Nat) (B:Aq) (Rw:Au) (L:Av) (a0:List Int) (r:Int) (h:Ij n a0=some r) :
  ACalls Tryz.prog w0 112 [.list (a0.map C4) .none] ⟨B,Rw,L⟩ fun x st=>x=Ak r∧st=⟨B,Rw,L⟩:=by
 rw [Ij] at h
 refine hd [.tmp 2] Tryz.func112 Tryz.ntmps112 fun M0 W0 j f g b k d hs=>?_
 simp only [AM]
 refine rg [0] hs ?_
 refine A2 (fun e st=>Ck e st B Rw L [] [] [] (IX n  = some r)) ?_ ?_
 ·intro K4 i
  refine rg [5,6,7] hs ?_
  apply As
  refine AP (fun m e st=>∃ (c:Int),Ck e st B Rw L [(5,true,.list (a0.map C4) .none),(6,true,Ak (a0.length:Int)),(7,true,Ak c)] [] [] (Fh n a0 m c=some r)) n ⟨0,([]),Rw,ef hs,ef hs,d,h⟩ ?_
  rintro ml6 e st ⟨c,Xl6,Rl6,rfl,rfl,d,h⟩ Ul6 Vl6
  cases ml6 with
  | zero=>cases h
  | succ ml6 =>
  rw [Fh] at h
  exact go (tg (a:=([5,6,7,8],([5,6,7],[4,5,6,7],[4,5,6,7,12],([2],()),[5,6,7],[5,6,7],()),[],()))) h hs j f g b d trivial (q2 i (fun e s=>Vl6 ml6 e s (Nat.lt_succ_self _)))
 ·clear h;rintro e st ⟨Xk3,Rk3,rfl,rfl,d,h⟩
  rw [IX] at h
  refine td j f g b d ?_
  refine rg [2] hs ?_
  exact rt h hs b d
def Gl (n:Nat) (b:Vl):Option Int :=
 (Ij n ([BB b.int ((-999999999999999)) 999999999999999,BB b.scale 0 12])).bind fun h =>
 some (h)
theorem Rq (w0:World) (n:Nat) (B:Aq) (Rw:Au) (L:Av) (a0:Vl) (r:Int) (h:Gl n a0=some r) :
  ACalls Tryz.prog w0 111 [.agg (a0.cs)] ⟨B,Rw,L⟩ fun x st=>x=Ak r∧st=⟨B,Rw,L⟩:=by
 rw [Gl] at h
 refine hd [.tmp 2] Tryz.func111 Tryz.ntmps111 fun M0 W0 f c d b g e hs=>?_
 simp only [AM]
 exact go (tg (a:=([1],[9,2],()))) h hs f c d b e (q2 (E3 w0) (VG w0 n)) trivial
def ES  (b:Int):Option Int :=
 some (b)
def Gu (b:Vl):Option Int :=
 if decide ((BW (b.text.size:Int) 1024 5)=0) then
  if b.text.size≤maxLen then
   if !(Lib.validD b.text.data.toList) then
    ES  16
   else
    ES  (BW (b.text.size:Int) 1024 5)
  else none
 else
  ES  (BW (b.text.size:Int) 1024 5)
theorem Rf (w0:World) (hT:Lib.Utf8Tabs 1 2 w0) (B:Aq) (Rw:Au) (L:Av) (a0:Vl) (r:Int) (h:Gu a0=some r) :
  ACalls Tryz.prog w0 113 [.agg (a0.cs)] ⟨B,Rw,L⟩ fun x st=>x=Ak r∧st=⟨B,Rw,L⟩:=by
 rw [Gu] at h
 refine hd [.tmp 2] Tryz.func113 Tryz.ntmps113 fun M0 W0 k d f c l i hs=>?_
 simp only [AM]
 refine rg [1] hs ?_
 refine rc 2 [1,3] hs ?_;intro K2 g
 refine Az _ (GZ w0 _ _ _ (a0.text.size:Int) 1024 5) (hv hs) ?_
 refine ne hs g ?_
 clear g
 refine A2 (fun e st=>∃ (b:Int),Ck e st B Rw L [(3,true,Ak b)] [a0.cs] [] (ES  b=some r)) ?_ ?_
 ·intro K5 j
  exact go (tg (a:=(([3,15],([3],()),[3],()),[3,15],[3],()))) h hs k d f c i (q1 (Oj w0)) (q1 j)
 ·clear h;rintro e st ⟨b,Xk4,Rk4,rfl,rfl,i,h⟩
  rw [ES] at h
  refine td k d f c i ?_
  refine rg [2] hs ?_
  exact rt h hs c i
def Ew (b:Vl):Int :=
 BW (b.text.size:Int) 1024 5
theorem Su (w0:World) (B:Aq) (Rw:Au) (L:Av) (a0:Vl) (r:Int) (h:Ew a0=r) :
  ACalls Tryz.prog w0 116 [.agg (a0.cs)] ⟨B,Rw,L⟩ fun x st=>x=Ak r∧st=⟨B,Rw,L⟩:=by
 rw [Ew] at h
 refine hd [.tmp 2] Tryz.func116 Tryz.ntmps116 fun M0 W0 f c d b g e hs=>?_
 simp only [AM]
 exact go (tg (a:=([1],[2],()))) h hs f c d b e (q1 (GZ w0)) trivial
theorem PW (w0:World) (B:Aq) (Rw:Au) (L:Av) (a0:Vl) :
  ACalls Tryz.prog w0 116 [.agg (a0.cs)] ⟨B,Rw,L⟩ fun x st=>x=Ak (Ew a0)∧st=⟨B,Rw,L⟩:=Su w0 B Rw L a0 _ rfl
def Em (b:Vl):Int :=
 BB b.int ((-719162)) 2932896
theorem Q1 (w0:World) (B:Aq) (Rw:Au) (L:Av) (a0:Vl) (r:Int) (h:Em a0=r) :
  ACalls Tryz.prog w0 117 [.agg (a0.cs)] ⟨B,Rw,L⟩ fun x st=>x=Ak r∧st=⟨B,Rw,L⟩:=by
 rw [Em] at h
 refine hd [.tmp 2] Tryz.func117 Tryz.ntmps117 fun M0 W0 f c d b g e hs=>?_
 simp only [AM]
 exact go (tg (a:=([1],[2],()))) h hs f c d b e (q1 (E3 w0)) trivial
theorem PO (w0:World) (B:Aq) (Rw:Au) (L:Av) (a0:Vl) :
  ACalls Tryz.prog w0 117 [.agg (a0.cs)] ⟨B,Rw,L⟩ fun x st=>x=Ak (Em a0)∧st=⟨B,Rw,L⟩:=Q1 w0 B Rw L a0 _ rfl
def ED (b:Vl):Int :=
 BB b.int ((-62135596800000)) 253402300799999
theorem RZ (w0:World) (B:Aq) (Rw:Au) (L:Av) (a0:Vl) (r:Int) (h:ED a0=r) :
  ACalls Tryz.prog w0 118 [.agg (a0.cs)] ⟨B,Rw,L⟩ fun x st=>x=Ak r∧st=⟨B,Rw,L⟩:=by
 rw [ED] at h
 refine hd [.tmp 2] Tryz.func118 Tryz.ntmps118 fun M0 W0 f c d b g e hs=>?_
 simp only [AM]
 exact go (tg (a:=([1],[2],()))) h hs f c d b e (q1 (E3 w0)) trivial
theorem PN (w0:World) (B:Aq) (Rw:Au) (L:Av) (a0:Vl) :
  ACalls Tryz.prog w0 118 [.agg (a0.cs)] ⟨B,Rw,L⟩ fun x st=>x=Ak (ED a0)∧st=⟨B,Rw,L⟩:=RZ w0 B Rw L a0 _ rfl
def EB (b:Vl):Int :=
 BW (b.list.length:Int) 256 9
theorem Rb (w0:World) (B:Aq) (Rw:Au) (L:Av) (a0:Vl) (r:Int) (h:EB a0=r) :
  ACalls Tryz.prog w0 119 [.agg (a0.cs)] ⟨B,Rw,L⟩ fun x st=>x=Ak r∧st=⟨B,Rw,L⟩:=by
 rw [EB] at h
 refine hd [.tmp 2] Tryz.func119 Tryz.ntmps119 fun M0 W0 f c d b g e hs=>?_
 simp only [AM]
 exact go (tg (a:=([1],[2],()))) h hs f c d b e (q1 (GZ w0)) trivial
theorem PQ (w0:World) (B:Aq) (Rw:Au) (L:Av) (a0:Vl) :
  ACalls Tryz.prog w0 119 [.agg (a0.cs)] ⟨B,Rw,L⟩ fun x st=>x=Ak (EB a0)∧st=⟨B,Rw,L⟩:=Rb w0 B Rw L a0 _ rfl
def GG (n:Nat)  : Option Int :=
 some (0)
def CN (n:Nat) (q:Vl):Nat→Int→Option Int
 | 0,_=>none
 | m+1,b =>
  if decide (b<(q.fields.length:Int)) then
   (GM q.fields b).bind fun h =>
   if h.1.size≤maxLen then
    if !(H4 h.1) then
     some (12)
    else
     if decide (0<b) then
      if Bj (b-1) then
       (GM q.fields (b-1)).bind fun y =>
       if ND h.1 y.1 then
        some (7)
       else
        if Bj (b-1) then
         if Ys h.1 y.1 then
          some (24)
         else
          if Bj (b+1) then
           (CN n q m) (b+1)
          else none
        else none
      else none
     else
      if Bj (b+1) then
       (CN n q m) (b+1)
      else none
   else none
  else
   GG n 
def Gk (n:Nat) (b:Vl):Option Int :=
 if !(decide ((BW (b.fields.length:Int) 64 9)=0)) then
  some (BW (b.fields.length:Int) 64 9)
 else
  CN n b n 0
theorem RF (w0:World) (n:Nat) (B:Aq) (Rw:Au) (L:Av) (a0:Vl) (r:Int) (h:Gk n a0=some r) :
  ACalls Tryz.prog w0 120 [.agg (a0.cs)] ⟨B,Rw,L⟩ fun x st=>x=Ak r∧st=⟨B,Rw,L⟩:=by
 rw [Gk] at h
 refine hd [.tmp 2] Tryz.func120 Tryz.ntmps120 fun M0 W0 l f j c o d hs=>?_
 simp only [AM]
 refine rg [1] hs ?_
 apply Am;intro K2 i
 refine rc 2 [1,3] hs ?_;intro K3 g
 refine Az _ (GZ w0 _ _ _ (a0.fields.length:Int) 64 9) (hv hs) ?_
 refine ne hs g ?_
 clear g
 refine rg [1,3,11] hs ?_
 refine GB h hs ?_ ?_<;>intro hs h
 ·refine rg [2] hs ?_
  exact rt h hs c d
 refine sk [1] hs i ?_
 clear i
 refine A2 (fun e st=>Ck e st B Rw L [] [a0.cs] [] (GG n  = some r)) ?_ ?_
 ·intro K9 k
  refine rg [1,14,15,16] hs ?_
  apply As
  refine AP (fun m e st=>∃ (b:Int),Ck e st B Rw L [(1,true,.box B.length 0),(14,true,.list (a0.fields.map Ld) .none),(15,true,Ak (a0.fields.length:Int)),(16,true,Ak b)] [a0.cs] [] (CN n a0 m b=some r)) n ⟨0,([]),Rw,ef hs,ef hs,d,h⟩ ?_
  rintro ml11 e st ⟨b,Xl11,Rl11,rfl,rfl,d,h⟩ Ul11 Vl11
  cases ml11 with
  | zero=>cases h
  | succ ml11 =>
  rw [CN] at h
  exact go (tg (a:=([1,14,15,16,17],([1,14,15,16],[1,4,5,14,15,16],[1,4,5,14,15,16,21],([2],()),([15,1,4,5,14,15,16,26],([2],()),[15,1,14,15,16,41],([2],()),[1,14,15,16],[1,14,15,16],()),[15,1,4,5,14,15,16,26],[15,1,14,15,16,41],[1,14,15,16],[1,14,15,16],()),[],()))) h hs l f j c d (q1 (Qy w0)) (q2 k (fun e s=>Vl11 ml11 e s (Nat.lt_succ_self _)))
 ·clear h;rintro e st ⟨Xk8,Rk8,rfl,rfl,d,h⟩
  rw [GG] at h
  refine td l f j c d ?_
  refine rg [2] hs ?_
  exact rt h hs c d
def HZ (b:Vl):Bool :=
 (((((((((decide (b.kind=1))||(decide (b.kind=2)))||(decide (b.kind=6)))||(decide (b.kind=7)))||(decide (b.kind=3)))||(decide (b.int=0)))&&((decide (b.kind=3))||(decide (b.scale=0))))&&((((decide (b.kind=4))||(decide (b.kind=5)))||(decide (b.kind=10)))||(ND b.text (⟨#[]⟩:ByteArray))))&&(((decide (b.kind=8))||(decide (b.kind=10)))||(decide ((b.list.length:Int)=0))))&&((decide (b.kind=9))||(decide ((b.fields.length:Int)=0)))
theorem XI (w0:World) (B:Aq) (Rw:Au) (L:Av) (a0:Vl) (r:Bool) (h:HZ a0=r) :
  ACalls Tryz.prog w0 77 [.agg (a0.cs)] ⟨B,Rw,L⟩ fun x st=>x = .val (.bool r)∧st=⟨B,Rw,L⟩:=by
 rw [HZ] at h
 refine hd [.tmp 2] Tryz.func77 Tryz.ntmps77 fun M0 W0 f c d b g e hs=>?_
 simp only [AM]
 exact go (tg (a:=([1],[1,3],[1,3,4],[1,3,4,5],[2],()))) h (al hs) f c d b e trivial trivial
theorem Vh (w0:World) (B:Aq) (Rw:Au) (L:Av) (a0:Vl) :
  ACalls Tryz.prog w0 77 [.agg (a0.cs)] ⟨B,Rw,L⟩ fun x st=>x = .val (.bool (HZ a0))∧st=⟨B,Rw,L⟩:=XI w0 B Rw L a0 _ rfl
def Bd (n:Nat)  : List (Nat × Vl)→Int→Option Int
 | [],b3_r7 =>
  some (0)
 | p_r7::rest,b3_r7 =>
  if Bj (b3_r7+1) then
   if decide (4096<(b3_r7+1)) then
    some (9)
   else
    if decide (8<(p_r7.1:Int)) then
     some (23)
    else
     if BJ p_r7.2 then
      some (19)
     else
      if (decide (p_r7.2.kind<1))||(decide (10<p_r7.2.kind)) then
       some (11)
      else
       if !(HZ p_r7.2) then
        some (3)
       else
        if decide (p_r7.2.kind=0) then
         none
        else
         if decide (p_r7.2.kind=1) then
          if !(decide ((EA p_r7.2)=0)) then
           some (EA p_r7.2)
          else
           (Bd n rest) (b3_r7+1)
         else
          if decide (p_r7.2.kind=2) then
           if !(decide ((EE p_r7.2)=0)) then
            some (EE p_r7.2)
           else
            (Bd n rest) (b3_r7+1)
          else
           if decide (p_r7.2.kind=3) then
            (Gl n p_r7.2).bind fun y =>
            if !(decide (y=0)) then
             some (y)
            else
             (Bd n rest) (b3_r7+1)
           else
            if decide (p_r7.2.kind=4) then
             (Gu p_r7.2).bind fun h =>
             if !(decide (h=0)) then
              some (h)
             else
              (Bd n rest) (b3_r7+1)
            else
             if decide (p_r7.2.kind=5) then
              if !(decide ((Ew p_r7.2)=0)) then
               some (Ew p_r7.2)
              else
               (Bd n rest) (b3_r7+1)
             else
              if decide (p_r7.2.kind=6) then
               if !(decide ((Em p_r7.2)=0)) then
                some (Em p_r7.2)
               else
                (Bd n rest) (b3_r7+1)
              else
               if decide (p_r7.2.kind=7) then
                if !(decide ((ED p_r7.2)=0)) then
                 some (ED p_r7.2)
                else
                 (Bd n rest) (b3_r7+1)
               else
                if decide (p_r7.2.kind=8) then
                 if !(decide ((EB p_r7.2)=0)) then
                  some (EB p_r7.2)
                 else
                  (Bd n rest) (b3_r7+1)
                else
                 if decide (p_r7.2.kind=9) then
                  (Gk n p_r7.2).bind fun b =>
                  if !(decide (b=0)) then
                   some (b)
                  else
                   (Bd n rest) (b3_r7+1)
                 else
                  if decide (p_r7.2.kind=10) then
                   (FP p_r7.2).bind fun q =>
                   if !(decide (q=0)) then
                    some (q)
                   else
                    (Bd n rest) (b3_r7+1)
                  else
                   none
  else none
def Fq (n:Nat) (b:Vl):Option Int :=
 if b.depth<4611686018427387904∧b.wide=true then
  Bd n (FI 1 b) 0
 else none
theorem Kz (w0:World) (hT:Lib.Utf8Tabs 1 2 w0) (n:Nat) (B:Aq) (Rw:Au) (L:Av) (a0:Vl) (r:Int) (h:Fq n a0=some r) :
  ACalls Tryz.prog w0 46 [.agg (a0.cs)] ⟨B,Rw,L⟩ fun x st=>x=Ak r∧st=⟨B,Rw,L⟩:=by
 rw [Fq] at h
 refine hd [.cell 2 41] Tryz.func46 Tryz.ntmps46 fun M0 W0 o f g b hu j hs=>?_
 simp only [AM]
 refine rg [1,2] hs ?_
 apply Am;intro K2 z
 apply Ar 2 [1,2,3]
 rw [Ao];simp +decide only [go_sem,Nat.reduceAdd,Oe]
 (repeat' apply Ad)<;>first | refine Az _ (Zbe w0 _ _ _ ) (by first | rfl | (simp +decide only [go_sem,Nat.reduceAdd,Oe];done) | (simp +decide only [go_sem,Nat.reduceAdd,Vl.cs,Ty.cs,Oe];done)) ?_ | exact cl
 rw [Ao];simp +decide only [go_sem,Nat.reduceAdd,Oe]
 (repeat' apply Ad)<;>first | refine z _ _ ?_ | exact cl
 clear z
 refine rg [1,2,3,4] hs ?_
 apply Am;intro K4 ae
 refine rc 2 [2,3,4,10] hs ?_;intro K5 w
 refine TQ _ (UN w0 _ _ _ a0) (hv hs) ?_;rintro _ _ ⟨rfl,rfl⟩
 refine ne hs w ?_
 clear w
 apply As
 obtain ⟨aj,h⟩:=An h
 refine XK (G0 a0) (fun st=>st.boxes[(B.length+4)]? = some a0.cs) (fun i st=>∃ (d:Int) (Rr7:Au),st=⟨B++([a0.cs,[Ak 0],[.val .nilFunc,.clo 108 [],.clo 110 [],.clo 111 [],.clo 113 [],.clo 116 [],.clo 117 [],.clo 118 [],.clo 119 [],.clo 120 [],.clo 122 []],[Ak d],a0.cs]),Rr7,L⟩∧Owns Rw Rr7 []∧Bd n ((FI 1 a0).drop i) d=some r) (fun ex st=>ex = .ret∧∃ (z0:List AV) (z2:List AV) (z3:List AV) (z4:List AV) (rows:Au),st=⟨B++[z0,[Ak r],z2,z3,z4],rows,L⟩∧Owns Rw rows []) ev ev (PR w0 a0 aj _) (fun x F=>V3 a0 x F) (by decide) ?_ ⟨0,Rw,ef hs,j,h⟩ (fun _ _ h => .inl h.1) ?_ ?_ ?_
 ·rintro i st la ⟨d,Rr7,rfl,j,h⟩ _ _;simp +decide [St.push]
 ·rintro i s1 ⟨XB,XR,XL⟩ x M1 W1 l la ad hX hI ah ag F Y K hK
  obtain ⟨c,ai,rfl,hi⟩:=VZ a0 i x F
  (try simp only at hX)
  subst hX
  obtain ⟨d,Rr7,rfl,j,h⟩:=hI
  rw [ZaQ ai,Bd] at h
  have m:=j
  simp only [St.ext,St.push,List.append_assoc,List.append_nil]
  refine rg [2,3,4,5,12] hs ?_
  apply Ar 1 [2,3,4,5,6]
  rw [Ao];simp +decide only [go_sem,Nat.reduceAdd]
  (repeat' apply Ad)<;>first | refine hK _ _ (by simp [St.ext,St.push]) (fun KQ J=>?_) | exact cl
  clear hK
  dsimp only [St.ext,St.push]
  have kr:∀ (e:Env) (x:Int),x=r→∀ G,KQ .ret e ⟨B++(a0.cs::[Ak x]::[.val .nilFunc,.clo 108 [],.clo 110 [],.clo 111 [],.clo 113 [],.clo 116 [],.clo 117 [],.clo 118 [],.clo 119 [],.clo 120 [],.clo 122 []]::[Ak (d+1)]::a0.cs::(XB++G)),Rr7,L++ad::XL⟩:=by
   intro e x F G
   rw [F]
   exact J _ _ _ ⟨⟨B++[a0.cs,[Ak r],[.val .nilFunc,.clo 108 [],.clo 110 [],.clo 111 [],.clo 113 [],.clo 116 [],.clo 117 [],.clo 118 [],.clo 119 [],.clo 120 [],.clo 122 []],[Ak (d+1)],a0.cs],Rr7,L⟩,G,by simp only [List.append_assoc,List.cons_append,List.nil_append],⟨by simp,by first | exact Nat.le_refl _ | (have:=j.len;simp;omega),rfl⟩,rfl,⟨rfl,_,_,_,_,Rr7,rfl,j.sub (List.nil_sublist _)⟩,.inr (OL Y m j rfl (ln j m) ap_ ow)⟩
  have p:∀ (e:Env) (G:Aq),Bd n ((FI 1 a0).drop (i+1)) (d+1)=some r→KQ .normal e ⟨B++(a0.cs::[Ak 0]::[.val .nilFunc,.clo 108 [],.clo 110 [],.clo 111 [],.clo 113 [],.clo 116 [],.clo 117 [],.clo 118 [],.clo 119 [],.clo 120 [],.clo 122 []]::[Ak (d+1)]::a0.cs::(XB++G)),Rr7,L++ad::XL⟩:=fun e G h=>J _ _ _ ⟨⟨B++[a0.cs,[Ak 0],[.val .nilFunc,.clo 108 [],.clo 110 [],.clo 111 [],.clo 113 [],.clo 116 [],.clo 117 [],.clo 118 [],.clo 119 [],.clo 120 [],.clo 122 []],[Ak (d+1)],a0.cs],Rr7,L⟩,G,by simp only [List.append_assoc,List.cons_append,List.nil_append],⟨by simp,by first | exact Nat.le_refl _ | (have:=j.len;simp;omega),rfl⟩,rfl,⟨(d+1),Rr7,rfl,j,h⟩,.inr (OL Y m j rfl (ln j m) ap_ ow)⟩
  apply As
  obtain ⟨ak,h⟩:=An h
  refine rg [2,3,4,5,6] hs ?_
  apply Am;intro K11 t
  apply As
  refine rg [2,3,5,6,15] hs ?_
  refine GB h hs ?_ ?_<;>intro hs h
  ·have D:=hs.1
   exact go (tg (a:=([2],()))) h hs o f g b j trivial (q2 kr p)
  have D:=hs.1
  refine rg [2,3,6,18] hs ?_
  refine GB h hs ?_ ?_<;>intro hs h
  ·have C:=hs.1
   exact go (tg (a:=([2],()))) h hs o f g b j trivial (q2 kr p)
  have C:=hs.1
  refine rc 2 [2,3,6,21] hs ?_;intro K18 u
  refine Az _ (IC w0 _ _ _ c.2) (hv hs) ?_
  refine ne hs u ?_
  clear u
  refine GB h hs ?_ ?_<;>intro hs h
  ·have af:=hs.1
   exact go (tg (a:=([2],()))) h hs o f g b j trivial (q2 kr p)
  have af:=hs.1
  refine rg [2,3,6,24] hs ?_
  refine GB h hs ?_ ?_<;>intro hs h
  ·have y:=hs.1
   exact go (tg (a:=([2],()))) h hs o f g b j trivial (q2 kr p)
  have y:=hs.1
  refine rc 2 [2,3,6,33] hs ?_;intro K24 q
  refine Az _ (Vh w0 _ _ _ c.2) (hv hs) ?_
  refine ne hs q ?_
  clear q
  refine GB h hs ?_ ?_<;>intro hs h
  ·have aa:=hs.1
   exact go (tg (a:=([2],()))) h hs o f g b j trivial (q2 kr p)
  have aa:=hs.1
  refine sk [2,3,6] hs t ?_
  clear t
  apply Am;intro K27 k
  rcases Bool.eq_false_or_eq_true (decide (c.2.kind=0)) with hf28 | hf28
  ·replace h:=D7 h hf28
   have am:c.2.kind=0:=of_decide_eq_true hf28
   cases h
  ·replace h:=D8 h hf28
   rcases Bool.eq_false_or_eq_true (decide (c.2.kind=1)) with hf30 | hf30
   ·replace h:=D7 h hf30
    have O:c.2.kind=1:=of_decide_eq_true hf30
    exact go (tg (a:=([7,2,7],[2,7,44],([2],()),([]:List Nat),()))) h (Ad O (Ad hf30 (Ad hf28 hs))) o f g b j (q1 (PD w0)) (q3 kr p k)
   ·replace h:=D8 h hf30
    rcases Bool.eq_false_or_eq_true (decide (c.2.kind=2)) with hf35 | hf35
    ·replace h:=D7 h hf35
     have v:c.2.kind=2:=of_decide_eq_true hf35
     exact go (tg (a:=([7,2,7],[2,7,44],([2],()),([]:List Nat),()))) h (Ad v (Ad hf35 (Ad hf30 (Ad hf28 hs)))) o f g b j (q1 (PU w0)) (q3 kr p k)
    ·replace h:=D8 h hf35
     rcases Bool.eq_false_or_eq_true (decide (c.2.kind=3)) with hf40 | hf40
     ·replace h:=D7 h hf40
      have V:c.2.kind=3:=of_decide_eq_true hf40
      exact go (tg (a:=([7,2,7],[2,7,44],([2],()),([]:List Nat),()))) h (Ad V (Ad hf40 (Ad hf35 (Ad hf30 (Ad hf28 hs))))) o f g b j (q1 (Rq w0 n)) (q3 kr p k)
     ·replace h:=D8 h hf40
      rcases Bool.eq_false_or_eq_true (decide (c.2.kind=4)) with hf46 | hf46
      ·replace h:=D7 h hf46
       have E:c.2.kind=4:=of_decide_eq_true hf46
       exact go (tg (a:=([7,2,7],[2,7,44],([2],()),([]:List Nat),()))) h (Ad E (Ad hf46 (Ad hf40 (Ad hf35 (Ad hf30 (Ad hf28 hs)))))) o f g b j (q1 (Rf w0 hT)) (q3 kr p k)
      ·replace h:=D8 h hf46
       rcases Bool.eq_false_or_eq_true (decide (c.2.kind=5)) with hf52 | hf52
       ·replace h:=D7 h hf52
        have N:c.2.kind=5:=of_decide_eq_true hf52
        exact go (tg (a:=([7,2,7],[2,7,44],([2],()),([]:List Nat),()))) h (Ad N (Ad hf52 (Ad hf46 (Ad hf40 (Ad hf35 (Ad hf30 (Ad hf28 hs))))))) o f g b j (q1 (PW w0)) (q3 kr p k)
       ·replace h:=D8 h hf52
        rcases Bool.eq_false_or_eq_true (decide (c.2.kind=6)) with hf57 | hf57
        ·replace h:=D7 h hf57
         have Q:c.2.kind=6:=of_decide_eq_true hf57
         exact go (tg (a:=([7,2,7],[2,7,44],([2],()),([]:List Nat),()))) h (Ad Q (Ad hf57 (Ad hf52 (Ad hf46 (Ad hf40 (Ad hf35 (Ad hf30 (Ad hf28 hs)))))))) o f g b j (q1 (PO w0)) (q3 kr p k)
        ·replace h:=D8 h hf57
         rcases Bool.eq_false_or_eq_true (decide (c.2.kind=7)) with hf62 | hf62
         ·replace h:=D7 h hf62
          have Z:c.2.kind=7:=of_decide_eq_true hf62
          exact go (tg (a:=([7,2,7],[2,7,44],([2],()),([]:List Nat),()))) h (Ad Z (Ad hf62 (Ad hf57 (Ad hf52 (Ad hf46 (Ad hf40 (Ad hf35 (Ad hf30 (Ad hf28 hs))))))))) o f g b j (q1 (PN w0)) (q3 kr p k)
         ·replace h:=D8 h hf62
          rcases Bool.eq_false_or_eq_true (decide (c.2.kind=8)) with hf67 | hf67
          ·replace h:=D7 h hf67
           have H:c.2.kind=8:=of_decide_eq_true hf67
           exact go (tg (a:=([7,2,7],[2,7,44],([2],()),([]:List Nat),()))) h (Ad H (Ad hf67 (Ad hf62 (Ad hf57 (Ad hf52 (Ad hf46 (Ad hf40 (Ad hf35 (Ad hf30 (Ad hf28 hs)))))))))) o f g b j (q1 (PQ w0)) (q3 kr p k)
          ·replace h:=D8 h hf67
           rcases Bool.eq_false_or_eq_true (decide (c.2.kind=9)) with hf72 | hf72
           ·replace h:=D7 h hf72
            have U:c.2.kind=9:=of_decide_eq_true hf72
            exact go (tg (a:=([7,2,7],[2,7,44],([2],()),([]:List Nat),()))) h (Ad U (Ad hf72 (Ad hf67 (Ad hf62 (Ad hf57 (Ad hf52 (Ad hf46 (Ad hf40 (Ad hf35 (Ad hf30 (Ad hf28 hs))))))))))) o f g b j (q1 (RF w0 n)) (q3 kr p k)
           ·replace h:=D8 h hf72
            rcases Bool.eq_false_or_eq_true (decide (c.2.kind=10)) with hf78 | hf78
            ·replace h:=D7 h hf78
             have ab:c.2.kind=10:=of_decide_eq_true hf78
             exact go (tg (a:=([7,2,7],[2,7,44],([2],()),([]:List Nat),()))) h (Ad ab (Ad hf78 (Ad hf72 (Ad hf67 (Ad hf62 (Ad hf57 (Ad hf52 (Ad hf46 (Ad hf40 (Ad hf35 (Ad hf30 (Ad hf28 hs)))))))))))) o f g b j (q1 (PI w0)) (q3 kr p k)
            ·replace h:=D8 h hf78
             cases h
 ·rintro s la ⟨XB,XR,XL⟩ hXR ⟨d,Rr7,rfl,j,h⟩ _ _
  simp only at hXR
  subst hXR
  rw [List.drop_eq_nil_of_le (by rw [PP];exact Nat.le_refl _),Bd] at h
  simp only [St.ext,St.push,List.append_assoc,List.append_nil]
  (repeat' apply Ad)<;>first | refine ae _ _ ?_ | exact cl
  clear ae
  refine XV (bs:=[a0.cs,[Ak 0],[.val .nilFunc,.clo 108 [],.clo 110 [],.clo 111 [],.clo 113 [],.clo 116 [],.clo 117 [],.clo 118 [],.clo 119 [],.clo 120 [],.clo 122 []],[Ak d],a0.cs]) o f g rfl b j ow ow ?_
  refine rg [2] hs ?_
  exact rt h hs b j
 ·rintro ex s la ⟨XB,XR,XL⟩ hXR ⟨rfl,z0,z2,z3,z4,rows,rfl,j⟩ _ _
  simp only at hXR
  subst hXR
  simp only [St.ext,St.push,List.append_assoc,List.append_nil]
  simp +decide only [go_sem,Nat.reduceAdd]
  (repeat' with_reducible apply Ad)<;>first | refine Zix b rfl j.pre ev ⟨?_,rfl⟩ | (intros;omega) | (intros;simp_all;done)
  first | rfl | (simp +decide only [go_sem,Nat.reduceAdd];done)
def Bq (b:Int) (q:Int) (h:Int):Bool :=
 (decide (b<q))||(decide (h<b))
def DC (b:Vl):Bool :=
 (((((!((((decide (1≤b.kind))&&(decide (b.kind≤3)))||(decide (b.kind=6)))||(decide (b.kind=7))))&&(!(decide (b.int=0))))||((!(decide (b.kind=3)))&&(!(decide (b.scale=0)))))||((!(((decide (b.kind=4))||(decide (b.kind=5)))||(decide (b.kind=10))))&&(!(ND b.text (⟨#[]⟩:ByteArray)))))||((!((decide (b.kind=8))||(decide (b.kind=10))))&&(decide (0<(b.list.length:Int)))))||((!(decide (b.kind=9)))&&(decide (0<(b.fields.length:Int))))
def TI (b:Ty) (q:Int) (h:Int):Bool :=
 ((decide (q≤b.min))&&(decide (b.max≤h)))&&(decide (b.min≤b.max))
def J7 (b:Int) (h:Bool):(Int × Int) :=
 if h then
  (0,1024)
 else
  if decide (b=6) then
   ((-719162),2932896)
  else
   if decide (b=7) then
    ((-62135596800000),253402300799999)
   else
    (0,256)
def Lu (b:Int) (h:Bool):(Int × Int) :=
 if h then
  ((-999999999999999),999999999999999)
 else
  if decide (b=4) then
   J7 b true
  else
   J7 b (decide (b=5))
def Nu (b:Int):(Int × Int) :=
 if decide (b=2) then
  Lu b true
 else
  Lu b (decide (b=3))
def TZ (b:Ty):Bool :=
 (((((!(decide (2≤b.kind)&&decide (b.kind≤8)))&&((!(decide (b.min=0)))||(!(decide (b.max=0)))))||((!(decide (b.kind=3)))&&(!(decide (b.scale=0)))))||((!(decide (b.kind=4)))&&(decide (0<(b.words.length:Int)))))||((!(decide (b.kind=8)))&&(decide (0<(b.elem.length:Int)))))||(((!(decide (b.kind=9)))&&(!(decide (b.kind=10))))&&(decide (0<(b.fields.length:Int))))
theorem Ju {j:Nat}:((j+1:Nat):Int)-1=(j:Int):=by omega
theorem LA {j:Nat}:decide (0<((j+1:Nat):Int))=true:=Ag (by omega)
theorem Ls {k:Nat} (h:k<1000000000000):Bj (k:Int):=by unfold Bj;omega
def Xz:Option ByteArray→List ByteArray→Int
 | _,[]=>0
 | none,x::r=>if H4 x=true then Xz (some x) r else 12
 | some p,x::r=>if H4 x=true then (if ND x p=true then 7 else if Ys x p=true then 24 else Xz (some x) r) else 12
def U6 (l:List (ByteArray × Vl)):Nat→Option ByteArray
 | 0=>none
 | i+1=>(l[i]?).map Prod.fst
theorem V7 (n:Nat) (v:Vl) (hl:(v.fields).length≤1000000000000) (hz:∀ p∈v.fields,p.1.size≤maxLen):∀ (k m i:Nat),i+k=(v.fields).length→k<m→CN n v m i=some (Xz (U6 (v.fields) i) (((v.fields).map Prod.fst).drop i))
 | k,0,i,_,h=>absurd h (Nat.not_lt_zero _)
 | 0,m+1,i,hi,_=>by
  rw [CN,BH,Ac]
  simp only [Bool.false_eq_true,if_false,GG]
  rw [List.drop_eq_nil_of_le (by rw [List.length_map];omega)]
  cases U6 (v.fields) i<;>rfl
 | k+1,m+1,i,hi,hm=>by
  have a:i<(v.fields).length:=by omega
  have ih:=V7 n v hl hz k m (i+1) (by omega) (by omega)
  rw [CN,BH,Ag a]
  simp only [if_true,AW a,Ae]
  rw [Ah (hz _ (List.getElem_mem a)),List.drop_eq_getElem_cons (by rw [List.length_map];omega),List.getElem_map]
  have e:U6 (v.fields) (i+1)=some (v.fields)[i].1:=by simp only [U6,List.getElem?_eq_getElem a];rfl
  rw [e] at ih
  cases i with
  | zero =>
   simp only [U6,Xz]
   by_cases hb:H4 (v.fields)[0].1=true
   ·rw [Ah hb,hb]
    simp only [Bool.not_true,Bool.false_eq_true,if_false]
    rw [Ai (by decide),Ah (AY (by omega))]
    exact ih
   ·rw [Ai hb,Bool.eq_false_iff.2 hb];rfl
  | succ j =>
   have b:j<(v.fields).length:=by omega
   have d:U6 (v.fields) (j+1)=some (v.fields)[j].1:=by simp only [U6,List.getElem?_eq_getElem b];rfl
   rw [d]
   simp only [Xz]
   by_cases hb:H4 (v.fields)[j+1].1=true
   ·rw [Ah hb,hb]
    simp only [Bool.not_true,Bool.false_eq_true,if_false,LA,if_true,Ju]
    have c:Bj (j:Int):=Ls (by omega)
    simp only [Ah c,AW b,Ae]
    by_cases h1:ND (v.fields)[j+1].1 (v.fields)[j].1=true
    ·rw [Ah h1,Ah h1]
    ·rw [Ai h1,Ai h1]
     by_cases h2:Ys (v.fields)[j+1].1 (v.fields)[j].1=true
     ·rw [Ah h2,Ah h2]
     ·rw [Ai h2,Ai h2,Ah (AY (by omega))]
      exact ih
   ·rw [Ai hb,Bool.eq_false_iff.2 hb];rfl
def Ek (v:Vl):Int :=
 if BJ v=true then 19
 else if v.kind<1∨10<v.kind then 11
 else if DC v=true then 3
 else if v.kind=1 then (if Bq v.int 0 1=true then 2 else 0)
 else if v.kind=2 then (if Bq v.int (-999999999999999) 999999999999999=true∨Bq v.scale 0 12=true then 2 else 0)
 else if v.kind=3 then (if Bq v.int (-999999999999999) 999999999999999=true∨Bq v.scale 0 12=true then 2 else 0)
 else if v.kind=4 then (if 1024<v.text.size then 5 else if Lib.validD v.text.data.toList=true then 0 else 16)
 else if v.kind=5 then (if 1024<v.text.size then 5 else 0)
 else if v.kind=6 then (if Bq v.int (-719162) 2932896=true then 2 else 0)
 else if v.kind=7 then (if Bq v.int (-62135596800000) 253402300799999=true then 2 else 0)
 else if v.kind=8 then (if 256<v.list.length then 9 else 0)
 else if v.kind=9 then (if 64<v.fields.length then 9 else Xz none (v.fields.map Prod.fst))
 else if H4 v.text=true then (if v.list.length=0 then 4 else if 1<v.list.length then 3 else 0) else 12
theorem OB {k:Int} (h:¬ (k<1∨10<k)):k=1∨k=2∨k=3∨k=4∨k=5∨k=6∨k=7∨k=8∨k=9∨k=10:=by omega
theorem Zey (v:Vl) (h:¬ (v.kind<1∨10<v.kind)):HZ v = !DC v:=by
 have a:∀ x:Nat,decide (0<(x:Int)) = !decide ((x:Int)=0):=fun x=>by
  by_cases h:x=0
  ·subst h;rfl
  ·rw [Ag (show 0<(x:Int) by omega),Af (show ¬ (x:Int)=0 by omega)];rfl
 rw [HZ,DC]
 simp only [a]
 rcases OB h with hk | hk | hk | hk | hk | hk | hk | hk | hk | hk<;>simp only [hk]<;>simp [Bool.and_assoc]
theorem ZfK (n:Nat) (hn:3≤n) (a b:Int):Ij n [a,b]=some (if a=0 then b else a):=by
 obtain ⟨m,rfl⟩:∃ m,n=m+3:=⟨n-3,by omega⟩
 rw [Ij,Fh]
 simp only [List.length_cons,List.length_nil]
 rw [Ah (by simp),show GM [a,b] 0=some a from rfl]
 simp only [Ae]
 by_cases h:a=0
 ·rw [Ag h,Ai (by decide),Ah (by decide),Ah h,Fh]
  simp only [List.length_cons,List.length_nil]
  rw [Ah (by simp),show GM [a,b] (0+1)=some b from rfl]
  simp only [Ae]
  by_cases h2:b=0
  ·rw [Ag h2,Ai (by decide),Ah (by decide),Fh]
   simp only [List.length_cons,List.length_nil]
   rw [Ai (by simp),IX,h2]
  ·rw [Af h2,Ah (by decide)]
 ·rw [Af h,Ah (by decide),Ai h]
theorem YK (n:Nat) (hn:3≤n) (v:Vl) (hfl:v.fields.length<n) (hs:v.fields.length≤1000000000000) (hv:v.ok) (h1:¬ BJ v=true) (h2:¬ (v.kind<1∨10<v.kind)) (h3:¬ DC v=true) :
  (v.kind=1→EA v=Ek v)∧(v.kind=2→EE v=Ek v)∧(v.kind=3→Gl n v=some (Ek v))∧(v.kind=4→Gu v=some (Ek v))∧(v.kind=5→Ew v=Ek v) ∧
  (v.kind=6→Em v=Ek v)∧(v.kind=7→ED v=Ek v)∧(v.kind=8→EB v=Ek v)∧(v.kind=9→Gk n v=some (Ek v))∧(v.kind=10→FP v=some (Ek v)):=by
 obtain ⟨g,_,f⟩:=v.ok_eq.1 hv
 have i:∀ p∈v.fields,p.1.size≤maxLen:=fun p d=>Y0 (by have:=(f p d).1;omega)
 have c:v.text.size≤maxLen:=Y0 g
 rw [Ek,Ai h1,Ai h2,Ai h3]
 refine ⟨fun a=>?_,fun a=>?_,fun a=>?_,fun a=>?_,fun a=>?_,fun a=>?_,fun a=>?_,fun a=>?_,fun a=>?_,fun a=>?_⟩
 ·simp [a,EA,BB,Bq]
 ·have b:v.scale=0:=by
   rw [DC] at h3
   simp [a] at h3
   exact h3.1.1.1
  simp [a,b,EE,BB,Bq]
 ·rw [Gl,ZfK n hn]
  simp [a,BB,Bq]
  by_cases q:v.int < -999999999999999∨999999999999999<v.int
  ·simp [q];omega
  ·simp [q];omega
 ·rw [Gu]
  simp only [a,BW,ES,Ah c]
  simp
  (repeat' split)<;>first | rfl | (exfalso;omega) | simp_all
 ·simp [a,Ew,BW]
  (repeat' split)<;>first | rfl | (exfalso;omega) | simp_all
 ·simp [a,Em,BB,Bq]
 ·simp [a,ED,BB,Bq]
 ·simp [a,EB,BW]
  (repeat' split)<;>first | rfl | (exfalso;omega) | simp_all
 ·rw [Gk]
  by_cases h:64<v.fields.length
  ·simp [a,BW,h,show (64:Int)<(v.fields.length:Int) by omega]
  ·have e:=V7 n v hs i v.fields.length n 0 (by omega) hfl
   simp only [List.drop_zero] at e
   simp only [a,BW,Af (show ¬ (64:Int)<(v.fields.length:Int) by omega),Bool.false_eq_true,if_false,decide_true,Bool.not_true,Ai h]
   exact e
 ·rw [FP,Ah c]
  simp only [a,BW]
  simp
  (repeat' split)<;>first | rfl | (exfalso;omega) | simp_all
theorem Zdy (n:Nat) (hn:3≤n) (lv:Nat) (v:Vl) (rest:List (Nat × Vl)) (c:Int) (hfl:v.fields.length<n) (hs:v.fields.length≤1000000000000) (hv:v.ok) :
  Bd n ((lv,v)::rest) c=if Bj (c+1) then (if 4096<c+1 then some 9 else if 8<(lv:Int) then some 23 else if Ek v=0 then Bd n rest (c+1) else some (Ek v)) else none:=by
 rw [Bd]
 by_cases hI:Bj (c+1)
 rotate_left
 ·rw [Ai hI,Ai hI]
 rw [Ah hI,Ah hI]
 by_cases q1:4096<c+1
 ·rw [Ah q1,Ah (Ag q1)]
 rw [Ai q1,Ai (by simpa using q1)]
 by_cases q2:8<(lv:Int)
 ·rw [Ah q2,Ah (Ag q2)]
 rw [Ai q2,Ai (by simpa using q2)]
 simp only
 by_cases h1:BJ v=true
 ·have:Ek v=19:=by rw [Ek,Ah h1]
  rw [Ah h1,this];rfl
 rw [Ai h1]
 by_cases h2:v.kind<1∨10<v.kind
 ·have:Ek v=11:=by rw [Ek,Ai h1,Ah h2]
  rw [Ah (by simpa using h2),this];rfl
 rw [Ai (by simpa using h2),Zey v h2]
 by_cases h3:DC v=true
 ·have:Ek v=3:=by rw [Ek,Ai h1,Ai h2,Ah h3]
  rw [h3,this];rfl
 rw [Bool.eq_false_iff.2 h3]
 obtain ⟨d,f,b,i,l,j,k,h,g,a⟩:=YK n hn v hfl hs hv h1 h2 h3
 rcases OB h2 with hk | hk | hk | hk | hk | hk | hk | hk | hk | hk
 ·have e:=d hk;by_cases z:Ek v=0<;>simp [hk,e,z]
 ·have e:=f hk;by_cases z:Ek v=0<;>simp [hk,e,z]
 ·have e:=b hk;by_cases z:Ek v=0<;>simp [hk,e,z]
 ·have e:=i hk;by_cases z:Ek v=0<;>simp [hk,e,z]
 ·have e:=l hk;by_cases z:Ek v=0<;>simp [hk,e,z]
 ·have e:=j hk;by_cases z:Ek v=0<;>simp [hk,e,z]
 ·have e:=k hk;by_cases z:Ek v=0<;>simp [hk,e,z]
 ·have e:=h hk;by_cases z:Ek v=0<;>simp [hk,e,z]
 ·have e:=g hk;by_cases z:Ek v=0<;>simp [hk,e,z]
 ·have e:=a hk;by_cases z:Ek v=0<;>simp [hk,e,z]
def Qe:List (Nat × Vl)→Int→Int
 | [],_=>0
 | p::r,c=>if 4096<c+1 then 9 else if 8<(p.1:Int) then 23 else if Ek p.2=0 then Qe r (c+1) else Ek p.2
def X0 (v:Vl):Int:=Qe (FI 1 v) 0
theorem P8 {v x:Vl} (h:x∈CH v):x∈v.list∨∃ p∈v.fields,p.2=x:=by
 unfold CH at h
 split at h
 ·exact .inl h
 ·split at h
  ·obtain ⟨p,a,rfl⟩:=List.mem_map.1 h;exact .inr ⟨p,a,rfl⟩
  ·simp at h
theorem NX {v x:Vl} (h:x∈CH v):x.size<v.size:=by
 rcases P8 h with h | ⟨p,hp,rfl⟩
 ·exact v.list_size x h
 ·exact v.field_size p hp
theorem ZaH {v x:Vl} (hv:v.ok) (h:x∈CH v):x.ok:=by
 obtain ⟨_,a,b⟩:=v.ok_eq.1 hv
 rcases P8 h with h | ⟨p,hp,rfl⟩
 ·exact a x h
 ·exact (b p hp).2
theorem Z2:∀ (k:Nat) (v:Vl) (lv:Nat),v.size≤k→v.ok→∀ p∈FI lv v,p.2.ok∧p.2.size≤v.size
 | 0,v,lv,h,hv,p,hp=>absurd h (by have:=v.size_eq;omega)
 | k+1,v,lv,h,hv,p,hp=>by
  rw [NM] at hp
  rcases List.mem_cons.1 hp with rfl | hp
  ·exact ⟨hv,Nat.le_refl _⟩
  ·obtain ⟨x,a,hp⟩:=List.mem_flatMap.1 hp
   have:=NX a
   obtain ⟨b,c⟩:=Z2 k x (lv+1) (by omega) (ZaH hv a) p hp
   exact ⟨b,by omega⟩
theorem SJ:∀ (k:Nat) (v:Vl) (lv:Nat),v.size≤k→v.wide=true→∀ p∈FI lv v,p.2.wide=true
 | 0,v,lv,h,hv,p,hp=>absurd h (by have:=v.size_eq;omega)
 | k+1,v,lv,h,hv,p,hp=>by
  rw [NM] at hp
  rcases List.mem_cons.1 hp with rfl | hp
  ·exact hv
  ·obtain ⟨x,a,hp⟩:=List.mem_flatMap.1 hp
   have:=NX a
   exact SJ k x (lv+1) (by omega) (QN hv a) p hp
theorem Qz (v:Vl):v.fields.length<v.size:=by have:=Iy v.fields;have:=v.size_eq;omega
theorem P7 (n:Nat) (hn:3≤n):∀ (l:List (Nat × Vl)) (c:Int),(∀ p∈l,p.2.ok∧p.2.fields.length≤1000000000000∧p.2.fields.length<n)→0≤c→c≤4096→Bd n l c=some (Qe l c)
 | [],c,_,_,_=>rfl
 | p::r,c,hl,h1,h2=>by
  obtain ⟨b,d,e⟩:=hl p (List.mem_cons_self ..)
  have:=Qz p.2
  rw [show p=(p.1,p.2) from rfl,Zdy n hn p.1 p.2 r c (by omega) (by omega) b,Ah (by unfold Bj;omega),Qe]
  simp only
  split
  ·rfl
  ·split
   ·rfl
   ·split
    ·exact P7 n hn r (c+1) (fun q a=>hl q (List.mem_cons_of_mem _ a)) (by omega) (by omega)
    ·rfl
theorem UU (n:Nat) (v:Vl) (hn:v.size+3≤n) (hs:v.depth<4611686018427387904) (hw:v.wide=true) (hv:v.ok):Fq n v=some (X0 v):=by
 rw [Fq,Ah ⟨hs,hw⟩]
 exact P7 n (by omega) _ 0 (fun p a=>by obtain ⟨b,c⟩:=Z2 v.size v 1 (Nat.le_refl _) hv p a;exact ⟨b,(p.2.wide_iff.1 (SJ v.size v 1 (Nat.le_refl _) hw p a)).2.1,by have:=Qz p.2;omega⟩) (by omega) (by omega)
theorem MV (n:Nat) (v:Vl) (hn:v.size+3≤n) (hs:v.size<1048576) (hv:v.ok):Fq n v=some (X0 v) :=
 UU n v hn (by have:=v.depth_size;omega) (Iz _ v (Nat.le_refl _) (by omega)) hv
def UA (h:Int × ByteArray × Int × Ty × List Vl) (b:Int × ByteArray × Int × Ty × List Vl):Bool :=
 (ND h.2.1 b.2.1)||(decide (h.1=b.1))
def ZcT (x:ByteArray):Int:=X0 (Vl.mk 4 0 0 x [] [])
def Zg3:Option ByteArray→List ByteArray→Int
 | _,[]=>0
 | none,x::r=>if ZcT x=0 then Zg3 (some x) r else ZcT x
 | some p,x::r=>if ZcT x=0 then (if ND x p=true then 7 else if Ys x p=true then 24 else Zg3 (some x) r) else ZcT x
def Y9 (t:Ty):Int:=if t.min≠0∨t.max≠0 then 3 else if 64<t.words.length then 9 else Zg3 none t.words
def Zfm (k:Int) (b:List TF) (x:TF):Int :=
 if H4 x.2.1=true then
  if ¬ (1≤x.1∧x.1≤9999) then 2
  else if (b.any fun q=>UA q x)=true then 7
  else if ¬ (1≤x.2.2.1∧x.2.2.1≤3)∨(k=10∧x.2.2.1≠1) then 11
  else if x.2.2.1=3∧x.2.2.2.2.length=0 then 4
  else if 1<x.2.2.2.2.length∨(x.2.2.1≠3∧0<x.2.2.2.2.length) then 3
  else 0
 else 12
def Zay (k:Int):List TF→List TF→Int
 | _,[]=>0
 | b,x::r=>if Zfm k b x=0 then Zay k (b++[x]) r else Zfm k b x
def ZkY (t:Ty):Int :=
 if t.kind<1∨10<t.kind then 11
 else if TZ t=true then 3
 else if t.kind=4∧0<t.words.length then Y9 t
 else if ((2≤t.kind∧t.kind≤8)∧TI t (Nu t.kind).1 (Nu t.kind).2=false)∨¬ (0≤t.scale∧t.scale≤12) then 2
 else if (t.kind=8∧t.elem.length=0)∨(t.kind=10∧t.fields.length=0) then 4
 else if 1<t.elem.length then 3
 else if 64<t.fields.length then 9
 else Zay t.kind [] t.fields
inductive Ty.Good:Ty→Prop
 | mk (t:Ty) (h:ZkY t=0) (he:∀ x∈t.elem,Ty.Good x) (hf:∀ p∈t.fields,Ty.Good p.2.2.2.1):Ty.Good t
inductive Vl.Good:Vl→Prop
 | mk (v:Vl) (h:Ek v=0) (hp:∀ x∈CH v,Vl.Good x):Vl.Good v
theorem Ua:∀ (l:List (Nat × Vl)) (c:Int),Qe l c=0→∀ p∈l,Ek p.2=0
 | [],_,_,p,hp=>by simp at hp
 | q::r,c,h,p,hp=>by
  rw [Qe] at h
  split at h
  ·cases h
  ·split at h
   ·cases h
   ·split at h
    ·rename_i h0
     rcases List.mem_cons.1 hp with rfl | hp
     ·exact h0
     ·exact Ua r (c+1) h p hp
    ·rename_i h0;exact absurd h h0
theorem XM {v:Vl} (h:Ek v=0):¬ (v.kind<1∨10<v.kind)∧¬ DC v=true:=by
 rw [Ek] at h
 by_cases h1:BJ v=true
 ·rw [Ah h1] at h;exact absurd h (by decide)
 rw [Ai h1] at h
 by_cases h2:v.kind<1∨10<v.kind
 ·rw [Ah h2] at h;exact absurd h (by decide)
 rw [Ai h2] at h
 by_cases h3:DC v=true
 ·rw [Ah h3] at h;exact absurd h (by decide)
 exact ⟨h2,h3⟩
def HM (n:Nat)  : Option Int :=
 some (0)
def Dm (n:Nat) (q:List Int):Nat→Int→Option Int
 | 0,_=>none
 | m+1,b =>
  if decide (b<(q.length:Int)) then
   (GM q b).bind fun h =>
   if !(decide (h=0)) then
    some (h)
   else
    if Bj (b+1) then
     (Dm n q m) (b+1)
    else none
  else
   HM n 
def EN (n:Nat) (b:List Int):Option Int :=
 Dm n b n 0
theorem HE (w0:World) (n:Nat) (B:Aq) (Rw:Au) (L:Av) (a0:List Int) (r:Int) (h:EN n a0=some r) :
  ACalls Tryz.prog w0 71 [.list (a0.map C4) .none] ⟨B,Rw,L⟩ fun x st=>x=Ak r∧st=⟨B,Rw,L⟩:=by
 rw [EN] at h
 refine hd [.tmp 2] Tryz.func71 Tryz.ntmps71 fun M0 W0 j f g c k d hs=>?_
 simp only [AM]
 refine rg [0] hs ?_
 refine rg [0,3] hs ?_
 refine A2 (fun e st=>Ck e st B Rw L [(3,true,Ak 0)] [] [] (HM n  = some r)) ?_ ?_
 ·intro K5 i
  refine rg [3,6,7,8] hs ?_
  apply As
  refine AP (fun m e st=>∃ (b:Int),Ck e st B Rw L [(3,true,Ak 0),(6,true,.list (a0.map C4) .none),(7,true,Ak (a0.length:Int)),(8,true,Ak b)] [] [] (Dm n a0 m b=some r)) n ⟨0,([]),Rw,ef hs,ef hs,d,h⟩ ?_
  rintro ml7 e st ⟨b,Xl7,Rl7,rfl,rfl,d,h⟩ Ul7 Vl7
  cases ml7 with
  | zero=>cases h
  | succ ml7 =>
  rw [Dm] at h
  exact go (tg (a:=([3,6,7,8,9],([3,6,7,8],[3,5,6,7,8],[3,5,6,7,8,14],([2],()),[3,6,7,8],[3,6,7,8],()),[3],()))) h hs j f g c d trivial (q2 i (fun e s=>Vl7 ml7 e s (Nat.lt_succ_self _)))
 ·clear h;rintro e st ⟨Xk4,Rk4,rfl,rfl,d,h⟩
  rw [HM] at h
  refine td j f g c d ?_
  refine rg [2] hs ?_
  exact rt h hs c d
def B8 (n:Nat) (h:List (ByteArray × Vl)) (b:List (ByteArray × Vl)):Option Int :=
 if decide ((h.length:Int)<(b.length:Int)) then
  some ((-1))
 else
  some (0)
def A9 (n:Nat) (y:List (ByteArray × Vl)) (q:List (ByteArray × Vl)) (a2:(ByteArray × Vl)→(ByteArray × Vl)→Option Int):Nat→Int→Option Int
 | 0,_=>none
 | m+1,b =>
  if decide (b<(y.length:Int)) then
   (GM y b).bind fun x12 =>
   if decide ((q.length:Int)≤b) then
    some (1)
   else
    (GM q b).bind fun x18 =>
    (a2 x12 x18).bind fun h =>
    if !(decide (h=0)) then
     some (h)
    else
     if Bj (b+1) then
      (A9 n y q a2 m) (b+1)
     else none
  else
   B8 n y q 
def CJ (n:Nat) (q:List (ByteArray × Vl)) (h:List (ByteArray × Vl)) (b:(ByteArray × Vl)→(ByteArray × Vl)→Option Int):Option Int :=
 A9 n q h b n 0
theorem Ig (w0:World) (n:Nat) (B:Aq) (Rw:Au) (L:Av) (a0:List (ByteArray × Vl)) (a1:List (ByteArray × Vl)) (fa2:FuncId) (ca2:List AV) (a2:(ByteArray × Vl)→(ByteArray × Vl)→Option Int) (ha2:∀ (x0:ByteArray × Vl) (x1:ByteArray × Vl) r,a2 x0 x1=some r→∀ B' rows,B <+: B'→Rw <+: rows→ACalls Tryz.prog w0 fa2 ([.agg (.val (.string x0.1)::(x0.2.cs)),.agg (.val (.string x1.1)::(x1.2.cs))]++ca2) ⟨B',rows,L⟩ fun v s=>v=Ak r∧s=⟨B',rows,L⟩) (r:Int) (h:CJ n a0 a1 a2=some r) :
  ACalls Tryz.prog w0 79 [.list (a0.map Ld) .none,.list (a1.map Ld) .none,.clo fa2 ca2] ⟨B,Rw,L⟩ fun x st=>x=Ak r∧st=⟨B,Rw,L⟩:=by
 rw [CJ] at h
 refine hd [.tmp 6] Tryz.func79 Tryz.ntmps79 fun M0 W0 j g i b l f hs=>?_
 simp only [AM]
 have c:=Fg (l (.clo fa2 ca2) (by simp))
 refine rg [0,1,2] hs ?_
 refine A2 (fun e st=>Ck e st B Rw L [(0,true,.list (a0.map Ld) .none),(1,true,.list (a1.map Ld) .none)] [] [] (B8 n a0 a1  = some r)) ?_ ?_
 ·intro K4 k
  refine rg [0,1,2,11,12,13] hs ?_
  apply As
  refine AP (fun m e st=>∃ (d:Int),Ck e st B Rw L [(0,true,.list (a0.map Ld) .none),(1,true,.list (a1.map Ld) .none),(2,true,.clo fa2 ca2),(11,true,.list (a0.map Ld) .none),(12,true,Ak (a0.length:Int)),(13,true,Ak d)] [] [] (A9 n a0 a1 a2 m d=some r)) n ⟨0,([]),Rw,ef hs,ef hs,f,h⟩ ?_
  rintro ml6 e st ⟨d,Xl6,Rl6,rfl,rfl,f,h⟩ Ul6 Vl6
  cases ml6 with
  | zero=>cases h
  | succ ml6 =>
  rw [A9] at h
  refine D3 j g i rfl b f (Qm c f) (Qm c f) ?_
  exact go (tg (a:=([0,1,2,11,12,13,14],([0,1,2,11,12,13],[0,1,2,7,8,11,12,13],[0,1,2,7,8,11,12,13,21],([6],()),[0,1,2,7,8,11,12,13],[0,1,2,8,9,11,12,13],[0,1,2,10,11,12,13],[0,1,2,10,11,12,13,31],([6],()),[0,1,2,11,12,13],[0,1,2,11,12,13],()),[0,1],()))) h hs j g i b f (q1 ha2) (q2 k (fun e s=>Vl6 ml6 e s (Nat.lt_succ_self _)))
 ·clear h;rintro e st ⟨Xk3,Rk3,rfl,rfl,f,h⟩
  rw [B8] at h
  refine D3 j g i rfl b f (Qm c f) (Qm c f) ?_
  exact go (tg (a:=([38],([6],()),[],[6],()))) h hs j g i b f trivial trivial
def Cc (n:Nat) (h:List Vl) (b:List Vl):Option Int :=
 if decide ((h.length:Int)<(b.length:Int)) then
  some ((-1))
 else
  some (0)
def A8 (n:Nat) (y:List Vl) (q:List Vl) (a2:Vl→Vl→Option Int):Nat→Int→Option Int
 | 0,_=>none
 | m+1,b =>
  if decide (b<(y.length:Int)) then
   (GM y b).bind fun x12 =>
   if decide ((q.length:Int)≤b) then
    some (1)
   else
    (GM q b).bind fun x18 =>
    (a2 x12 x18).bind fun h =>
    if !(decide (h=0)) then
     some (h)
    else
     if Bj (b+1) then
      (A8 n y q a2 m) (b+1)
     else none
  else
   Cc n y q 
def CL (n:Nat) (q:List Vl) (h:List Vl) (b:Vl→Vl→Option Int):Option Int :=
 A8 n q h b n 0
theorem H6 (w0:World) (n:Nat) (B:Aq) (Rw:Au) (L:Av) (a0:List Vl) (a1:List Vl) (fa2:FuncId) (ca2:List AV) (a2:Vl→Vl→Option Int) (ha2:∀ (x0:Vl) (x1:Vl) r,a2 x0 x1=some r→∀ B' rows,B <+: B'→Rw <+: rows→ACalls Tryz.prog w0 fa2 ([.agg (x0.cs),.agg (x1.cs)]++ca2) ⟨B',rows,L⟩ fun v s=>v=Ak r∧s=⟨B',rows,L⟩) (r:Int) (h:CL n a0 a1 a2=some r) :
  ACalls Tryz.prog w0 78 [.list (a0.map Dp) .none,.list (a1.map Dp) .none,.clo fa2 ca2] ⟨B,Rw,L⟩ fun x st=>x=Ak r∧st=⟨B,Rw,L⟩:=by
 rw [CL] at h
 refine hd [.tmp 6] Tryz.func78 Tryz.ntmps78 fun M0 W0 j g i b l f hs=>?_
 simp only [AM]
 have c:=Fg (l (.clo fa2 ca2) (by simp))
 refine rg [0,1,2] hs ?_
 refine A2 (fun e st=>Ck e st B Rw L [(0,true,.list (a0.map Dp) .none),(1,true,.list (a1.map Dp) .none)] [] [] (Cc n a0 a1  = some r)) ?_ ?_
 ·intro K4 k
  refine rg [0,1,2,11,12,13] hs ?_
  apply As
  refine AP (fun m e st=>∃ (d:Int),Ck e st B Rw L [(0,true,.list (a0.map Dp) .none),(1,true,.list (a1.map Dp) .none),(2,true,.clo fa2 ca2),(11,true,.list (a0.map Dp) .none),(12,true,Ak (a0.length:Int)),(13,true,Ak d)] [] [] (A8 n a0 a1 a2 m d=some r)) n ⟨0,([]),Rw,ef hs,ef hs,f,h⟩ ?_
  rintro ml6 e st ⟨d,Xl6,Rl6,rfl,rfl,f,h⟩ Ul6 Vl6
  cases ml6 with
  | zero=>cases h
  | succ ml6 =>
  rw [A8] at h
  refine D3 j g i rfl b f (Qm c f) (Qm c f) ?_
  exact go (tg (a:=([0,1,2,11,12,13,14],([0,1,2,11,12,13],[0,1,2,7,8,11,12,13],[0,1,2,7,8,11,12,13,21],([6],()),[0,1,2,7,8,11,12,13],[0,1,2,8,9,11,12,13],[0,1,2,10,11,12,13],[0,1,2,10,11,12,13,31],([6],()),[0,1,2,11,12,13],[0,1,2,11,12,13],()),[0,1],()))) h hs j g i b f (q1 ha2) (q2 k (fun e s=>Vl6 ml6 e s (Nat.lt_succ_self _)))
 ·clear h;rintro e st ⟨Xk3,Rk3,rfl,rfl,f,h⟩
  rw [Cc] at h
  refine D3 j g i rfl b f (Qm c f) (Qm c f) ?_
  exact go (tg (a:=([38],([6],()),[],[6],()))) h hs j g i b f trivial trivial
def D4 (rec:Vl→Vl→Option Int) (n:Nat) (b:ByteArray × Vl) (h:ByteArray × Vl):Option Int :=
 (rec b.2 h.2).bind fun q =>
 (EN n ([Q6 b.1 h.1,q])).bind fun y =>
 some (y)
theorem OP (w0:World) (rec:Vl→Vl→Option Int) (ih:∀ (B:Aq) (Rw:Au) (L:Av) (a0:Vl) (a1:Vl) (r:Int) (h:rec a0 a1=some r),ACalls Tryz.prog w0 48 [.agg (a0.cs),.agg (a1.cs)] ⟨B,Rw,L⟩ fun x st=>x=Ak r∧st=⟨B,Rw,L⟩) (n:Nat) (B:Aq) (Rw:Au) (L:Av) (a0:ByteArray × Vl) (a1:ByteArray × Vl) (r:Int) (h:D4 rec n a0 a1=some r) :
  ACalls Tryz.prog w0 80 [.agg (.val (.string a0.1)::(a0.2.cs)),.agg (.val (.string a1.1)::(a1.2.cs))] ⟨B,Rw,L⟩ fun x st=>x=Ak r∧st=⟨B,Rw,L⟩:=by
 rw [D4] at h
 refine hd [.tmp 4] Tryz.func80 Tryz.ntmps80 fun M0 W0 f c d b g e hs=>?_
 simp only [AM]
 exact go (tg (a:=([2,3],[13,4],()))) h hs f c d b e (q3 (IR w0) ih (HE w0 n)) trivial
def Ht (rec:Vl→Vl→Option Int) (n:Nat) (h:Vl) (b:Vl):Option Int :=
 (CL n h.list b.list (fun (y:Vl) (q:Vl)=>rec y q)).bind fun y3 =>
 (CJ n h.fields b.fields (fun (y:ByteArray × Vl) (q:ByteArray × Vl)=>D4 rec n y q)).bind fun y4 =>
 (EN n ([if h.kind<b.kind then -1 else if h.kind=b.kind then 0 else 1,if h.int<b.int then -1 else if h.int=b.int then 0 else 1,if h.scale<b.scale then -1 else if h.scale=b.scale then 0 else 1,Q6 h.text b.text,y3,y4])).bind fun y5 =>
 some (y5)
def DF:Nat→Vl→Vl→Option Int
 | 0,_,_=>none
 | n+1,h,b=>Ht (DF n) n h b
def JF (w0:World) (F:Vl→Vl→Option Int):Prop:=∀ (B:Aq) (Rw:Au) (L:Av) (h:Vl) (b:Vl) (r:Int),F h b=some r→ACalls Tryz.prog w0 48 [.agg (h.cs),.agg (b.cs)] ⟨B,Rw,L⟩ fun x st=>x=Ak r∧st=⟨B,Rw,L⟩
theorem Pj (w0:World) (rec:Vl→Vl→Option Int) (ih:JF w0 rec) (n:Nat):JF w0 (Ht rec n):=by
 intro B Rw L a0 a1 r h
 rw [Ht] at h
 refine hd [.tmp 4] Tryz.func48 Tryz.ntmps48 fun M0 W0 q i l b w o hs=>?_
 simp only [AM]
 refine rg [2,3] hs ?_
 obtain ⟨u,f,h⟩:=bind_some h
 obtain ⟨v,m,h⟩:=bind_some h
 obtain ⟨t,p,h⟩:=bind_some h
 apply Am;intro K2 e
 refine dk 33 8 1 [4] (al hs) Pz ?_
 refine Az _ (G1 w0 _ _ _ a0.kind a1.kind) (hv (al hs)) ?_
 refine nc (al hs) ?_
 refine Az _ (G1 w0 _ _ _ a0.int a1.int) (hv (al hs)) ?_
 refine nc (al hs) ?_
 refine Az _ (G1 w0 _ _ _ a0.scale a1.scale) (hv (al hs)) ?_
 refine nc (al hs) ?_
 refine Az _ (IR w0 _ _ _ a0.text a1.text) (hv (al hs)) ?_
 refine nc (al hs) ?_
 refine Az _ (H6 w0 n _ _ _ a0.list a1.list 48 [] (fun (d:Vl) (c:Vl)=>rec d c) (fun d c r g s rows' j k=>by exact ih _ _ _ d c _ g) _ f) (hv (al hs)) ?_
 refine nc (al hs) ?_
 refine Az _ (Ig w0 n _ _ _ a0.fields a1.fields 80 [] (fun (d:ByteArray × Vl) (c:ByteArray × Vl)=>D4 rec n d c) (fun d c r g s rows' j k=>by exact OP w0 rec ih n _ _ _ d c _ g) _ m) (hv (al hs)) ?_
 exact go (tg (a:=((),()))) h (al hs) q i l b o (q1 (HE w0 n)) (q1 e)
theorem LP (w0:World):∀ n:Nat,JF w0 (DF n)
 | 0=>fun _ _ _ _ _ _ h=>(nomatch h)
 | n+1=>Pj w0 (DF n) (LP w0 n) n
theorem VI {a b:Nat}:decide ((a:Int)≤(b:Int))=decide (a≤b):=decide_eq_decide.2 ⟨fun h=>by omega,fun h=>by omega⟩
theorem Ph (n:Nat) (a b:List (Vl)) (f:Vl→Vl→Option Int) (hl:a.length≤1000000000)
  (hr:∀ p∈a,∀ q∈b,∃ c,f p q=some c∧(c=0↔p=q)):∀ (k m i:Nat),i+k=a.length→k<m→∃ c,A8 n a b f m i=some c∧(c=0↔a.drop i=b.drop i)
 | k,0,i,_,h=>absurd h (Nat.not_lt_zero _)
 | 0,m+1,i,hi,_=>by
  rw [A8,BH,Ac]
  simp only [Bool.false_eq_true,if_false]
  rw [Cc,BH,List.drop_eq_nil_of_le (show a.length≤i by omega)]
  by_cases h:a.length<b.length
  ·rw [Ag h]
   simp only [if_true]
   exact ⟨-1,rfl,⟨fun h=>absurd h (by decide),fun e=>by have:=List.drop_eq_nil_iff.1 e.symm;omega⟩⟩
  ·rw [Af h]
   simp only [Bool.false_eq_true,if_false]
   exact ⟨0,rfl,⟨fun _=>(List.drop_eq_nil_of_le (by omega)).symm,fun _=>rfl⟩⟩
 | k+1,m+1,i,hi,hm=>by
  have g:i<a.length:=by omega
  rw [A8,BH,Ag g]
  simp only [if_true,AW g,Ae,VI]
  by_cases d:i<b.length
  ·rw [Af (show ¬ b.length≤i by omega)]
   simp only [Bool.false_eq_true,if_false,AW d,Ae]
   obtain ⟨c,e,j⟩:=hr _ (List.getElem_mem g) _ (List.getElem_mem d)
   rw [e,JG _ _ i g d]
   simp only [Ae]
   by_cases h0:c=0
   ·rw [Ag h0]
    simp only [Bool.not_true,Bool.false_eq_true,if_false]
    rw [Ah (AY (by omega))]
    obtain ⟨l,o,d⟩:=Ph n a b f hl hr k m (i+1) (by omega) (by omega)
    exact ⟨l,o,d.trans ⟨fun h=>⟨j.1 h0,h⟩,fun h=>h.2⟩⟩
   ·rw [Af h0]
    simp only [Bool.not_false,if_true]
    exact ⟨c,rfl,⟨fun h=>absurd h h0,fun h=>absurd (j.2 h.1) h0⟩⟩
  ·rw [Ag (show b.length≤i by omega)]
   simp only [if_true]
   refine ⟨1,rfl,⟨fun h=>absurd h (by decide),fun e=>?_⟩⟩
   rw [List.drop_eq_nil_of_le (show b.length≤i by omega)] at e
   have:=List.drop_eq_nil_iff.1 e
   omega
theorem UY (n:Nat) (a b:List (Vl)) (f:Vl→Vl→Option Int) (hl:a.length≤1000000000) (hn:a.length<n)
  (hr:∀ p∈a,∀ q∈b,∃ c,f p q=some c∧(c=0↔p=q)):∃ c,CL n a b f=some c∧(c=0↔a=b) :=
 Ph n a b f hl hr a.length n 0 (by omega) hn
theorem Om (n:Nat) (a b:List (ByteArray × Vl)) (f:ByteArray × Vl→ByteArray × Vl→Option Int) (hl:a.length≤1000000000)
  (hr:∀ p∈a,∀ q∈b,∃ c,f p q=some c∧(c=0↔p=q)):∀ (k m i:Nat),i+k=a.length→k<m→∃ c,A9 n a b f m i=some c∧(c=0↔a.drop i=b.drop i)
 | k,0,i,_,h=>absurd h (Nat.not_lt_zero _)
 | 0,m+1,i,hi,_=>by
  rw [A9,BH,Ac]
  simp only [Bool.false_eq_true,if_false]
  rw [B8,BH,List.drop_eq_nil_of_le (show a.length≤i by omega)]
  by_cases h:a.length<b.length
  ·rw [Ag h]
   simp only [if_true]
   exact ⟨-1,rfl,⟨fun h=>absurd h (by decide),fun e=>by have:=List.drop_eq_nil_iff.1 e.symm;omega⟩⟩
  ·rw [Af h]
   simp only [Bool.false_eq_true,if_false]
   exact ⟨0,rfl,⟨fun _=>(List.drop_eq_nil_of_le (by omega)).symm,fun _=>rfl⟩⟩
 | k+1,m+1,i,hi,hm=>by
  have g:i<a.length:=by omega
  rw [A9,BH,Ag g]
  simp only [if_true,AW g,Ae,VI]
  by_cases d:i<b.length
  ·rw [Af (show ¬ b.length≤i by omega)]
   simp only [Bool.false_eq_true,if_false,AW d,Ae]
   obtain ⟨c,e,j⟩:=hr _ (List.getElem_mem g) _ (List.getElem_mem d)
   rw [e,JG _ _ i g d]
   simp only [Ae]
   by_cases h0:c=0
   ·rw [Ag h0]
    simp only [Bool.not_true,Bool.false_eq_true,if_false]
    rw [Ah (AY (by omega))]
    obtain ⟨l,o,d⟩:=Om n a b f hl hr k m (i+1) (by omega) (by omega)
    exact ⟨l,o,d.trans ⟨fun h=>⟨j.1 h0,h⟩,fun h=>h.2⟩⟩
   ·rw [Af h0]
    simp only [Bool.not_false,if_true]
    exact ⟨c,rfl,⟨fun h=>absurd h h0,fun h=>absurd (j.2 h.1) h0⟩⟩
  ·rw [Ag (show b.length≤i by omega)]
   simp only [if_true]
   refine ⟨1,rfl,⟨fun h=>absurd h (by decide),fun e=>?_⟩⟩
   rw [List.drop_eq_nil_of_le (show b.length≤i by omega)] at e
   have:=List.drop_eq_nil_iff.1 e
   omega
theorem VD (n:Nat) (a b:List (ByteArray × Vl)) (f:ByteArray × Vl→ByteArray × Vl→Option Int) (hl:a.length≤1000000000) (hn:a.length<n)
  (hr:∀ p∈a,∀ q∈b,∃ c,f p q=some c∧(c=0↔p=q)):∃ c,CJ n a b f=some c∧(c=0↔a=b) :=
 Om n a b f hl hr a.length n 0 (by omega) hn
theorem ZeE (n:Nat) (l:List Int) (hl:l.length≤1000000000):∀ (k m i:Nat),i+k=l.length→k<m→∃ c,Dm n l m i=some c∧(c=0↔∀ x∈l.drop i,x=0)
 | k,0,i,_,h=>absurd h (Nat.not_lt_zero _)
 | 0,m+1,i,hi,_=>by
  rw [Dm,BH,Ac]
  simp only [Bool.false_eq_true,if_false]
  exact ⟨0,rfl,by rw [List.drop_eq_nil_of_le (by omega)];simp⟩
 | k+1,m+1,i,hi,hm=>by
  have a:i<l.length:=by omega
  rw [Dm,BH,Ag a]
  simp only [if_true,AW a,Ae]
  rw [List.drop_eq_getElem_cons a]
  by_cases h0:l[i]=0
  ·rw [Ag h0]
   simp only [Bool.not_true,Bool.false_eq_true,if_false]
   rw [Ah (AY (by omega))]
   obtain ⟨b,d,e⟩:=ZeE n l hl k m (i+1) (by omega) (by omega)
   exact ⟨b,d,e.trans ⟨fun h x hx=>by rcases List.mem_cons.1 hx with rfl | hx;exact h0;exact h x hx,fun h x hx=>h x (List.mem_cons_of_mem _ hx)⟩⟩
  ·rw [Af h0]
   simp only [Bool.not_false,if_true]
   exact ⟨_,rfl,⟨fun h=>absurd h h0,fun h=>absurd (h _ (List.mem_cons_self ..)) h0⟩⟩
theorem Zbw (n:Nat) (l:List Int) (hl:l.length<n) (h2:l.length≤1000000000):∃ c,EN n l=some c∧(c=0↔∀ x∈l,x=0):=ZeE n l h2 l.length n 0 (by omega) hl
theorem MW (a b:Int):(if a<b then (-1:Int) else if a=b then 0 else 1)=0↔a=b:=by
 by_cases h1:a<b
 ·rw [Ah h1];omega
 ·rw [Ai h1]
  by_cases h2:a=b
  ·simp [h2]
  ·simp [h2]
theorem Vl.lens' (v:Vl):v.list.length<v.size∧v.fields.length<v.size:=by have:=Kv v.list;have:=Iy v.fields;have:=v.size_eq;omega
theorem Jc:∀ (n:Nat) (a b:Vl),a.size+10≤n→a.size≤1000000000→∃ c,DF n a b=some c∧(c=0↔a=b)
 | 0,a,b,h,_=>by omega
 | n+1,a,b,h,hs=>by
  have v:=a.lens'
  rw [DF,Ht]
  obtain ⟨t,e1,r⟩:=UY n a.list b.list (fun x y=>DF n x y) (by omega) (by omega) (fun p d q _=>Jc n p q (by have:=a.list_size p d;omega) (by have:=a.list_size p d;omega))
  obtain ⟨f,g,i⟩:=VD n a.fields b.fields (fun x y=>D4 (DF n) n x y) (by omega) (by omega) (fun p d q _=>by
   obtain ⟨c,e,j⟩:=Jc n p.2 q.2 (by have:=a.field_size p d;omega) (by have:=a.field_size p d;omega)
   obtain ⟨f,g,i⟩:=Zbw n [Q6 p.1 q.1,c] (by simp;omega) (by simp)
   refine ⟨f,by rw [D4,e,Ae,g];rfl,i.trans ?_⟩
   simp only [List.mem_cons,List.not_mem_nil,or_false,forall_eq_or_imp,forall_eq,QD,j]
   exact ⟨fun h=>Prod.ext h.1 h.2,fun h=>by rw [h];exact ⟨rfl,rfl⟩⟩)
  rw [e1,Ae,g,Ae]
  obtain ⟨c,e,j⟩:=Zbw n [if a.kind<b.kind then -1 else if a.kind=b.kind then 0 else 1,if a.int<b.int then -1 else if a.int=b.int then 0 else 1,if a.scale<b.scale then -1 else if a.scale=b.scale then 0 else 1,Q6 a.text b.text,t,f] (by simp;omega) (by simp)
  refine ⟨c,by rw [e];rfl,j.trans ?_⟩
  simp only [List.mem_cons,List.not_mem_nil,or_false,forall_eq_or_imp,forall_eq,QD,MW,r,i]
  exact ⟨fun ⟨u,o,s,l,k,m⟩=>Vl.ext' u o s l k m,fun h=>by rw [h];exact ⟨rfl,rfl,rfl,rfl,rfl,rfl⟩⟩
@[go_sem] theorem Zjj:BE Tryz.prog 291=none∧BE Tryz.prog 77=none∧BE Tryz.prog 93=none∧F2 Tryz.prog 264=false∧AD Tryz.prog 106 0=some (0,20,true)∧AD Tryz.prog 106 1=some (20,1,false)∧AD Tryz.prog 106 3=some (23,1,false)∧AD Tryz.prog 122 0=some (0,1,false)∧AD Tryz.prog 122 1=some (1,1,false)∧AD Tryz.prog 281 0=some (0,6,true)∧AD Tryz.prog 294 0=some (0,1,false)∧AD Tryz.prog 294 1=some (1,1,false):=by (repeat' apply Ad)<;>kernel_rfl
@[go_sem] theorem Zhu:AD Tryz.prog 34 6=some (6,1,false)∧AD Tryz.prog 53 6=some (16,1,false)∧IW Tryz.prog 264=some .u64∧A3 Tryz.prog 291=some [(0,1),(1,1)]∧A3 Tryz.prog 77=some [(0,2),(2,1),(3,1),(4,1),(5,6)]∧A3 Tryz.prog 93=some [(0,1),(1,10)]∧BK Tryz.prog 264=false∧DD Tryz.prog 264=some (1,false)∧DD Tryz.prog 292=some (1,false)∧AO Tryz.prog 264=some [.val (.int .u64 0)]∧AO Tryz.prog 291=some [.val (.string ⟨#[]⟩),Ak 0]∧AO Tryz.prog 93=some [Ak 0,Ak 0,.list [] .full,Ak 0,.list [] .full,Ak 0,Ak 0,Ak 0,.val (.string ⟨#[]⟩),.list [] .full,.list [] .full]:=by (repeat' apply Ad)<;>kernel_rfl
def Eo (n:Nat) (h:Vl):Option Int :=
 if BJ h then
  some (0)
 else
  if !(decide (h.kind=9)) then
   some (18)
  else
   (Fq n h).bind fun b =>
   some (b)
theorem Ny (w0:World) (hT:Lib.Utf8Tabs 1 2 w0) (n:Nat) (B:Aq) (Rw:Au) (L:Av) (a0:Vl) (r:Int) (h:Eo n a0=some r) :
  ACalls Tryz.prog w0 128 [.agg (a0.cs)] ⟨B,Rw,L⟩ fun x st=>x=Ak r∧st=⟨B,Rw,L⟩:=by
 rw [Eo] at h
 refine hd [.tmp 2] Tryz.func128 Tryz.ntmps128 fun M0 W0 f c d b g e hs=>?_
 simp only [AM]
 exact go (tg (a:=([1],[1,3],([2],()),[1,6],([2],()),[1],[2],()))) h hs f c d b e (q2 (IC w0) (Kz w0 hT n)) trivial
def Fb (b:Int):Bool :=
 (decide (1≤b))&&(decide (b≤1048576))
theorem Mc (w0:World) (B:Aq) (Rw:Au) (L:Av) (a0:Int) (r:Bool) (h:Fb a0=r) :
  ACalls Tryz.prog w0 127 [Ak a0] ⟨B,Rw,L⟩ fun x st=>x = .val (.bool r)∧st=⟨B,Rw,L⟩:=by
 rw [Fb] at h
 refine hd [.tmp 2] Tryz.func127 Tryz.ntmps127 fun M0 W0 f c d a e b hs=>?_
 simp only [AM]
 refine rg [0] hs ?_
 refine rg [2] hs ?_
 exact rT h hs a b
theorem Lj (w0:World) (B:Aq) (Rw:Au) (L:Av) (a0:Int) :
  ACalls Tryz.prog w0 127 [Ak a0] ⟨B,Rw,L⟩ fun x st=>x = .val (.bool (Fb a0))∧st=⟨B,Rw,L⟩:=Mc w0 B Rw L a0 _ rfl
def Ff (b:Int):Bool :=
 (decide (b<0))||(decide (1099511627776<b))
theorem L2 (w0:World) (B:Aq) (Rw:Au) (L:Av) (a0:Int) (r:Bool) (h:Ff a0=r) :
  ACalls Tryz.prog w0 126 [Ak a0] ⟨B,Rw,L⟩ fun x st=>x = .val (.bool r)∧st=⟨B,Rw,L⟩:=by
 rw [Ff] at h
 refine hd [.tmp 2] Tryz.func126 Tryz.ntmps126 fun M0 W0 f c d a e b hs=>?_
 simp only [AM]
 refine rg [0] hs ?_
 refine rg [2] hs ?_
 exact rT h hs a b
theorem LJ (w0:World) (B:Aq) (Rw:Au) (L:Av) (a0:Int) :
  ACalls Tryz.prog w0 126 [Ak a0] ⟨B,Rw,L⟩ fun x st=>x = .val (.bool (Ff a0))∧st=⟨B,Rw,L⟩:=L2 w0 B Rw L a0 _ rfl
def EW (n:Nat)  : Option Int :=
 some ((-1))
def Bh (n:Nat) (y:List Int) (a1:Int→Option Bool):Nat→Int→Option Int
 | 0,_=>none
 | m+1,b =>
  if decide (b<(y.length:Int)) then
   (GM y b).bind fun q =>
   (a1 q).bind fun h =>
   if h then
    some (b)
   else
    if Bj (b+1) then
     (Bh n y a1 m) (b+1)
    else none
  else
   EW n 
def DO (n:Nat) (h:List Int) (b:Int→Option Bool):Option Int :=
 Bh n h b n 0
theorem J3 (w0:World) (n:Nat) (B:Aq) (Rw:Au) (L:Av) (a0:List Int) (fa1:FuncId) (ca1:List AV) (a1:Int→Option Bool) (ha1:∀ (x0:Int) r,a1 x0=some r→∀ B' rows,B <+: B'→Rw <+: rows→ACalls Tryz.prog w0 fa1 ([Ak x0]++ca1) ⟨B',rows,L⟩ fun v s=>v = .val (.bool r)∧s=⟨B',rows,L⟩) (r:Int) (h:DO n a0 a1=some r) :
  ACalls Tryz.prog w0 194 [.list (a0.map C4) .none,.clo fa1 ca1] ⟨B,Rw,L⟩ fun x st=>x=Ak r∧st=⟨B,Rw,L⟩:=by
 rw [DO] at h
 refine hd [.tmp 4] Tryz.func194 Tryz.ntmps194 fun M0 W0 k g i b l f hs=>?_
 simp only [AM]
 have c:=Fg (l (.clo fa1 ca1) (by simp))
 refine rg [0,1] hs ?_
 refine A2 (fun e st=>Ck e st B Rw L [] [] [] (EW n  = some r)) ?_ ?_
 ·intro K4 j
  refine rg [0,1,7,8] hs ?_
  apply As
  refine AP (fun m e st=>∃ (d:Int),Ck e st B Rw L [(0,true,.list (a0.map C4) .none),(1,true,.clo fa1 ca1),(7,true,Ak (a0.length:Int)),(8,true,Ak d)] [] [] (Bh n a0 a1 m d=some r)) n ⟨0,([]),Rw,ef hs,ef hs,f,h⟩ ?_
  rintro ml6 e st ⟨d,Xl6,Rl6,rfl,rfl,f,h⟩ Ul6 Vl6
  cases ml6 with
  | zero=>cases h
  | succ ml6 =>
  rw [Bh] at h
  refine D3 k g i rfl b f (Qm c f) (Qm c f) ?_
  exact go (tg (a:=([0,1,7,8,9],([0,1,7,8],[0,1,5,7,8],[0,1,5,7,8,16],([4],()),[0,1,7,8],[0,1,7,8],()),[],()))) h hs k g i b f (q1 ha1) (q2 j (fun e s=>Vl6 ml6 e s (Nat.lt_succ_self _)))
 ·clear h;rintro e st ⟨Xk3,Rk3,rfl,rfl,f,h⟩
  rw [EW] at h
  refine D3 k g i rfl b f (Qm c f) (Qm c f) ?_
  refine rg [4] hs ?_
  exact rt h hs b f
def BN (n:Nat) (q:List Int) (h:Int→Option Bool):Option Bool :=
 (DO n q h).bind fun b =>
 some (decide (0≤b))
theorem IY (w0:World) (n:Nat) (B:Aq) (Rw:Au) (L:Av) (a0:List Int) (fa1:FuncId) (ca1:List AV) (a1:Int→Option Bool) (ha1:∀ (x0:Int) r,a1 x0=some r→∀ B' rows,B <+: B'→Rw <+: rows→ACalls Tryz.prog w0 fa1 ([Ak x0]++ca1) ⟨B',rows,L⟩ fun v s=>v = .val (.bool r)∧s=⟨B',rows,L⟩) (r:Bool) (h:BN n a0 a1=some r) :
  ACalls Tryz.prog w0 161 [.list (a0.map C4) .none,.clo fa1 ca1] ⟨B,Rw,L⟩ fun x st=>x = .val (.bool r)∧st=⟨B,Rw,L⟩:=by
 rw [BN] at h
 refine hd [.tmp 4] Tryz.func161 Tryz.ntmps161 fun M0 W0 o i l b k g hs=>?_
 simp only [AM]
 have f:=Fg (k (.clo fa1 ca1) (by simp))
 refine rg [0,1] hs ?_
 obtain ⟨m,d,h⟩:=bind_some h
 refine rc 2 [4] hs ?_;intro K2 c
 refine Az _ (J3 w0 n _ _ _ a0 fa1 ca1 a1 (fun x0 r j e a q1 q2=>ha1 x0 r j e a (List.IsPrefix.trans px q1) (g.pre.trans q2)) _ d) (hv hs) ?_
 refine ne hs c ?_
 clear c
 exact rt h hs b g
def C5 (b:Int):Bool :=
 (decide (b<0))||(decide (65535<b))
theorem Me (w0:World) (B:Aq) (Rw:Au) (L:Av) (a0:Int) (r:Bool) (h:C5 a0=r) :
  ACalls Tryz.prog w0 162 [Ak a0] ⟨B,Rw,L⟩ fun x st=>x = .val (.bool r)∧st=⟨B,Rw,L⟩:=by
 rw [C5] at h
 refine hd [.tmp 2] Tryz.func162 Tryz.ntmps162 fun M0 W0 f c d a e b hs=>?_
 simp only [AM]
 refine rg [0] hs ?_
 refine rg [2] hs ?_
 exact rT h hs a b
theorem LS (w0:World) (B:Aq) (Rw:Au) (L:Av) (a0:Int) :
  ACalls Tryz.prog w0 162 [Ak a0] ⟨B,Rw,L⟩ fun x st=>x = .val (.bool (C5 a0))∧st=⟨B,Rw,L⟩:=Me w0 B Rw L a0 _ rfl
def E2 (n:Nat) (b:Int × List Int):Option Int :=
 if (decide (b.1<1))||(decide (1048576<b.1)) then
  some (2)
 else
  if decide ((b.2.length:Int)=0) then
   some (4)
  else
   if decide (512<(b.2.length:Int)) then
    some (9)
   else
    (BN n b.2 (fun (x0:Int)=>some (C5 x0))).bind fun y =>
    if y then
     some (2)
    else
     (GM b.2 0).bind fun h =>
     if decide (1<h) then
      some (11)
     else
      if decide (h=1) then
       some (0)
      else
       if decide ((b.2.length:Int)=1) then
        some (4)
       else
        (GM b.2 1).bind fun q =>
        if decide (128≤q) then
         some (2)
        else
         some (0)
theorem N4 (w0:World) (n:Nat) (B:Aq) (Rw:Au) (L:Av) (a0:Int × List Int) (r:Int) (h:E2 n a0=some r) :
  ACalls Tryz.prog w0 125 [.agg (Ak a0.1::([.list (a0.2.map C4) .none]))] ⟨B,Rw,L⟩ fun x st=>x=Ak r∧st=⟨B,Rw,L⟩:=by
 rw [E2] at h
 refine hd [.tmp 2] Tryz.func125 Tryz.ntmps125 fun M0 W0 l e f b o d hs=>?_
 simp only [AM]
 refine rg [1] hs ?_
 apply Am;intro K2 g
 apply As
 refine rg [1,3] hs ?_
 refine GB h hs ?_ ?_<;>intro hs h
 ·refine rg [2] hs ?_
  exact rt h hs b d
 refine rg [1,12] hs ?_
 refine GB h hs ?_ ?_<;>intro hs h
 ·refine rg [2] hs ?_
  exact rt h hs b d
 refine rg [1,17] hs ?_
 refine GB h hs ?_ ?_<;>intro hs h
 ·refine rg [2] hs ?_
  exact rt h hs b d
 obtain ⟨j,hy13,h⟩:=bind_some h
 refine rc 2 [1,22] hs ?_;intro K12 c
 refine Az _ (IY w0 n _ _ _ a0.2 162 [] (fun (x0:Int)=>some (C5 x0)) (fun x0 r hx m rows' i k=>by cases hx;exact LS w0 _ _ _ x0) _ hy13) (hv hs) ?_
 exact go (tg (a:=(([2],()),[1,26],([2],()),[1,32],([2],()),[1,38],([2],()),[43],([2],()),[],[2],()))) h hs l e f b d trivial (q2 c g)
def Eh (n:Nat) (h:Msg):Option Int :=
 (Eo n h.body).bind fun b =>
 some (b)
def BC (n:Nat) (h:Msg):Nat→Int→Option Int
 | 0,_=>none
 | m+1,b =>
  if decide (b<(h.origins.length:Int)) then
   (GM h.origins b).bind fun q =>
   if !(Fb q) then
    some (2)
   else
    if decide (0<b) then
     if Bj (b-1) then
      (GM h.origins (b-1)).bind fun y =>
      if decide (q≤y) then
       some (24)
      else
       if Bj (b+1) then
        (BC n h m) (b+1)
       else none
     else none
    else
     if Bj (b+1) then
      (BC n h m) (b+1)
     else none
  else
   Eh n h 
def DZ (n:Nat) (b:Msg):Option Int :=
 (E2 n b.stamp).bind fun h =>
 if !(decide (h=0)) then
  some (h)
 else
  if Ff b.mass then
   some (38)
  else
   if decide ((b.origins.length:Int)=0) then
    some (4)
   else
    if decide (4096<(b.origins.length:Int)) then
     some (9)
    else
     BC n b n 0
theorem MK (w0:World) (hT:Lib.Utf8Tabs 1 2 w0) (n:Nat) (B:Aq) (Rw:Au) (L:Av) (a0:Msg) (r:Int) (h:DZ n a0=some r) :
  ACalls Tryz.prog w0 81 [.agg ((Ak a0.stamp.1::([.list (a0.stamp.2.map C4) .none]))++(Ak a0.mass::(.list (a0.origins.map C4) .none::(a0.body.cs))))] ⟨B,Rw,L⟩ fun x st=>x=Ak r∧st=⟨B,Rw,L⟩:=by
 rw [DZ] at h
 refine hd [.tmp 2] Tryz.func81 Tryz.ntmps81 fun M0 W0 q f k b t d hs=>?_
 simp only [AM]
 refine rg [1] hs ?_
 apply Am;intro K2 o
 obtain ⟨u,p,h⟩:=bind_some h
 refine rc 2 [1,3] hs ?_;intro K3 j
 refine Az _ (N4 w0 n _ _ _ a0.stamp _ p) (hv hs) ?_
 refine ne hs j ?_
 clear j
 refine rg [1,3,10] hs ?_
 refine GB h hs ?_ ?_<;>intro hs h
 ·refine rg [2] hs ?_
  exact rt h hs b d
 refine sk [1] hs o ?_
 clear o
 apply Am;intro K8 g
 apply As
 refine rc 2 [1,12] hs ?_;intro K9 l
 refine Az _ (LJ w0 _ _ _ a0.mass) (hv hs) ?_
 refine ne hs l ?_
 clear l
 refine GB h hs ?_ ?_<;>intro hs h
 ·refine rg [2] hs ?_
  exact rt h hs b d
 refine rg [1,16] hs ?_
 refine GB h hs ?_ ?_<;>intro hs h
 ·refine rg [2] hs ?_
  exact rt h hs b d
 refine rg [1,21] hs ?_
 refine GB h hs ?_ ?_<;>intro hs h
 ·refine rg [2] hs ?_
  exact rt h hs b d
 refine sk [1] hs g ?_
 clear g
 refine A2 (fun e st=>Ck e st B Rw L [(1,true,.box B.length 0)] [(Ak a0.stamp.1::([.list (a0.stamp.2.map C4) .none]))++(Ak a0.mass::(.list (a0.origins.map C4) .none::(a0.body.cs)))] [] (Eh n a0  = some r)) ?_ ?_
 ·intro K20 i
  refine rg [1,27,28,29] hs ?_
  apply As
  refine AP (fun m e st=>∃ (c:Int),Ck e st B Rw L [(1,true,.box B.length 0),(27,true,.list (a0.origins.map C4) .none),(28,true,Ak (a0.origins.length:Int)),(29,true,Ak c)] [(Ak a0.stamp.1::([.list (a0.stamp.2.map C4) .none]))++(Ak a0.mass::(.list (a0.origins.map C4) .none::(a0.body.cs)))] [] (BC n a0 m c=some r)) n ⟨0,([]),Rw,ef hs,ef hs,d,h⟩ ?_
  rintro ml22 e st ⟨c,Xl22,Rl22,rfl,rfl,d,h⟩ Ul22 Vl22
  cases ml22 with
  | zero=>cases h
  | succ ml22 =>
  rw [BC] at h
  exact go (tg (a:=([1,27,28,29,30],([1,27,28,29],[1,4,5,27,28,29],[1,4,5,27,28,29,34],([2],()),([1,27,28,29,38],([2],()),[1,27,28,29],[1,27,28,29],()),[1,27,28,29,38],[1,27,28,29],[1,27,28,29],()),[1],()))) h hs q f k b d (q1 (Lj w0)) (q2 i (fun e s=>Vl22 ml22 e s (Nat.lt_succ_self _)))
 ·clear h;rintro e st ⟨Xk19,Rk19,rfl,rfl,d,h⟩
  rw [Eh] at h
  exact go (tg (a:=([2],()))) h hs q f k b d (q1 (Ny w0 hT n)) trivial
def Dy (n:Nat)  : Option Int :=
 some ((-1))
def A1 (n:Nat) (y:List Msg) (a1:Msg→Option Bool):Nat→Int→Option Int
 | 0,_=>none
 | m+1,b =>
  if decide (b<(y.length:Int)) then
   (GM y b).bind fun q =>
   (a1 q).bind fun h =>
   if h then
    some (b)
   else
    if Bj (b+1) then
     (A1 n y a1 m) (b+1)
    else none
  else
   Dy n 
def CE (n:Nat) (h:List Msg) (b:Msg→Option Bool):Option Int :=
 A1 n h b n 0
theorem Iq (w0:World) (n:Nat) (B:Aq) (Rw:Au) (L:Av) (a0:List Msg) (fa1:FuncId) (ca1:List AV) (a1:Msg→Option Bool) (ha1:∀ (x0:Msg) r,a1 x0=some r→∀ B' rows,B <+: B'→Rw <+: rows→ACalls Tryz.prog w0 fa1 ([.agg ((Ak x0.stamp.1::([.list (x0.stamp.2.map C4) .none]))++(Ak x0.mass::(.list (x0.origins.map C4) .none::(x0.body.cs))))]++ca1) ⟨B',rows,L⟩ fun v s=>v = .val (.bool r)∧s=⟨B',rows,L⟩) (r:Int) (h:CE n a0 a1=some r) :
  ACalls Tryz.prog w0 129 [.list (a0.map BZ) .none,.clo fa1 ca1] ⟨B,Rw,L⟩ fun x st=>x=Ak r∧st=⟨B,Rw,L⟩:=by
 rw [CE] at h
 refine hd [.tmp 4] Tryz.func129 Tryz.ntmps129 fun M0 W0 k g i b l f hs=>?_
 simp only [AM]
 have c:=Fg (l (.clo fa1 ca1) (by simp))
 refine rg [0,1] hs ?_
 refine A2 (fun e st=>Ck e st B Rw L [] [] [] (Dy n  = some r)) ?_ ?_
 ·intro K4 j
  refine rg [0,1,7,8] hs ?_
  apply As
  refine AP (fun m e st=>∃ (d:Int),Ck e st B Rw L [(0,true,.list (a0.map BZ) .none),(1,true,.clo fa1 ca1),(7,true,Ak (a0.length:Int)),(8,true,Ak d)] [] [] (A1 n a0 a1 m d=some r)) n ⟨0,([]),Rw,ef hs,ef hs,f,h⟩ ?_
  rintro ml6 e st ⟨d,Xl6,Rl6,rfl,rfl,f,h⟩ Ul6 Vl6
  cases ml6 with
  | zero=>cases h
  | succ ml6 =>
  rw [A1] at h
  refine D3 k g i rfl b f (Qm c f) (Qm c f) ?_
  exact go (tg (a:=([0,1,7,8,9],([0,1,7,8],[0,1,5,7,8],[0,1,5,7,8,16],([4],()),[0,1,7,8],[0,1,7,8],()),[],()))) h hs k g i b f (q1 ha1) (q2 j (fun e s=>Vl6 ml6 e s (Nat.lt_succ_self _)))
 ·clear h;rintro e st ⟨Xk3,Rk3,rfl,rfl,f,h⟩
  rw [Dy] at h
  refine D3 k g i rfl b f (Qm c f) (Qm c f) ?_
  refine rg [4] hs ?_
  exact rt h hs b f
def Bz (n:Nat) (q:List Msg) (h:Msg→Option Bool):Option Bool :=
 (CE n q h).bind fun b =>
 some (decide (0≤b))
theorem GU (w0:World) (n:Nat) (B:Aq) (Rw:Au) (L:Av) (a0:List Msg) (fa1:FuncId) (ca1:List AV) (a1:Msg→Option Bool) (ha1:∀ (x0:Msg) r,a1 x0=some r→∀ B' rows,B <+: B'→Rw <+: rows→ACalls Tryz.prog w0 fa1 ([.agg ((Ak x0.stamp.1::([.list (x0.stamp.2.map C4) .none]))++(Ak x0.mass::(.list (x0.origins.map C4) .none::(x0.body.cs))))]++ca1) ⟨B',rows,L⟩ fun v s=>v = .val (.bool r)∧s=⟨B',rows,L⟩) (r:Bool) (h:Bz n a0 a1=some r) :
  ACalls Tryz.prog w0 82 [.list (a0.map BZ) .none,.clo fa1 ca1] ⟨B,Rw,L⟩ fun x st=>x = .val (.bool r)∧st=⟨B,Rw,L⟩:=by
 rw [Bz] at h
 refine hd [.tmp 4] Tryz.func82 Tryz.ntmps82 fun M0 W0 o i l b k g hs=>?_
 simp only [AM]
 have f:=Fg (k (.clo fa1 ca1) (by simp))
 refine rg [0,1] hs ?_
 obtain ⟨m,d,h⟩:=bind_some h
 refine rc 2 [4] hs ?_;intro K2 c
 refine Az _ (Iq w0 n _ _ _ a0 fa1 ca1 a1 (fun x0 r j e a q1 q2=>ha1 x0 r j e a (List.IsPrefix.trans px q1) (g.pre.trans q2)) _ d) (hv hs) ?_
 refine ne hs c ?_
 clear c
 exact rt h hs b g
def CY (n:Nat) (h:List Int) (b:List Int):Option Int :=
 if decide ((h.length:Int)<(b.length:Int)) then
  some ((-1))
 else
  some (0)
def A5 (n:Nat) (y:List Int) (q:List Int) (a2:Int→Int→Option Int):Nat→Int→Option Int
 | 0,_=>none
 | m+1,b =>
  if decide (b<(y.length:Int)) then
   (GM y b).bind fun x12 =>
   if decide ((q.length:Int)≤b) then
    some (1)
   else
    (GM q b).bind fun x18 =>
    (a2 x12 x18).bind fun h =>
    if !(decide (h=0)) then
     some (h)
    else
     if Bj (b+1) then
      (A5 n y q a2 m) (b+1)
     else none
  else
   CY n y q 
def Da (n:Nat) (q:List Int) (h:List Int) (b:Int→Int→Option Int):Option Int :=
 A5 n q h b n 0
theorem I6 (w0:World) (n:Nat) (B:Aq) (Rw:Au) (L:Av) (a0:List Int) (a1:List Int) (fa2:FuncId) (ca2:List AV) (a2:Int→Int→Option Int) (ha2:∀ (x0:Int) (x1:Int) r,a2 x0 x1=some r→∀ B' rows,B <+: B'→Rw <+: rows→ACalls Tryz.prog w0 fa2 ([Ak x0,Ak x1]++ca2) ⟨B',rows,L⟩ fun v s=>v=Ak r∧s=⟨B',rows,L⟩) (r:Int) (h:Da n a0 a1 a2=some r) :
  ACalls Tryz.prog w0 73 [.list (a0.map C4) .none,.list (a1.map C4) .none,.clo fa2 ca2] ⟨B,Rw,L⟩ fun x st=>x=Ak r∧st=⟨B,Rw,L⟩:=by
 rw [Da] at h
 refine hd [.tmp 6] Tryz.func73 Tryz.ntmps73 fun M0 W0 j g i b l f hs=>?_
 simp only [AM]
 have c:=Fg (l (.clo fa2 ca2) (by simp))
 refine rg [0,1,2] hs ?_
 refine A2 (fun e st=>Ck e st B Rw L [(0,true,.list (a0.map C4) .none),(1,true,.list (a1.map C4) .none)] [] [] (CY n a0 a1  = some r)) ?_ ?_
 ·intro K4 k
  refine rg [0,1,2,11,12,13] hs ?_
  apply As
  refine AP (fun m e st=>∃ (d:Int),Ck e st B Rw L [(0,true,.list (a0.map C4) .none),(1,true,.list (a1.map C4) .none),(2,true,.clo fa2 ca2),(11,true,.list (a0.map C4) .none),(12,true,Ak (a0.length:Int)),(13,true,Ak d)] [] [] (A5 n a0 a1 a2 m d=some r)) n ⟨0,([]),Rw,ef hs,ef hs,f,h⟩ ?_
  rintro ml6 e st ⟨d,Xl6,Rl6,rfl,rfl,f,h⟩ Ul6 Vl6
  cases ml6 with
  | zero=>cases h
  | succ ml6 =>
  rw [A5] at h
  refine D3 j g i rfl b f (Qm c f) (Qm c f) ?_
  exact go (tg (a:=([0,1,2,11,12,13,14],([0,1,2,11,12,13],[0,1,2,7,8,11,12,13],[0,1,2,7,8,11,12,13,21],([6],()),[0,1,2,7,8,11,12,13],[0,1,2,8,9,11,12,13],[0,1,2,10,11,12,13],[0,1,2,10,11,12,13,31],([6],()),[0,1,2,11,12,13],[0,1,2,11,12,13],()),[0,1],()))) h hs j g i b f (q1 ha2) (q2 k (fun e s=>Vl6 ml6 e s (Nat.lt_succ_self _)))
 ·clear h;rintro e st ⟨Xk3,Rk3,rfl,rfl,f,h⟩
  rw [CY] at h
  refine D3 j g i rfl b f (Qm c f) (Qm c f) ?_
  exact go (tg (a:=([38],([6],()),[],[6],()))) h hs j g i b f trivial trivial
def BD (h:Int) (b:Int):Int :=
 if h<b then -1 else if h=b then 0 else 1
theorem Kp (w0:World) (B:Aq) (Rw:Au) (L:Av) (a0:Int) (a1:Int) (r:Int) (h:BD a0 a1=r) :
  ACalls Tryz.prog w0 74 [Ak a0,Ak a1] ⟨B,Rw,L⟩ fun x st=>x=Ak r∧st=⟨B,Rw,L⟩:=by
 rw [BD] at h
 refine hd [.tmp 4] Tryz.func74 Tryz.ntmps74 fun M0 W0 f c d b g e hs=>?_
 simp only [AM]
 exact go (tg (a:=([0,1],[4],()))) h hs f c d b e (q1 (G1 w0)) trivial
theorem J0 (w0:World) (B:Aq) (Rw:Au) (L:Av) (a0:Int) (a1:Int) :
  ACalls Tryz.prog w0 74 [Ak a0,Ak a1] ⟨B,Rw,L⟩ fun x st=>x=Ak (BD a0 a1)∧st=⟨B,Rw,L⟩:=Kp w0 B Rw L a0 a1 _ rfl
def E8 (n:Nat) (h:Int × List Int) (b:Int × List Int):Option Int :=
 (Da n h.2 b.2 (fun (x0:Int) (y:Int)=>some (BD x0 y))).bind fun q =>
 (EN n ([if h.1<b.1 then -1 else if h.1=b.1 then 0 else 1,q])).bind fun y4 =>
 some (y4)
theorem L1 (w0:World) (n:Nat) (B:Aq) (Rw:Au) (L:Av) (a0:Int × List Int) (a1:Int × List Int) (r:Int) (h:E8 n a0 a1=some r) :
  ACalls Tryz.prog w0 44 [.agg (Ak a0.1::([.list (a0.2.map C4) .none])),.agg (Ak a1.1::([.list (a1.2.map C4) .none]))] ⟨B,Rw,L⟩ fun x st=>x=Ak r∧st=⟨B,Rw,L⟩:=by
 rw [E8] at h
 refine hd [.tmp 4] Tryz.func44 Tryz.ntmps44 fun M0 W0 k c d b o f hs=>?_
 simp only [AM]
 refine rg [2,3] hs ?_
 obtain ⟨l,hy3,h⟩:=bind_some h
 obtain ⟨p,i,h⟩:=bind_some h
 apply Am;intro K2 e
 refine dk 13 4 1 [4] hs Pz ?_
 refine Az _ (G1 w0 _ _ _ a0.1 a1.1) (hv hs) ?_
 refine nc hs ?_
 refine Az _ (I6 w0 n _ _ _ a0.2 a1.2 74 [] (fun (x0:Int) (x1:Int)=>some (BD x0 x1)) (fun x0 x1 r hx m rows' g j=>by cases hx;exact J0 w0 _ _ _ x0 x1) _ hy3) (hv hs) ?_
 exact go (tg (a:=((),()))) h hs k c d b f (q1 (HE w0 n)) (q1 e)
def E0 (n:Nat) (q:Int × List Int) (h:Int × List Int):Option Bool :=
 (E8 n q h).bind fun b =>
 some (decide (b=0))
theorem OI (w0:World) (n:Nat) (B:Aq) (Rw:Au) (L:Av) (a0:Int × List Int) (a1:Int × List Int) (r:Bool) (h:E0 n a0 a1=some r) :
  ACalls Tryz.prog w0 24 [.agg (Ak a0.1::([.list (a0.2.map C4) .none])),.agg (Ak a1.1::([.list (a1.2.map C4) .none]))] ⟨B,Rw,L⟩ fun x st=>x = .val (.bool r)∧st=⟨B,Rw,L⟩:=by
 rw [E0] at h
 refine hd [.tmp 4] Tryz.func24 Tryz.ntmps24 fun M0 W0 f c d b g e hs=>?_
 simp only [AM]
 exact go (tg (a:=([2,3],[4],()))) h hs f c d b e (q1 (L1 w0 n)) trivial
def Br (n:Nat) (q:Msg) (h:Msg):Option Bool :=
 (E0 n q.stamp h.stamp).bind fun b =>
 some (b)
theorem H2 (w0:World) (n:Nat) (B:Aq) (Rw:Au) (L:Av) (a0:Msg) (la1:Nat) (a1:Msg) (hla1:B[la1]? = some ((Ak a1.stamp.1::([.list (a1.stamp.2.map C4) .none]))++(Ak a1.mass::(.list (a1.origins.map C4) .none::(a1.body.cs))))) (r:Bool) (h:Br n a0 a1=some r) :
  ACalls Tryz.prog w0 83 [.agg ((Ak a0.stamp.1::([.list (a0.stamp.2.map C4) .none]))++(Ak a0.mass::(.list (a0.origins.map C4) .none::(a0.body.cs)))),.box la1 0] ⟨B,Rw,L⟩ fun x st=>x = .val (.bool r)∧st=⟨B,Rw,L⟩:=by
 rw [Br] at h
 refine hd [.tmp 3] Tryz.func83 Tryz.ntmps83 fun M0 W0 g d e b i f hs=>?_
 simp only [AM]
 have c:=(Aj.1 hla1).1
 have hs:=Ad (BR hla1) hs
 exact go (tg (a:=([1,2],[3],()))) h hs g d e b f (q1 (OI w0 n)) trivial
def Be (h:Int) (b:Int):Int :=
 if (((decide (h<((-999999999999999))))||(decide (999999999999999<h)))||(decide (b<0)))||(decide (17592186044416<b)) then
  2
 else
  0
theorem L8 (w0:World) (B:Aq) (Rw:Au) (L:Av) (a0:Int) (a1:Int) (r:Int) (h:Be a0 a1=r) :
  ACalls Tryz.prog w0 45 [Ak a0,Ak a1] ⟨B,Rw,L⟩ fun x st=>x=Ak r∧st=⟨B,Rw,L⟩:=by
 rw [Be] at h
 refine hd [.tmp 4] Tryz.func45 Tryz.ntmps45 fun M0 W0 f c d b g e hs=>?_
 simp only [AM]
 exact go (tg (a:=([0,1],[18],([4],()),[],[4],()))) h hs f c d b e trivial trivial
theorem Ho (w0:World) (B:Aq) (Rw:Au) (L:Av) (a0:Int) (a1:Int) :
  ACalls Tryz.prog w0 45 [Ak a0,Ak a1] ⟨B,Rw,L⟩ fun x st=>x=Ak (Be a0 a1)∧st=⟨B,Rw,L⟩:=L8 w0 B Rw L a0 a1 _ rfl
def BM (n:Nat)  (pla0_k39_0:List Msg) (pla0_k39_1:Int):Option (Int × Chk) :=
 some ((0,Chk.mk pla0_k39_0 pla0_k39_1))
def AU (n:Nat) (y:Slt):Nat→Int→(List Msg)→Int→Option (Int × Chk)
 | 0,_,_,_=>none
 | m+1,b,pla0_l42_0,pla0_l42_1 =>
  if decide (b<(y.values.length:Int)) then
   (GM y.values b).bind fun q =>
   if decide (pla0_l42_1=4096) then
    some ((9,Chk.mk pla0_l42_0 pla0_l42_1))
   else
    (Fq n q).bind fun h =>
    if !(decide (h=0)) then
     some ((h,Chk.mk pla0_l42_0 pla0_l42_1))
    else
     if Bj (pla0_l42_1+1) then
      if Bj (b+1) then
       (AU n y m) (b+1) pla0_l42_0 (pla0_l42_1+1)
      else none
     else none
  else
   BM n pla0_l42_0 pla0_l42_1
def BO (n:Nat) (h:Chk) (b:Slt) (pla0_k8_0:List Msg):Option (Int × Chk) :=
 AU n b n 0 pla0_k8_0 h.values
def AX (n:Nat) (q:Chk) (a1:Slt):Nat→Int→(List Msg)→Option (Int × Chk)
 | 0,_,_=>none
 | m+1,b,pla0_l11_0 =>
  if decide (b<(a1.items.length:Int)) then
   (GM a1.items b).bind fun h =>
   if decide ((pla0_l11_0.length:Int)=256) then
    some ((9,Chk.mk pla0_l11_0 q.values))
   else
    (DZ n h).bind fun y =>
    if !(decide (y=0)) then
     some ((y,Chk.mk pla0_l11_0 q.values))
    else
     (Bz n pla0_l11_0 (fun (x0:Msg)=>Br n x0 h)).bind fun y30 =>
     if y30 then
      some ((7,Chk.mk pla0_l11_0 q.values))
     else
      if (pla0_l11_0.length+1)*152≤140737488355328∧pla0_l11_0.length+1≤4611686018427387904 then
       if Bj (b+1) then
        (AX n q a1 m) (b+1) (pla0_l11_0++([h]))
       else none
      else none
  else
   BO n q a1 pla0_l11_0
def Bm (n:Nat) (h:Chk) (b:Slt):Option (Int × Chk) :=
 if !(decide ((Be b.number b.time)=0)) then
  some ((Be b.number b.time,h))
 else
  AX n h b n 0 h.items
theorem I7 (w0:World) (hT:Lib.Utf8Tabs 1 2 w0) (n:Nat) (B:Aq) (Rw:Au) (L:Av) (la0:Nat) (a0:Chk) (oa0:Ev.Own) (hla0:B[la0]? = some ([.list (a0.items.map BZ) oa0,Ak a0.values])) (hGa0:Owns Rw Rw [(10,a0.items.length,oa0)] oa0) (a1:Slt) (r:Int × Chk) (h:Bm n a0 a1=some r) :
  ACalls Tryz.prog w0 49 [.box la0 0,.agg ((a1.key.cs)++(Ak a1.number::(Ak a1.time::(.list (a1.items.map BZ) .none::([.list (a1.values.map Dp) .none])))))] ⟨B,Rw,L⟩ fun x st=>x=Ak r.1∧∃ (R1:Au) (o1:Ev.Own),st=⟨(B.set la0 ([.list (r.2.items.map BZ) o1,Ak r.2.values])),R1,L⟩∧Owns Rw R1 [(10,r.2.items.length,o1)] oa0:=by
 rw [Bm] at h
 refine ACalls.finG (Dz (rs:=[.tmp 4]) Tryz.func49 rfl rfl Tryz.ntmps49 (A0 Tryz.func49 rfl (by decide)) (Nat.le_of_ble_eq_true rfl) ?_)
 intro M0 W0 hN U V k hu
 dsimp only at hN U V k hu
 simp only [AM]
 have j:=hGa0
 have hs:=Zjk
 have a5:=(Aj.1 hla0).1
 have hs:=Ad (BR hla0) hs
 refine rg [0,3] hs ?_
 apply Am;intro K2 au
 refine rc 2 [0,3,5] hs ?_;intro K3 ax
 refine Az _ (Ho w0 _ _ _ a1.number a1.time) (hv hs) ?_
 refine ne hs ax ?_
 clear ax
 refine rg [0,3,5,18] hs ?_
 refine GB h hs ?_ ?_<;>intro hs h
 ·have l:=hs.1
  refine rg [4] hs ?_
  apply Bt;simp +decide only [go_sem,Nat.reduceAdd,BR hla0,l]
  have hgt:=Option.some.inj h;subst hgt
  have O:=j.unders
  simp only [List.mem_cons,List.not_mem_nil,or_false,forall_eq_or_imp,forall_eq] at O
  refine Kr j (FM k j.len) rfl ev ⟨?_,_,_,?_,(j.sub (List.sublist_append_left [_] _)).len1 EF⟩
  all_goals first | rfl | (simp +decide only [go_sem,Nat.reduceAdd,BR hla0,l];done) | (simp +decide only [go_sem,Nat.reduceAdd,Vl.cs,Ty.cs,BR hla0,l];done)
 have l:=hs.1
 refine sk [0,3] hs au ?_
 clear au
 refine A2 (fun e st=>∃ (p:List Msg) (t:Ev.Own) (Xk8:Aq) (Rk8:Au),e=[(0,true,.box la0 0),(3,true,.box B.length 0)]∧st=⟨(B.set la0 ([.list (p.map BZ) t,Ak a0.values]))++([(a1.key.cs)++(Ak a1.number::(Ak a1.time::(.list (a1.items.map BZ) .none::([.list (a1.values.map Dp) .none]))))]++Xk8),Rk8,L⟩∧Owns Rw Rk8 [(10,p.length,t)] oa0∧BO n a0 a1 p=some r) ?_ ?_
 ·intro K9 a7
  refine rg [0,3,21,22,23] hs ?_
  apply As
  refine AP (fun m e st=>∃ (G:Int) (b:List Msg) (o:Ev.Own) (Xl11:Aq) (Rl11:Au),e=[(0,true,.box la0 0),(3,true,.box B.length 0),(21,true,.list (a1.items.map BZ) .none),(22,true,Ak (a1.items.length:Int)),(23,true,Ak G)]∧st=⟨(B.set la0 ([.list (b.map BZ) o,Ak a0.values]))++([(a1.key.cs)++(Ak a1.number::(Ak a1.time::(.list (a1.items.map BZ) .none::([.list (a1.values.map Dp) .none]))))]++Xl11),Rl11,L⟩∧Owns Rw Rl11 [(10,b.length,o)] oa0∧AX n a0 a1 m G b=some r) n ⟨0,a0.items,oa0,([]),Rw,ef hs,ef hs,Owns.of_eq (j) EF,h⟩ ?_
  rintro ml11 e st ⟨G,b,o,Xl11,Rl11,rfl,rfl,j,h⟩ Ul11 Vl11
  cases ml11 with
  | zero=>cases h
  | succ ml11 =>
  rw [AX] at h
  have O:=j.unders
  simp only [List.mem_cons,List.not_mem_nil,or_false,forall_eq_or_imp,forall_eq] at O
  refine JM hN U V ls_ (DY (FM k j.len) ow) j ow ow ?_
  refine rg [0,3,21,22,23,24] hs ?_
  apply Am;intro K13 am
  refine GB h hs ?_ ?_<;>intro hs h
  rotate_left
  ·have v:=hs.1
   refine sx [0,3] hs a7 ?_
   exact ⟨b,o,([]),Rl11,ef hs,ef hs,Owns.of_eq (j) EF,h⟩
  have v:=hs.1
  refine sk [0,3,21,22,23] hs am ?_
  clear am
  apply Am;intro K15 aj
  apply As
  obtain ⟨H,av,h⟩:=bind_some h
  obtain ⟨a8,ba,aq⟩:=EZ av
  have d:=EX (f:=BZ) aq
  have hs:=Ad d hs
  refine rg [0,3,7,21,22,23] hs ?_
  apply Am;intro K18 ao
  refine rg [0,3,7,21,22,23,32] hs ?_
  refine GB h hs ?_ ?_<;>intro hs h
  ·have w:=hs.1
   refine rg [4] hs ?_
   apply Bt;simp +decide only [go_sem,Nat.reduceAdd,BR hla0,l,v,d,w]
   have hgt:=Option.some.inj h;subst hgt
   have O:=j.unders
   simp only [List.mem_cons,List.not_mem_nil,or_false,forall_eq_or_imp,forall_eq] at O
   refine Kr j (DY (FM k j.len) ow) ls_ ev ⟨?_,_,_,?_,(j.sub (List.sublist_append_left [_] _)).len1 EF⟩
   all_goals first | rfl | (simp +decide only [go_sem,Nat.reduceAdd,BR hla0,l,v,d,w];done) | (simp +decide only [go_sem,Nat.reduceAdd,Vl.cs,Ty.cs,BR hla0,l,v,d,w];done)
  have w:=hs.1
  refine sk [0,3,7,21,22,23] hs ao ?_
  clear ao
  apply Am;intro K22 ad
  obtain ⟨bi,a4,h⟩:=bind_some h
  refine rc 2 [0,3,7,8,21,22,23] hs ?_;intro K23 ai
  refine Az _ (MK w0 hT n _ _ _ H _ a4) (hv hs) ?_
  refine ne hs ai ?_
  clear ai
  refine rg [0,3,7,8,21,22,23,36] hs ?_
  refine GB h hs ?_ ?_<;>intro hs h
  ·have D:=hs.1
   refine rg [4] hs ?_
   apply Bt;simp +decide only [go_sem,Nat.reduceAdd,BR hla0,l,v,d,w,D]
   have hgt:=Option.some.inj h;subst hgt
   have O:=j.unders
   simp only [List.mem_cons,List.not_mem_nil,or_false,forall_eq_or_imp,forall_eq] at O
   refine Kr j (DY (FM k j.len) ow) ls_ ev ⟨?_,_,_,?_,(j.sub (List.sublist_append_left [_] _)).len1 EF⟩
   all_goals first | rfl | (simp +decide only [go_sem,Nat.reduceAdd,BR hla0,l,v,d,w,D];done) | (simp +decide only [go_sem,Nat.reduceAdd,Vl.cs,Ty.cs,BR hla0,l,v,d,w,D];done)
  have D:=hs.1
  refine sk [0,3,7,21,22,23] hs ad ?_
  clear ad
  apply Am;intro K28 aa
  obtain ⟨bh,az,h⟩:=bind_some h
  refine rc 2 [0,3,7,21,22,23,43] hs ?_;intro K29 ak
  refine Az _ (GU w0 n _ _ _ b 83 [.box (B.length+1) 0] (fun (x0:Msg)=>Br n x0 H) (fun x0 r hx B' rows' a6 bj=>by exact H2 w0 n _ _ _ x0 _ H (UV a6 (ef hs)) _ hx) _ az) (hv hs) ?_
  refine ne hs ak ?_
  clear ak
  refine GB h hs ?_ ?_<;>intro hs h
  ·have J:=hs.1
   refine rg [4] hs ?_
   apply Bt;simp +decide only [go_sem,Nat.reduceAdd,BR hla0,l,v,d,w,D,J]
   have hgt:=Option.some.inj h;subst hgt
   have O:=j.unders
   simp only [List.mem_cons,List.not_mem_nil,or_false,forall_eq_or_imp,forall_eq] at O
   refine Kr j (DY (FM k j.len) ow) ls_ ev ⟨?_,_,_,?_,(j.sub (List.sublist_append_left [_] _)).len1 EF⟩
   all_goals first | rfl | (simp +decide only [go_sem,Nat.reduceAdd,BR hla0,l,v,d,w,D,J];done) | (simp +decide only [go_sem,Nat.reduceAdd,Vl.cs,Ty.cs,BR hla0,l,v,d,w,D,J];done)
  have J:=hs.1
  refine sk [0,3,7,21,22,23] hs aa ?_
  clear aa
  obtain ⟨ag,h⟩:=An h
  obtain ⟨bb,Y,j,q⟩:=j.append (P:=Tryz.prog) Zbd (by rw [Up];rfl) (by decide) 1 ag.1 ag.2
  replace q:=fun (ys:List AV) B L o2=>q (b.map BZ) ys B L o2 EF
  replace q:=fun (y:AV) B L o2=>q [y] B L o2 EF ev
  try simp only [List.mem_singleton,List.mem_cons,List.not_mem_nil,or_false,forall_eq_or_imp,forall_eq,List.map_append,List.map_cons,List.map_nil,HQ,HI,HH,HU,HF,HS,Gf,F9,HT,EC,Ep,Gg,Gi,Gh,HL,Ge,HG] at q
  apply Jw Pz [7,10] [4] [0,3,21,22,23] kr (fun s=>∃ (X:Aq) (rows:Au) (ab:List AV),s=⟨(B.set la0 ab)++([(a1.key.cs)++(Ak a1.number::(Ak a1.time::(.list (a1.items.map BZ) .none::([.list (a1.values.map Dp) .none])))),(Ak H.stamp.1::([.list (H.stamp.2.map C4) .none]))++(Ak H.mass::(.list (H.origins.map C4) .none::(H.body.cs)))]++X),rows,L⟩) 3 (B.length+2)
  ·simp +decide only [go_sem,Nat.reduceAdd]
  ·refine ⟨1,?_⟩
   rw [Ao];simp +decide only [go_sem,Nat.reduceAdd,BA,BR hla0,l,v,d,w,D,J,q]
   (repeat' apply Ad)<;>first | rfl | exact cl
  ·rintro s ⟨X,rows,ab,rfl⟩
   refine ⟨1,?_⟩
   rw [Ao];simp +decide only [go_sem,Nat.reduceAdd,BA,List.append_eq,List.cons_append,List.nil_append,BR hla0,l,v,d,w,D,J,q]
   have hs:=Ad q hs
   (repeat' apply Ad)<;>first | rfl | ((repeat (first | exact .nil | refine .cons (ef hs) ?_));done) | exact cl
  ·exact gd (tg (a:=(7,10,[0,3,21,22,23]))) (Ad q (Ad d (Ad (BR hla0) hs)))
  simp +decide only [go_sem,Nat.reduceAdd,BR hla0,l,v,d,w,D,J,q]
  (repeat' apply Ad)<;>first | refine aj _ _ ?_ | exact cl
  clear aj
  obtain ⟨bd,h⟩:=An h
  have hs:=Ad q hs
  refine rl [0,3,21,22,23] hs (fun e s=>Vl11 ml11 e s (Nat.lt_succ_self _)) ?_
  exact ⟨(G+1),(b++([H])),bb,([(Ak H.stamp.1::([.list (H.stamp.2.map C4) .none]))++(Ak H.mass::(.list (H.origins.map C4) .none::(H.body.cs)))]),Y,ef hs,ef hs,Owns.of_eq (j) EF,h⟩
 ·clear h;rintro e st ⟨p,t,Xk8,Rk8,rfl,rfl,j,h⟩
  rw [BO] at h
  have O:=j.unders
  simp only [List.mem_cons,List.not_mem_nil,or_false,forall_eq_or_imp,forall_eq] at O
  refine JM hN U V ls_ (DY (FM k j.len) ow) j ow ow ?_
  refine A2 (fun e st=>∃ (u:List Msg) (C:Int) (z:Ev.Own) (Xk39:Aq) (Rk39:Au),e=[]∧st=⟨(B.set la0 ([.list (u.map BZ) z,Ak C]))++([(a1.key.cs)++(Ak a1.number::(Ak a1.time::(.list (a1.items.map BZ) .none::([.list (a1.values.map Dp) .none]))))]++Xk39),Rk39,L⟩∧Owns Rw Rk39 [(10,u.length,z)] oa0∧BM n u C=some r) ?_ ?_
  ·intro K40 ay
   refine rg [0,56,57,58] hs ?_
   apply As
   refine AP (fun m e st=>∃ (F:Int) (c:List Msg) (i:Int) (g:Ev.Own) (Xl42:Aq) (Rl42:Au),e=[(0,true,.box la0 0),(56,true,.list (a1.values.map Dp) .none),(57,true,Ak (a1.values.length:Int)),(58,true,Ak F)]∧st=⟨(B.set la0 ([.list (c.map BZ) g,Ak i]))++([(a1.key.cs)++(Ak a1.number::(Ak a1.time::(.list (a1.items.map BZ) .none::([.list (a1.values.map Dp) .none]))))]++Xl42),Rl42,L⟩∧Owns Rw Rl42 [(10,c.length,g)] oa0∧AU n a1 m F c i=some r) n ⟨0,p,a0.values,t,([]),Rk8,ef hs,ef hs,Owns.of_eq (j) EF,h⟩ ?_
   rintro ml42 e st ⟨F,c,i,g,Xl42,Rl42,rfl,rfl,j,h⟩ Ul42 Vl42
   cases ml42 with
   | zero=>cases h
   | succ ml42 =>
   rw [AU] at h
   have O:=j.unders
   simp only [List.mem_cons,List.not_mem_nil,or_false,forall_eq_or_imp,forall_eq] at O
   refine JM hN U V ls_ (DY (FM k j.len) ow) j ow ow ?_
   refine rg [0,56,57,58,59] hs ?_
   apply Am;intro K44 af
   refine GB h hs ?_ ?_<;>intro hs h
   rotate_left
   ·have K:=hs.1
    refine sx [] hs ay ?_
    exact ⟨c,i,g,([]),Rl42,ef hs,ef hs,Owns.of_eq (j) EF,h⟩
   have K:=hs.1
   refine sk [0,56,57,58] hs af ?_
   clear af
   apply Am;intro K46 ah
   apply As
   obtain ⟨a3,aw,h⟩:=bind_some h
   obtain ⟨bc,a9,ar⟩:=EZ aw
   have E:=EX (f:=Dp) ar
   have hs:=Ad E hs
   refine rg [0,10,56,57,58] hs ?_
   apply Am;intro K49 Z
   refine rg [0,10,56,57,58,66] hs ?_
   refine GB h hs ?_ ?_<;>intro hs h
   ·have N:=hs.1
    refine rg [4] hs ?_
    apply Bt;simp +decide only [go_sem,Nat.reduceAdd,BR hla0,l,K,E,N]
    have hgt:=Option.some.inj h;subst hgt
    have O:=j.unders
    simp only [List.mem_cons,List.not_mem_nil,or_false,forall_eq_or_imp,forall_eq] at O
    refine Kr j (DY (FM k j.len) ow) ls_ ev ⟨?_,_,_,?_,(j.sub (List.sublist_append_left [_] _)).len1 EF⟩
    all_goals first | rfl | (simp +decide only [go_sem,Nat.reduceAdd,BR hla0,l,K,E,N];done) | (simp +decide only [go_sem,Nat.reduceAdd,Vl.cs,Ty.cs,BR hla0,l,K,E,N];done)
   have N:=hs.1
   refine sk [0,10,56,57,58] hs Z ?_
   clear Z
   apply Am;intro K53 ap
   obtain ⟨bg,a2,h⟩:=bind_some h
   refine rc 2 [0,11,56,57,58] hs ?_;intro K54 ae
   refine Az _ (Kz w0 hT n _ _ _ a3 _ a2) (hv hs) ?_
   refine ne hs ae ?_
   clear ae
   refine rg [0,11,56,57,58,70] hs ?_
   refine GB h hs ?_ ?_<;>intro hs h
   ·have Q:=hs.1
    refine rg [4] hs ?_
    apply Bt;simp +decide only [go_sem,Nat.reduceAdd,BR hla0,l,K,E,N,Q]
    have hgt:=Option.some.inj h;subst hgt
    have O:=j.unders
    simp only [List.mem_cons,List.not_mem_nil,or_false,forall_eq_or_imp,forall_eq] at O
    refine Kr j (DY (FM k j.len) ow) ls_ ev ⟨?_,_,_,?_,(j.sub (List.sublist_append_left [_] _)).len1 EF⟩
    all_goals first | rfl | (simp +decide only [go_sem,Nat.reduceAdd,BR hla0,l,K,E,N,Q];done) | (simp +decide only [go_sem,Nat.reduceAdd,Vl.cs,Ty.cs,BR hla0,l,K,E,N,Q];done)
   have Q:=hs.1
   refine sk [0,56,57,58] hs ap ?_
   clear ap
   obtain ⟨be,h⟩:=An h
   refine rl [0,56,57,58] hs ah ?_
   clear ah
   obtain ⟨bf,h⟩:=An h
   refine rl [0,56,57,58] hs (fun e s=>Vl42 ml42 e s (Nat.lt_succ_self _)) ?_
   exact ⟨(F+1),c,(i+1),g,([a3.cs]),Rl42,ef hs,ef hs,Owns.of_eq (j) EF,h⟩
  ·clear h;rintro e st ⟨u,C,z,Xk39,Rk39,rfl,rfl,j,h⟩
   rw [BM] at h
   have O:=j.unders
   simp only [List.mem_cons,List.not_mem_nil,or_false,forall_eq_or_imp,forall_eq] at O
   refine JM hN U V ls_ (DY (FM k j.len) ow) j ow ow ?_
   refine rg [4] hs ?_
   apply Bt;simp +decide only [go_sem,Nat.reduceAdd,BR hla0,l]
   have hgt:=Option.some.inj h;subst hgt
   have O:=j.unders
   simp only [List.mem_cons,List.not_mem_nil,or_false,forall_eq_or_imp,forall_eq] at O
   refine Kr j (DY (FM k j.len) ow) ls_ ev ⟨?_,_,_,?_,(j.sub (List.sublist_append_left [_] _)).len1 EF⟩
   all_goals first | rfl | (simp +decide only [go_sem,Nat.reduceAdd,BR hla0,l];done) | (simp +decide only [go_sem,Nat.reduceAdd,Vl.cs,Ty.cs,BR hla0,l];done)
def C6 (n:Nat) (h:Int→(List Msg)→Int→Option Int) (b:Int) (b1_l16_1:Int) (y:Slt) (b1_k30_0:List Msg):Option Int :=
 (Bm n (Chk.mk b1_k30_0 b1_l16_1) y).bind fun q =>
 if !(decide (q.1=0)) then
  some (q.1)
 else
  if Bj (b+1) then
   h (b+1) q.2.items q.2.values
  else none
def E7 (n:Nat)  (b1_k13_0:List Msg) (b1_k13_1:Int):Option Int :=
 some (0)
def Bo (n:Nat) (q:Stt):Nat→Int→(List Msg)→Int→Option Int
 | 0,_,_,_=>none
 | m+1,b,b1_l16_0,b1_l16_1 =>
  if decide (b<(q.slots.length:Int)) then
   (GM q.slots b).bind fun h =>
   (Fq n h.key).bind fun y25 =>
   if (!(decide (y25=0)))&&(!(BJ h.key)) then
    some (y25)
   else
    if decide (0<b) then
     if Bj (b-1) then
      (GM q.slots (b-1)).bind fun x36 =>
      (DF n h.key x36.key).bind fun y =>
      if decide (y=0) then
       some (7)
      else
       if decide (y=((-1))) then
        some (24)
       else
        C6 n (Bo n q m) b b1_l16_1 h b1_l16_0
     else none
    else
     C6 n (Bo n q m) b b1_l16_1 h b1_l16_0
  else
   E7 n b1_l16_0 b1_l16_1
def D6 (n:Nat) (b:Stt):Option Int :=
 if !(decide ((Be b.number b.time)=0)) then
  some (Be b.number b.time)
 else
  if decide (1024<(b.slots.length:Int)) then
   some (9)
  else
   Bo n b n 0 ([]) 0
theorem Jm (w0:World) (hT:Lib.Utf8Tabs 1 2 w0) (n:Nat) (B:Aq) (Rw:Au) (L:Av) (a0:Stt) (r:Int) (h:D6 n a0=some r) :
  ACalls Tryz.prog w0 25 [.agg (Ak a0.number::(Ak a0.time::([.list (a0.slots.map B2) .none])))] ⟨B,Rw,L⟩ fun x st=>x=Ak r∧st=⟨B,Rw,L⟩:=by
 rw [D6] at h
 refine hd [.tmp 2] Tryz.func25 Tryz.ntmps25 fun M0 W0 U u v j hu t hs=>?_
 simp only [AM]
 refine rg [1] hs ?_
 apply Am;intro K2 J
 refine rc 2 [1,3] hs ?_;intro K3 H
 refine Az _ (Ho w0 _ _ _ a0.number a0.time) (hv hs) ?_
 refine ne hs H ?_
 clear H
 refine rg [1,3,15] hs ?_
 refine GB h hs ?_ ?_<;>intro hs h
 ·refine rg [2] hs ?_
  exact rt h hs j t
 refine sk [1] hs J ?_
 clear J
 apply Am;intro K7 K
 refine rg [1,20] hs ?_
 refine GB h hs ?_ ?_<;>intro hs h
 ·refine rg [2] hs ?_
  exact rt h hs j t
 refine sk [1] hs K ?_
 clear K
 refine rg [1,4] hs ?_
 refine A2 (fun e st=>∃ (l:List Msg) (p:Int) (o:Ev.Own),Ck e st B Rw L [] [Ak a0.number::(Ak a0.time::([.list (a0.slots.map B2) .none])),[.list (l.map BZ) o,Ak p]] [(10,l.length,o)] (E7 n l p=some r)) ?_ ?_
 ·intro K14 Q
  refine rg [1,4,22,23,24] hs ?_
  apply As
  refine AP (fun m e st=>∃ (k:Int) (d:List Msg) (b:Int) (g:Ev.Own),Ck e st B Rw L [(1,true,.box B.length 0),(4,true,.box (B.length+1) 0),(22,true,.list (a0.slots.map B2) .none),(23,true,Ak (a0.slots.length:Int)),(24,true,Ak k)] [Ak a0.number::(Ak a0.time::([.list (a0.slots.map B2) .none])),[.list (d.map BZ) g,Ak b]] [(10,d.length,g)] (Bo n a0 m k d b=some r)) n ⟨0,([]),0,.full,([]),Rw,ef hs,ef hs,Owns.of_eq ((t).full 10 0) EF,h⟩ ?_
  rintro ml16 e st ⟨k,d,b,g,Xl16,Rl16,rfl,rfl,t,h⟩ Ul16 Vl16
  cases ml16 with
  | zero=>cases h
  | succ ml16 =>
  rw [Bo] at h
  have hU:=t.unders
  simp only [List.mem_cons,List.not_mem_nil,or_false,forall_eq_or_imp,forall_eq] at hU
  refine td U u v j t ?_
  refine rg [1,4,22,23,24,25] hs ?_
  apply Am;intro K18 D
  refine GB h hs ?_ ?_<;>intro hs h
  rotate_left
  ·refine sx [] hs Q ?_
   exact ⟨d,b,g,([]),Rl16,ef hs,ef hs,Owns.of_eq (t) EF,h⟩
  refine sk [1,4,22,23,24] hs D ?_
  clear D
  apply Am;intro K20 G
  apply As
  obtain ⟨q,O,h⟩:=bind_some h
  obtain ⟨ab,aa,E⟩:=EZ O
  have F:=EX (f:=B2) E
  have hs:=Ad F hs
  refine rg [1,4,5,6,22,23,24] hs ?_
  apply Am;intro K23 C
  obtain ⟨af,N,h⟩:=bind_some h
  refine rc 2 [1,4,5,6,7,22,23,24] hs ?_;intro K24 y
  refine Az _ (Kz w0 hT n _ _ _ q.key _ N) (hv hs) ?_
  refine ne hs y ?_
  clear y
  refine rc 2 [1,4,5,6,7,22,23,24,39] hs ?_;intro K26 z
  refine U2 _ (fun _=>IC w0 _ _ _ q.key) (hv hs) ?_
  refine ne hs z ?_
  clear z
  refine GB h hs ?_ ?_<;>intro hs h
  ·refine rg [2] hs ?_
   exact rt h hs j t
  refine sk [1,4,5,6,22,23,24] hs C ?_
  clear C
  refine A2 (fun e st=>∃ (c:List Msg) (i:Ev.Own),Ck e st B Rw L [(1,true,.box B.length 0),(4,true,.box (B.length+1) 0),(6,true,.box (B.length+2) 0),(22,true,.list (a0.slots.map B2) .none),(23,true,Ak (a0.slots.length:Int)),(24,true,Ak k)] [Ak a0.number::(Ak a0.time::([.list (a0.slots.map B2) .none])),[.list (c.map BZ) i,Ak b],(q.key.cs)++(Ak q.number::(Ak q.time::(.list (q.items.map BZ) .none::([.list (q.values.map Dp) .none]))))] [(10,c.length,i)] (C6 n (Bo n a0 ml16) k b q c=some r)) ?_ ?_
  ·intro K31 V
   exact go (tg (a:=([1,4,5,6,22,23,24,42],([10,1,4,6,22,23,24,52],[1,4,6,22,23,24,52,53],([2],()),[1,4,6,22,23,24,55],([2],()),[1,4,6,22,23,24],()),[1,4,6,22,23,24],()))) h hs U u v j t (q1 (LP w0 n)) (q1 V)
  ·clear h;rintro e st ⟨c,i,Xk30,Rk30,rfl,rfl,t,h⟩
   rw [C6] at h
   have hU:=t.unders
   simp only [List.mem_cons,List.not_mem_nil,or_false,forall_eq_or_imp,forall_eq] at hU
   refine td U u v j t ?_
   obtain ⟨ae,Y,h⟩:=bind_some h
   refine rc 2 [1,4,8,22,23,24] hs ?_;intro K44 Z
   refine TQ _ (I7 w0 hT n _ _ _ (B.length+1) (Chk.mk c b) i (ef hs) t.enter q _ Y) (hv hs) ?_;rintro _ _ ⟨rfl,Rg46,ad,rfl,w⟩
   have t:=t.call w
   exact go (tg (a:=([1,4,8,22,23,24,60],([2],()),[1,4,22,23,24],[1,4,22,23,24],()))) h hs U u v j t trivial (q3 Z G (fun e s=>Vl16 ml16 e s (Nat.lt_succ_self _)))
 ·clear h;rintro e st ⟨l,p,o,Xk13,Rk13,rfl,rfl,t,h⟩
  rw [E7] at h
  exact go (tg (a:=([2],()))) h hs U u v j t trivial trivial
def NT (k:Int):Prop := -999999999999999≤k∧k≤999999999999999
theorem Zas (n:Nat) (l:List Int) (f:Int→Option Bool) (hf:∀ x∈l,∃ b,f x=some b) (hl:l.length≤1000000000):∀ (k m i:Nat),i+k=l.length→k<m→∃ c,Bh n l f m i=some c
 | k,0,i,_,h=>absurd h (Nat.not_lt_zero _)
 | 0,m+1,i,hi,_=>by
  rw [Bh,BH,Ac]
  exact ⟨_,rfl⟩
 | k+1,m+1,i,hi,hm=>by
  have a:i<l.length:=by omega
  obtain ⟨b,d⟩:=hf _ (List.getElem_mem a)
  rw [Bh,BH,Ag a,Ah rfl,AW a,Ae,d,Ae]
  by_cases h:b=true
  ·rw [Ah h];exact ⟨_,rfl⟩
  ·rw [Ai h,Ah (AY (by omega))]
   exact Zas n l f hf hl k m (i+1) (by omega) (by omega)
theorem Zec (n:Nat) (l:List Int) (f:Int→Option Bool) (hf:∀ x∈l,∃ b,f x=some b) (hl:l.length≤1000) (hn:10000≤n):∃ c,BN n l f=some c:=by
 obtain ⟨c,e⟩:=Zas n l f hf (by omega) l.length n 0 (by omega) (by omega)
 have e:Bh n l f n 0=some c:=e
 rw [BN,DO,e]
 exact ⟨_,rfl⟩
theorem Zba (n:Nat) (l:List Msg) (f:Msg→Option Bool) (hf:∀ x∈l,∃ b,f x=some b) (hl:l.length≤1000000000):∀ (k m i:Nat),i+k=l.length→k<m→∃ c,A1 n l f m i=some c
 | k,0,i,_,h=>absurd h (Nat.not_lt_zero _)
 | 0,m+1,i,hi,_=>by
  rw [A1,BH,Ac]
  exact ⟨_,rfl⟩
 | k+1,m+1,i,hi,hm=>by
  have a:i<l.length:=by omega
  obtain ⟨b,d⟩:=hf _ (List.getElem_mem a)
  rw [A1,BH,Ag a,Ah rfl,AW a,Ae,d,Ae]
  by_cases h:b=true
  ·rw [Ah h];exact ⟨_,rfl⟩
  ·rw [Ai h,Ah (AY (by omega))]
   exact Zba n l f hf hl k m (i+1) (by omega) (by omega)
theorem Zeo (n:Nat) (l:List Msg) (f:Msg→Option Bool) (hf:∀ x∈l,∃ b,f x=some b) (hl:l.length≤1000) (hn:10000≤n):∃ c,Bz n l f=some c:=by
 obtain ⟨c,e⟩:=Zba n l f hf (by omega) l.length n 0 (by omega) (by omega)
 have e:A1 n l f n 0=some c:=e
 rw [Bz,CE,e]
 exact ⟨_,rfl⟩
theorem Zam (n:Nat) (a b:List Int) (f:Int→Int→Option Int) (hl:a.length≤1000000000)
  (hr:∀ p q,∃ c,f p q=some c∧(c=0↔p=q)):∀ (k m i:Nat),i+k=a.length→k<m→∃ c,A5 n a b f m i=some c∧(c=0↔a.drop i=b.drop i)
 | k,0,i,_,h=>absurd h (Nat.not_lt_zero _)
 | 0,m+1,i,hi,_=>by
  rw [A5,BH,Ac]
  simp only [Bool.false_eq_true,if_false]
  rw [CY,BH,List.drop_eq_nil_of_le (show a.length≤i by omega)]
  by_cases h:a.length<b.length
  ·rw [Ag h]
   simp only [if_true]
   exact ⟨-1,rfl,⟨fun h=>absurd h (by decide),fun e=>by have:=List.drop_eq_nil_iff.1 e.symm;omega⟩⟩
  ·rw [Af h]
   simp only [Bool.false_eq_true,if_false]
   exact ⟨0,rfl,⟨fun _=>(List.drop_eq_nil_of_le (by omega)).symm,fun _=>rfl⟩⟩
 | k+1,m+1,i,hi,hm=>by
  have g:i<a.length:=by omega
  rw [A5,BH,Ag g]
  simp only [if_true,AW g,Ae,VI]
  by_cases d:i<b.length
  ·rw [Af (show ¬ b.length≤i by omega)]
   simp only [Bool.false_eq_true,if_false,AW d,Ae]
   obtain ⟨c,e,j⟩:=hr a[i] b[i]
   rw [e,JG _ _ i g d]
   simp only [Ae]
   by_cases h0:c=0
   ·rw [Ag h0]
    simp only [Bool.not_true,Bool.false_eq_true,if_false]
    rw [Ah (AY (by omega))]
    obtain ⟨l,o,d⟩:=Zam n a b f hl hr k m (i+1) (by omega) (by omega)
    exact ⟨l,o,d.trans ⟨fun h=>⟨j.1 h0,h⟩,fun h=>h.2⟩⟩
   ·rw [Af h0]
    simp only [Bool.not_false,if_true]
    exact ⟨c,rfl,⟨fun h=>absurd h h0,fun h=>absurd (j.2 h.1) h0⟩⟩
  ·rw [Ag (show b.length≤i by omega)]
   simp only [if_true]
   refine ⟨1,rfl,⟨fun h=>absurd h (by decide),fun e=>?_⟩⟩
   rw [List.drop_eq_nil_of_le (show b.length≤i by omega)] at e
   have:=List.drop_eq_nil_iff.1 e
   omega
theorem Zdb (n:Nat) (hn:10000≤n) (a b:Int × List Int) (ha:a.2.length≤1000):E0 n a b=some (decide (a=b)):=by
 obtain ⟨c,e,h⟩:=Zam n a.2 b.2 (fun (x0:Int) (x1:Int)=>some (BD x0 x1)) (by omega) (fun p q=>⟨_,rfl,by rw [BD];exact MW p q⟩) a.2.length n 0 (by omega) (by omega)
 have e:A5 n a.2 b.2 (fun (x0:Int) (x1:Int)=>some (BD x0 x1)) n 0=some c:=e
 rw [List.drop_zero,List.drop_zero] at h
 obtain ⟨d,f,g⟩:=Zbw n [if a.1<b.1 then -1 else if a.1=b.1 then 0 else 1,c] (by simp only [List.length_cons,List.length_nil];omega) (by simp only [List.length_cons,List.length_nil];omega)
 rw [E0,E8,Da,e,Ae,f,Ae,Ae]
 congr 1
 rw [decide_eq_decide,g]
 simp only [List.mem_cons,List.not_mem_nil,or_false,forall_eq_or_imp,forall_eq,MW,h]
 exact ⟨fun q=>Prod.ext q.1 q.2,fun q=>by rw [q];exact ⟨rfl,rfl⟩⟩
theorem YZ (n:Nat) (hn:10000≤n) (a:Int × List Int) (ha:a.2.length≤1000):∃ c,E2 n a=some c:=by
 obtain ⟨b,e⟩:=Zec n a.2 (fun (x0:Int)=>some (C5 x0)) (fun x _=>⟨_,rfl⟩) ha hn
 rw [E2]
 split
 ·exact ⟨_,rfl⟩
 split
 ·exact ⟨_,rfl⟩
 split
 ·exact ⟨_,rfl⟩
 rename_i h0 h1
 rw [e,Ae]
 have f:0<a.2.length:=by
  by_cases q:a.2.length=0
  ·exact absurd (Ag (by omega)) h0
  ·omega
 split
 ·exact ⟨_,rfl⟩
 rw [show (0:Int)=((0:Nat):Int) from rfl,AW f,Ae]
 split
 ·exact ⟨_,rfl⟩
 split
 ·exact ⟨_,rfl⟩
 split
 ·exact ⟨_,rfl⟩
 rename_i h3
 have d:1<a.2.length:=by
  by_cases q:a.2.length=1
  ·exact absurd (Ag (by omega)) h3
  ·omega
 rw [show (1:Int)=((1:Nat):Int) from rfl,AW d,Ae]
 split
 ·exact ⟨_,rfl⟩
 ·exact ⟨_,rfl⟩
theorem ZcL (n:Nat) (hn:1000000≤n) (v:Vl) (hv:v.size≤22621∧v.ok):∃ c,Eo n v=some c:=by
 rw [Eo]
 split
 ·exact ⟨_,rfl⟩
 split
 ·exact ⟨_,rfl⟩
 rw [MV n v (by omega) (by omega) hv.2]
 exact ⟨_,rfl⟩
theorem Wc (n:Nat) (hn:1000000≤n) (a:Msg) (ha:D9 a):∀ (k m i:Nat),i+k=a.origins.length→k<m→∃ c,BC n a m i=some c
 | k,0,i,_,h=>absurd h (Nat.not_lt_zero _)
 | 0,m+1,i,hi,_=>by
  obtain ⟨c,e⟩:=ZcL n hn a.body ⟨ha.2.2.1,ha.2.2.2⟩
  rw [BC,BH,Ac,Ai (by decide),Eh,e]
  exact ⟨_,rfl⟩
 | k+1,m+1,i,hi,hm=>by
  have b:i<a.origins.length:=by omega
  have d:=ha.2.1
  have ih:=Wc n hn a ha k m (i+1) (by omega) (by omega)
  rw [BC,BH,Ag b,Ah rfl,AW b,Ae]
  split
  ·exact ⟨_,rfl⟩
  cases i with
  | zero=>rw [show decide ((0:Int)<((0:Nat):Int))=false from rfl,Ai (by decide),Ah (AY (by omega))];exact ih
  | succ j =>
   rw [LA,Ah rfl,Ju,Ah (Ls (by omega)),AW (by omega),Ae]
   split
   ·exact ⟨_,rfl⟩
   rw [Ah (AY (by omega))];exact ih
theorem Zgd (n:Nat) (hn:1000000≤n) (a:Msg) (ha:D9 a):∃ c,DZ n a=some c:=by
 obtain ⟨c,e⟩:=YZ n (by omega) a.stamp (by have:=ha.1;omega)
 rw [DZ,e,Ae]
 split
 ·exact ⟨_,rfl⟩
 split
 ·exact ⟨_,rfl⟩
 split
 ·exact ⟨_,rfl⟩
 split
 ·exact ⟨_,rfl⟩
 have b:=ha.2.1
 exact Wc n hn a ha a.origins.length n 0 (by omega) (by omega)
def S0 (i0:Nat) (v0:Int) (P:Prop) (o:Option (Int × Chk)):Prop:=∃ c k,o=some (c,k)∧k.items.length≤i0+4∧v0≤k.values∧k.values≤v0+4∧(c=0→P)
theorem Ux (n:Nat) (hn:1000000≤n) (x:Slt) (hx:IH x) (i0:Nat) (v0:Int) (P:Prop) (hP:P) (b:List Msg) (hb:b.length≤i0+4) (hv0:0≤v0∧v0≤1000):∀ (k m i:Nat) (v:Int),i+k=x.values.length→k<m→v=v0+i→S0 i0 v0 P (AU n x m (i:Int) b v)
 | k,0,i,_,_,h,_=>absurd h (Nat.not_lt_zero _)
 | 0,m+1,i,v,hi,_,hv=>by
  have d:=hx.2.2.1
  rw [AU,BH,Ac,Ai (by decide),BM]
  exact ⟨_,_,rfl,hb,by simp only;omega,by simp only;omega,fun _=>hP⟩
 | k+1,m+1,i,v,hi,hm,hv=>by
  have d:=hx.2.2.1
  have a:i<x.values.length:=by omega
  obtain ⟨j,g⟩:=hx.2.2.2 _ (List.getElem_mem a)
  have c:∀ e:Int,(e=0→P)→S0 i0 v0 P (some (e,Chk.mk b v)):=fun e f=>⟨_,_,rfl,hb,by simp only;omega,by simp only;omega,f⟩
  rw [AU,BH,Ag a,Ah rfl,AW a,Ae]
  split
  ·exact c 9 (fun h=>absurd h (by decide))
  rw [MV n _ (by omega) (by omega) g,Ae]
  split
  ·exact c _ (fun _=>hP)
  rw [Ah (by unfold Bj;omega),Ah (AY (by omega))]
  exact Ux n hn x hx i0 v0 P hP b hb hv0 k m (i+1) _ (by omega) (by omega) (by omega)
theorem Ud (n:Nat) (hn:1000000≤n) (a:Chk) (x:Slt) (hx:IH x) (P:Prop) (hP:P) (ha:a.items.length≤500) (hv0:0≤a.values∧a.values≤1000) (hms:∀ m∈a.items,D9 m):∀ (k m i:Nat) (b:List Msg),i+k=x.items.length→k<m→b.length≤a.items.length+i→(∀ m∈b,D9 m)→S0 a.items.length a.values P (AX n a x m (i:Int) b)
 | k,0,i,_,_,h,_,_=>absurd h (Nat.not_lt_zero _)
 | 0,m+1,i,b,hi,_,hb,hbm=>by
  have l:=hx.2.1.1
  have q:=hx.2.2.1
  rw [AX,BH,Ac,Ai (by decide),BO]
  exact Ux n hn x hx _ _ P hP b (by omega) hv0 x.values.length n 0 _ (by omega) (by omega) (by omega)
 | k+1,m+1,i,b,hi,hm,hb,hbm=>by
  have l:=hx.2.1.1
  have f:i<x.items.length:=by omega
  have j:=hx.2.1.2 _ (List.getElem_mem f)
  have g:∀ e:Int,S0 a.items.length a.values P (some (e,Chk.mk b a.values)):=fun e=>⟨_,_,rfl,by simp only;omega,by simp only;omega,by simp only;omega,fun _=>hP⟩
  rw [AX,BH,Ag f,Ah rfl,AW f,Ae]
  split
  ·exact g _
  obtain ⟨c,e⟩:=Zgd n hn _ j
  rw [e,Ae]
  split
  ·exact g _
  obtain ⟨d,o⟩:=Zeo n b (fun (x0:Msg)=>Br n x0 x.items[i]) (fun y p=>by
   rw [Br,Zdb n (by omega) y.stamp _ (by have:=(hbm y p).1;omega)];exact ⟨_,rfl⟩) (by omega) (by omega)
  rw [o,Ae]
  split
  ·exact g _
  rw [Ab,Ah (AY (by omega))]
  exact Ud n hn a x hx P hP ha hv0 hms k m (i+1) _ (by omega) (by omega) (by rw [Dh];omega) (Dq hbm j)
theorem Lq {a b:Int} (h:Be a b=0):NT a∧0≤b∧b≤17592186044416:=by
 rw [Be] at h
 split at h
 ·cases h
 ·rename_i q
  simp only [Bool.or_eq_true,decide_eq_true_eq,not_or,Int.not_lt] at q
  unfold NT
  omega
def Vi (x:Slt):Prop:=NT x.number∧(0≤x.time∧x.time≤17592186044416)∧(x.key.kind=2→NT x.key.int)
theorem ZcQ (n:Nat) (hn:1000000≤n) (a:Chk) (x:Slt) (hx:IH x) (ha:a.items.length≤500) (hv0:0≤a.values∧a.values≤1000) (hms:∀ m∈a.items,D9 m) (hk:x.key.kind=2→NT x.key.int) :
  S0 a.items.length a.values (Vi x) (Bm n a x):=by
 rw [Bm]
 by_cases h:Be x.number x.time=0
 ·rw [Ag h,Ai (by decide)]
  obtain ⟨b,c⟩:=Lq h
  have d:=hx.2.1.1
  exact Ud n hn a x hx _ ⟨b,c,hk⟩ ha hv0 hms x.items.length n 0 _ (by omega) (by omega) (by omega) hms
 ·rw [Af h,Ah (by decide)]
  exact ⟨_,_,rfl,by omega,by omega,by omega,fun q=>absurd q h⟩
theorem ZdJ {v:Vl} (h:X0 v=0) (k:v.kind=2):NT v.int:=by
 have g:=Ua _ _ h (1,v) (by rw [NM];exact List.mem_cons_self ..)
 simp only at g
 obtain ⟨g1,g2⟩:=XM g
 rw [Ek] at g
 have a:¬ BJ v=true:=by
  intro q
  rw [BJ] at q
  simp only [Bool.and_eq_true,decide_eq_true_eq] at q
  omega
 rw [Ai a,Ai g1,Ai g2,Aa,Ah k] at g
 split at g
 ·cases g
 ·rename_i q
  rw [not_or] at q
  have q:=q.1
  rw [Bq] at q
  simp only [Bool.or_eq_true,decide_eq_true_eq,not_or,Int.not_lt] at q
  exact q
theorem Uc {n:Nat} {a:Chk} {x:Slt} {c:Int} {k:Chk} (hx:IH x) (hms:∀ m∈a.items,D9 m) (h:Bm n a x=some (c,k)):∀ m∈k.items,D9 m:=by
 have d:∀ (m:Nat) (i:Int) (b:List Msg) (v:Int),(∀ m∈b,D9 m)→AU n x m i b v=some (c,k)→∀ m∈k.items,D9 m:=by
  intro m
  induction m with
  | zero=>intro i b v hb h;cases h
  | succ m ih =>
   intro i b v hb h
   rw [AU] at h
   split at h
   ·obtain ⟨y,_,h⟩:=bind_some h
    split at h
    ·cases h;exact hb
    obtain ⟨z,_,h⟩:=bind_some h
    split at h
    ·cases h;exact hb
    obtain ⟨_,h⟩:=An h
    obtain ⟨_,h⟩:=An h
    exact ih _ _ _ hb h
   ·rw [BM] at h;cases h;exact hb
 have e:∀ (m:Nat) (i:Int) (b:List Msg),(∀ m∈b,D9 m)→AX n a x m i b=some (c,k)→∀ m∈k.items,D9 m:=by
  intro m
  induction m with
  | zero=>intro i b hb h;cases h
  | succ m ih =>
   intro i b hb h
   rw [AX] at h
   split at h
   ·obtain ⟨y,g,h⟩:=bind_some h
    split at h
    ·cases h;exact hb
    obtain ⟨z,_,h⟩:=bind_some h
    split at h
    ·cases h;exact hb
    obtain ⟨z,_,h⟩:=bind_some h
    split at h
    ·cases h;exact hb
    obtain ⟨_,h⟩:=An h
    obtain ⟨_,h⟩:=An h
    obtain ⟨_,_,f⟩:=EZ g
    exact ih _ _ (Dq hb (hx.2.1.2 _ (List.mem_of_getElem? f))) h
   ·rw [BO] at h
    exact d _ _ _ _ hb h
 rw [Bm] at h
 split at h
 ·cases h;exact hms
 ·exact e _ _ _ hms h
theorem ZdH (n:Nat) (hn:1000000≤n) (ag:Int→List Msg→Int→Option Int) (x:Slt) (hx:IH x) (i:Nat) (hi:i≤5) (P:Prop) (b:List Msg) (v:Int) (hb:b.length≤4*i) (hbm:∀ m∈b,D9 m) (hv:0≤v∧v≤4*i) (hk:x.key.kind=2→NT x.key.int)
  (hag:Vi x→∀ b v,b.length≤4*(i+1)→(∀ m∈b,D9 m)→0≤v∧v≤4*((i:Int)+1)→∃ c,ag ((i:Int)+1) b v=some c∧(c=0→P)):∃ c,C6 n ag (i:Int) v x b=some c∧(c=0→P):=by
 obtain ⟨c,k,e,f,d,g,a⟩:=ZcQ n hn (Chk.mk b v) x hx (by simp only;omega) (by simp only;omega) hbm hk
 rw [C6,e,Ae]
 simp only at f d g a ⊢
 by_cases q:c=0
 ·rw [Ag q,Ai (by decide),Ah (AY (by omega))]
  exact hag (a q) _ _ (by omega) (Uc hx hbm e) (by omega)
 ·rw [Af q,Ah (by decide)]
  exact ⟨_,rfl,fun z=>absurd z q⟩
theorem Ww (n:Nat) (hn:1000000≤n) (a:Stt) (ha:Iw a):∀ (k m i:Nat) (b:List Msg) (v:Int),i+k=a.slots.length→k<m→b.length≤4*i→(∀ m∈b,D9 m)→0≤v∧v≤4*(i:Int)→∃ c,Bo n a m (i:Int) b v=some c∧(c=0→∀ x∈a.slots.drop i,Vi x)
 | k,0,i,_,_,_,h,_,_,_=>absurd h (Nat.not_lt_zero _)
 | 0,m+1,i,b,v,hi,_,_,_,_=>by
  rw [Bo,BH,Ac,Ai (by decide),E7]
  exact ⟨_,rfl,fun _=>by rw [List.drop_eq_nil_of_le (by omega)];simp⟩
 | k+1,m+1,i,b,v,hi,hm,g,f,hv=>by
  have o:=ha.1
  have d:i<a.slots.length:=by omega
  have hx:=ha.2 _ (List.getElem_mem d)
  rw [Bo,BH,Ag d,Ah rfl,AW d,Ae,MV n _ (by have:=hx.1.1;omega) (by have:=hx.1.1;omega) hx.1.2,Ae]
  by_cases q:(!(decide (X0 a.slots[i].key=0)) && !(BJ a.slots[i].key))=true
  ·rw [Ah q]
   refine ⟨_,rfl,fun z=>?_⟩
   rw [Ag z] at q
   simp at q
  rw [Ai q]
  have l:a.slots[i].key.kind=2→NT a.slots[i].key.int:=by
   intro l
   refine ZdJ ?_ l
   simp only [Bool.and_eq_true,Bool.not_eq_true',decide_eq_false_iff_not,not_and,Bool.not_eq_false] at q
   by_cases z:X0 a.slots[i].key=0
   ·exact z
   ·have q:=q z
    rw [BJ] at q
    simp only [Bool.and_eq_true,decide_eq_true_eq] at q
    omega
  have fin:=ZdH n hn (Bo n a m) a.slots[i] hx i (by omega) (∀ x∈a.slots.drop i,Vi x) b v g f hv l (fun hs b v g f hv=>by
   obtain ⟨c,e,h⟩:=Ww n hn a ha k m (i+1) b v (by omega) (by omega) g f (by omega)
   refine ⟨c,e,fun z x hx=>?_⟩
   rw [List.drop_eq_getElem_cons d] at hx
   rcases List.mem_cons.1 hx with rfl | hx
   ·exact hs
   ·exact h z x hx)
  cases i with
  | zero=>rw [show decide ((0:Int)<((0:Nat):Int))=false from rfl,Ai (by decide)];exact fin
  | succ j =>
   rw [LA,Ah rfl,Ju,Ah (Ls (by omega)),AW (by omega),Ae]
   obtain ⟨c,e,_⟩:=Jc n a.slots[j+1].key a.slots[j].key (by have:=hx.1.1;omega) (by have:=hx.1.1;omega)
   rw [e,Ae]
   split
   ·exact ⟨_,rfl,fun z=>absurd z (by decide)⟩
   split
   ·exact ⟨_,rfl,fun z=>absurd z (by decide)⟩
   exact fin
theorem ZaU (n:Nat) (hn:1000000≤n) (a:Stt) (ha:Iw a):∃ c,D6 n a=some c∧(c=0→NT a.number∧∀ x∈a.slots,Vi x):=by
 have g:=ha.1
 rw [D6]
 by_cases h:Be a.number a.time=0
 ·rw [Ag h,Ai (by decide)]
  obtain ⟨d,i⟩:=Lq h
  rw [Ac,Ai (by decide)]
  obtain ⟨c,e,f⟩:=Ww n hn a ha a.slots.length n 0 [] 0 (by omega) (by omega) (by simp) (by simp) (by omega)
  exact ⟨c,e,fun z=>⟨d,fun x b=>f z x (by simpa using b)⟩⟩
 ·rw [Af h,Ah (by decide)]
  exact ⟨_,rfl,fun z=>absurd z h⟩
def EU (h:Int) (b:Slt):Option Bool :=
 if Bj (2*h) then
  if Bj ((2*h)-2) then
   if Bj (h-1) then
    if (((!(decide ((b.items.length:Int)=1)))||(decide (b.number<0)))||(decide (((2*h)-2)<b.number)))||((!(decide (b.time=0)))&&(decide ((h-1)≤b.number))) then
     some (true)
    else
     if decide (b.number<h) then
      if Bj (2*b.number) then
       if Bj ((2*b.number)+1) then
        some (!(decide ((b.values.length:Int)=((2*b.number)+1))))
       else none
      else none
     else
      if Bj (b.number-h) then
       if Bj (2*(b.number-h)) then
        if Bj ((2*(b.number-h))+1) then
         if Bj (2*h) then
          if Bj ((2*h)-1) then
           some (((decide ((b.values.length:Int)<((2*(b.number-h))+1)))||(decide (((2*h)-1)<(b.values.length:Int))))||(decide (((b.values.length:Int).tmod 2)=0)))
          else none
         else none
        else none
       else none
      else none
   else none
  else none
 else none
theorem J9 (w0:World) (B:Aq) (Rw:Au) (L:Av) (a0:Int) (a1:Slt) (r:Bool) (h:EU a0 a1=some r) :
  ACalls Tryz.prog w0 26 [Ak a0,.agg ((a1.key.cs)++(Ak a1.number::(Ak a1.time::(.list (a1.items.map BZ) .none::([.list (a1.values.map Dp) .none])))))] ⟨B,Rw,L⟩ fun x st=>x = .val (.bool r)∧st=⟨B,Rw,L⟩:=by
 rw [EU] at h
 refine hd [.tmp 4] Tryz.func26 Tryz.ntmps26 fun M0 W0 t o p a s d hs=>?_
 simp only [AM]
 refine rg [0,3] hs ?_
 refine rg [0,3,5] hs ?_
 apply Am;intro K3 c
 obtain ⟨n,h⟩:=An h
 obtain ⟨q,h⟩:=An h
 obtain ⟨m,h⟩:=An h
 refine rg [0,3,5,34] hs ?_
 refine GB h hs ?_ ?_<;>intro hs h
 ·refine rg [4] hs ?_
  exact rt h hs a d
 refine sk [0,3,5] hs c ?_
 clear c
 refine rg [0,5,6] hs ?_
 apply Am;intro K11 b
 refine rg [0,5,6,40] hs ?_
 refine GB h hs ?_ ?_<;>intro hs h
 ·obtain ⟨j,h⟩:=An h
  obtain ⟨i,h⟩:=An h
  refine rg [4] hs ?_
  exact rt h hs a d
 refine sk [0,5,6] hs b ?_
 clear b
 obtain ⟨e,h⟩:=An h
 obtain ⟨g,h⟩:=An h
 obtain ⟨f,h⟩:=An h
 obtain ⟨k,h⟩:=An h
 obtain ⟨l,h⟩:=An h
 refine rg [4] hs ?_
 exact rt h hs a d
def BV (n:Nat) (h:Int→Option Int) (b:Int) (q:Bool):Option Int :=
 if q then
  some (10)
 else
  if Bj (b+1) then
   h (b+1)
  else none
def G8 (n:Nat)  : Option Int :=
 some (0)
def AZ (n:Nat) (q:Nod) (y:Stt):Nat→Int→Option Int
 | 0,_=>none
 | m+1,b =>
  if decide (b<(y.slots.length:Int)) then
   (GM y.slots b).bind fun h =>
   if Bj (b-1) then
    if (!(decide (h.key.kind=2)))||(decide (h.key.int<1)) then
     BV n (AZ n q y m) b true
    else
     if decide (0<b) then
      (GM y.slots (b-1)).bind fun x38 =>
      if Bj (x38.key.int+(q.calls.length:Int)) then
       if Bj (y.number-(q.calls.length:Int)) then
        if Bj ((y.number-(q.calls.length:Int))+1) then
         if (decide (h.key.int<(x38.key.int+(q.calls.length:Int))))||(decide (((y.number-(q.calls.length:Int))+1)<h.key.int)) then
          BV n (AZ n q y m) b true
         else
          (EU (q.calls.length:Int) h).bind fun y43 =>
          BV n (AZ n q y m) b y43
        else none
       else none
      else none
     else
      if Bj (y.number-(q.calls.length:Int)) then
       if Bj ((y.number-(q.calls.length:Int))+1) then
        if decide (((y.number-(q.calls.length:Int))+1)<h.key.int) then
         BV n (AZ n q y m) b true
        else
         (EU (q.calls.length:Int) h).bind fun y47 =>
         BV n (AZ n q y m) b y47
       else none
      else none
   else none
  else
   G8 n 
def FT (n:Nat) (b:Nod) (q:Stt):Option Int :=
 if !(decide (b.kind=10)) then
  some (11)
 else
  if Bj (2*(b.calls.length:Int)) then
   if ((decide ((b.calls.length:Int)<1))||(decide (16<(b.calls.length:Int))))||(!(decide ((b.types.length:Int)=(2*(b.calls.length:Int))))) then
    some (10)
   else
    (D6 n q).bind fun h =>
    if !(decide (h=0)) then
     some (h)
    else
     if (decide (q.number<0))||(!(decide (q.time=0))) then
      some (10)
     else
      AZ n b q n 0
  else none
theorem PM (w0:World) (hT:Lib.Utf8Tabs 1 2 w0) (n:Nat) (B:Aq) (Rw:Au) (L:Av) (a0:Nod) (a1:Stt) (r:Int) (h:FT n a0 a1=some r) :
  ACalls Tryz.prog w0 10 [.agg (.val (.string a0.name)::(Ak a0.kind::(Ak a0.schema::(Ak a0.result::(Ak a0.number::(Ak a0.time::(Ak a0.limit::(.val (.string a0.text)::((a0.type.cs)++(.list (a0.types.map Gx) .none::(.list (a0.exprs.map Ir) .none::(.list (a0.mapping.map BX) .none::(.list (a0.calls.map Ej) .none::([.list (a0.next.map C4) .none])))))))))))))),.agg (Ak a1.number::(Ak a1.time::([.list (a1.slots.map B2) .none])))] ⟨B,Rw,L⟩ fun x st=>x=Ak r∧st=⟨B,Rw,L⟩:=by
 rw [FT] at h
 refine hd [.tmp 4] Tryz.func10 Tryz.ntmps10 fun M0 W0 O v w b hu g hs=>?_
 simp only [AM]
 refine rg [2,3] hs ?_
 refine rg [2,3,5] hs ?_
 apply Am;intro K3 z
 apply As
 refine rg [2,3,5,12] hs ?_
 refine GB h hs ?_ ?_<;>intro hs h
 ·refine rg [4] hs ?_
  exact rt h hs b g
 obtain ⟨ag,h⟩:=An h
 refine rg [3,5,16] hs ?_
 refine GB h hs ?_ ?_<;>intro hs h
 ·refine rg [4] hs ?_
  exact rt h hs b g
 refine sk [3,5] hs z ?_
 clear z
 apply Am;intro K11 p
 obtain ⟨af,E,h⟩:=bind_some h
 refine rc 2 [3,5,6] hs ?_;intro K12 o
 refine Az _ (Jm w0 hT n _ _ _ a1 _ E) (hv hs) ?_
 refine ne hs o ?_
 clear o
 refine rg [3,5,6,34] hs ?_
 refine GB h hs ?_ ?_<;>intro hs h
 ·refine rg [4] hs ?_
  exact rt h hs b g
 refine sk [3,5] hs p ?_
 clear p
 apply Am;intro K17 q
 refine rg [3,5,43] hs ?_
 refine GB h hs ?_ ?_<;>intro hs h
 ·refine rg [4] hs ?_
  exact rt h hs b g
 refine sk [3,5] hs q ?_
 clear q
 refine A2 (fun e st=>Ck e st B Rw L [] [.val (.string a0.name)::(Ak a0.kind::(Ak a0.schema::(Ak a0.result::(Ak a0.number::(Ak a0.time::(Ak a0.limit::(.val (.string a0.text)::((a0.type.cs)++(.list (a0.types.map Gx) .none::(.list (a0.exprs.map Ir) .none::(.list (a0.mapping.map BX) .none::(.list (a0.calls.map Ej) .none::([.list (a0.next.map C4) .none]))))))))))))),Ak a1.number::(Ak a1.time::([.list (a1.slots.map B2) .none]))] [] (G8 n  = some r)) ?_ ?_
 ·intro K23 D
  refine rg [3,5,45,46,47] hs ?_
  apply As
  refine AP (fun m e st=>∃ (a:Int),Ck e st B Rw L [(3,true,.box (B.length+1) 0),(5,true,Ak (a0.calls.length:Int)),(45,true,.list (a1.slots.map B2) .none),(46,true,Ak (a1.slots.length:Int)),(47,true,Ak a)] [.val (.string a0.name)::(Ak a0.kind::(Ak a0.schema::(Ak a0.result::(Ak a0.number::(Ak a0.time::(Ak a0.limit::(.val (.string a0.text)::((a0.type.cs)++(.list (a0.types.map Gx) .none::(.list (a0.exprs.map Ir) .none::(.list (a0.mapping.map BX) .none::(.list (a0.calls.map Ej) .none::([.list (a0.next.map C4) .none]))))))))))))),Ak a1.number::(Ak a1.time::([.list (a1.slots.map B2) .none]))] [] (AZ n a0 a1 m a=some r)) n ⟨0,([]),Rw,ef hs,ef hs,g,h⟩ ?_
  rintro ml25 e st ⟨a,Xl25,Rl25,rfl,rfl,g,h⟩ Ul25 Vl25
  cases ml25 with
  | zero=>cases h
  | succ ml25 =>
  rw [AZ] at h
  refine td O v w b g ?_
  refine rg [3,5,45,46,47,48] hs ?_
  apply Am;intro K27 l
  refine GB h hs ?_ ?_<;>intro hs h
  rotate_left
  ·refine sx [] hs D ?_
   exact ⟨([]),Rl25,ef hs,ef hs,g,h⟩
  refine sk [3,5,45,46,47] hs l ?_
  clear l
  apply Am;intro K29 k
  apply As
  obtain ⟨c,y,h⟩:=bind_some h
  obtain ⟨G,Q,t⟩:=EZ y
  have u:=EX (f:=B2) t
  have hs:=Ad u hs
  refine rg [3,5,7,8,45,46,47] hs ?_
  refine A2 (fun e st=>∃ (d:Bool),Ck e st B Rw L [(3,true,.box (B.length+1) 0),(5,true,Ak (a0.calls.length:Int)),(45,true,.list (a1.slots.map B2) .none),(46,true,Ak (a1.slots.length:Int)),(47,true,Ak a),(97,true,.val (.bool d))] [.val (.string a0.name)::(Ak a0.kind::(Ak a0.schema::(Ak a0.result::(Ak a0.number::(Ak a0.time::(Ak a0.limit::(.val (.string a0.text)::((a0.type.cs)++(.list (a0.types.map Gx) .none::(.list (a0.exprs.map Ir) .none::(.list (a0.mapping.map BX) .none::(.list (a0.calls.map Ej) .none::([.list (a0.next.map C4) .none]))))))))))))),Ak a1.number::(Ak a1.time::([.list (a1.slots.map B2) .none])),(c.key.cs)++(Ak c.number::(Ak c.time::(.list (c.items.map BZ) .none::([.list (c.values.map Dp) .none]))))] [] (BV n (AZ n a0 a1 ml25) a d=some r)) ?_ ?_
  ·intro K34 i
   obtain ⟨Y,h⟩:=An h
   rcases Bool.eq_false_or_eq_true ((!(decide (c.key.kind=2)))||(decide (c.key.int<1))) with hf36 | hf36
   ·replace h:=D7 h hf36
    have hs:=Ad hf36 hs
    refine dk 46 2 1 [3,5,45,46,47,97] (al hs) Pz ?_
    refine II ?_
    refine dn (al hs) i ?_
    exact ⟨true,([]),Rl25,ef hs,ef hs,g,h⟩
   ·replace h:=D8 h hf36
    rcases Bool.eq_false_or_eq_true (decide (0<a)) with hf37 | hf37
    ·replace h:=D7 h hf37
     obtain ⟨U,N,K,j,h⟩:=ix B2 h
     obtain ⟨ad,h⟩:=An h
     obtain ⟨V,h⟩:=An h
     obtain ⟨ab,h⟩:=An h
     rcases Bool.eq_false_or_eq_true ((decide (c.key.int<(U.key.int+(a0.calls.length:Int))))||(decide (((a1.number-(a0.calls.length:Int))+1)<c.key.int))) with hf42 | hf42
     ·replace h:=D7 h hf42
      have hs:=Ad hf36 hs
      have hs:=Ad hf37 hs
      have hs:=Ad j hs
      have hs:=Ad hf42 hs
      refine dk 46 2 1 [3,5,45,46,47,97] (al hs) Pz ?_
      refine II ?_
      refine dn (al hs) i ?_
      exact ⟨true,([]),Rl25,ef hs,ef hs,g,h⟩
     ·replace h:=D8 h hf42
      obtain ⟨J,C,h⟩:=bind_some h
      have hs:=Ad hf36 hs
      have hs:=Ad hf37 hs
      have hs:=Ad j hs
      have hs:=Ad hf42 hs
      refine dk 46 2 1 [3,5,45,46,47,97] (al hs) Pz ?_
      refine Az _ (J9 w0 _ _ _ (a0.calls.length:Int) c _ C) (hv (al hs)) ?_
      refine dn (al hs) i ?_
      exact ⟨J,([]),Rl25,ef hs,ef hs,g,h⟩
    ·replace h:=D8 h hf37
     obtain ⟨aa,h⟩:=An h
     obtain ⟨Z,h⟩:=An h
     rcases Bool.eq_false_or_eq_true (decide (((a1.number-(a0.calls.length:Int))+1)<c.key.int)) with hf46 | hf46
     ·replace h:=D7 h hf46
      have hs:=Ad hf36 hs
      have hs:=Ad hf37 hs
      have hs:=Ad hf46 hs
      refine dk 46 2 1 [3,5,45,46,47,97] (al hs) Pz ?_
      refine II ?_
      refine dn (al hs) i ?_
      exact ⟨true,([]),Rl25,ef hs,ef hs,g,h⟩
     ·replace h:=D8 h hf46
      obtain ⟨H,F,h⟩:=bind_some h
      have hs:=Ad hf36 hs
      have hs:=Ad hf37 hs
      have hs:=Ad hf46 hs
      refine dk 46 2 1 [3,5,45,46,47,97] (al hs) Pz ?_
      refine Az _ (J9 w0 _ _ _ (a0.calls.length:Int) c _ F) (hv (al hs)) ?_
      refine dn (al hs) i ?_
      exact ⟨H,([]),Rl25,ef hs,ef hs,g,h⟩
  ·clear h;rintro e st ⟨d,Xk33,Rk33,rfl,rfl,g,h⟩
   rw [BV] at h
   refine td O v w b g ?_
   refine GB h hs ?_ ?_<;>intro hs h
   ·refine rg [4] hs ?_
    exact rt h hs b g
   refine sk [3,5,45,46,47] hs k ?_
   clear k
   obtain ⟨ae,h⟩:=An h
   refine rl [3,5,45,46,47] hs (fun e s=>Vl25 ml25 e s (Nat.lt_succ_self _)) ?_
   exact ⟨(a+1),([(c.key.cs)++(Ak c.number::(Ak c.time::(.list (c.items.map BZ) .none::([.list (c.values.map Dp) .none]))))]),Rk33,ef hs,ef hs,g,h⟩
 ·clear h;rintro e st ⟨Xk22,Rk22,rfl,rfl,g,h⟩
  rw [G8] at h
  refine td O v w b g ?_
  refine rg [4] hs ?_
  exact rt h hs b g
def Dn (n:Nat) (h:Int→Option Int) (a0:Nod) (q:Int) (b:Slt) (y:Bool):Option Int :=
 if y then
  some (10)
 else
  if Bj (2*b.number) then
   if Bj ((2*b.number)+1) then
    if Bj (b.number-(a0.calls.length:Int)) then
     if Bj (2*(b.number-(a0.calls.length:Int))) then
      if Bj ((2*(b.number-(a0.calls.length:Int)))+1) then
       if Bj (2*(a0.calls.length:Int)) then
        if Bj ((2*(a0.calls.length:Int))-1) then
         if Bj ((a0.calls.length:Int)-1) then
          if (((decide (b.number<(a0.calls.length:Int)))&&(!(decide ((b.values.length:Int)=((2*b.number)+1)))))||((decide ((a0.calls.length:Int)≤b.number))&&(((decide ((b.values.length:Int)<((2*(b.number-(a0.calls.length:Int)))+1)))||(decide (((2*(a0.calls.length:Int))-1)<(b.values.length:Int))))||(decide (((b.values.length:Int).tmod 2)=0)))))||((!(decide (b.time=0)))&&(decide (((a0.calls.length:Int)-1)≤b.number))) then
           some (10)
          else
           if Bj (q+1) then
            h (q+1)
           else none
         else none
        else none
       else none
      else none
     else none
    else none
   else none
  else none
def HJ (n:Nat)  : Option Int :=
 some (0)
def Bg (n:Nat) (q:Nod) (y:Stt):Nat→Int→Option Int
 | 0,_=>none
 | m+1,b =>
  if decide (b<(y.slots.length:Int)) then
   (GM y.slots b).bind fun h =>
   if Bj (b-1) then
    if (!(decide (h.key.kind=2)))||(decide (h.key.int<1)) then
     Dn n (Bg n q y m) q b h true
    else
     if decide (0<b) then
      (GM y.slots (b-1)).bind fun x40 =>
      if Bj (x40.key.int+(q.calls.length:Int)) then
       if Bj (y.number-(q.calls.length:Int)) then
        if Bj ((y.number-(q.calls.length:Int))+1) then
         if Bj (2*(q.calls.length:Int)) then
          if Bj ((2*(q.calls.length:Int))-2) then
           Dn n (Bg n q y m) q b h (((((decide (h.key.int<(x40.key.int+(q.calls.length:Int))))||(decide (((y.number-(q.calls.length:Int))+1)<h.key.int)))||(!(decide ((h.items.length:Int)=1))))||(decide (h.number<0)))||(decide (((2*(q.calls.length:Int))-2)<h.number)))
          else none
         else none
        else none
       else none
      else none
     else
      if Bj (y.number-(q.calls.length:Int)) then
       if Bj ((y.number-(q.calls.length:Int))+1) then
        if Bj (2*(q.calls.length:Int)) then
         if Bj ((2*(q.calls.length:Int))-2) then
          Dn n (Bg n q y m) q b h ((((decide (((y.number-(q.calls.length:Int))+1)<h.key.int))||(!(decide ((h.items.length:Int)=1))))||(decide (h.number<0)))||(decide (((2*(q.calls.length:Int))-2)<h.number)))
         else none
        else none
       else none
      else none
   else none
  else
   HJ n 
def Gv (n:Nat) (b:Nod) (q:Stt):Option Int :=
 if !(decide (b.kind=10)) then
  some (11)
 else
  if Bj (2*(b.calls.length:Int)) then
   if ((decide ((b.calls.length:Int)<1))||(decide (16<(b.calls.length:Int))))||(!(decide ((b.types.length:Int)=(2*(b.calls.length:Int))))) then
    some (10)
   else
    (D6 n q).bind fun h =>
    if !(decide (h=0)) then
     some (h)
    else
     if (decide (q.number<0))||(!(decide (q.time=0))) then
      some (10)
     else
      Bg n b q n 0
  else none
theorem QQ (w0:World) (hT:Lib.Utf8Tabs 1 2 w0) (n:Nat) (B:Aq) (Rw:Au) (L:Av) (a0:Nod) (a1:Stt) (r:Int) (h:Gv n a0 a1=some r) :
  ACalls Tryz.prog w0 11 [.agg (.val (.string a0.name)::(Ak a0.kind::(Ak a0.schema::(Ak a0.result::(Ak a0.number::(Ak a0.time::(Ak a0.limit::(.val (.string a0.text)::((a0.type.cs)++(.list (a0.types.map Gx) .none::(.list (a0.exprs.map Ir) .none::(.list (a0.mapping.map BX) .none::(.list (a0.calls.map Ej) .none::([.list (a0.next.map C4) .none])))))))))))))),.agg (Ak a1.number::(Ak a1.time::([.list (a1.slots.map B2) .none])))] ⟨B,Rw,L⟩ fun x st=>x=Ak r∧st=⟨B,Rw,L⟩:=by
 rw [Gv] at h
 refine hd [.tmp 4] Tryz.func11 Tryz.ntmps11 fun M0 W0 K u w b hu g hs=>?_
 simp only [AM]
 refine rg [2,3] hs ?_
 refine rg [2,3,5] hs ?_
 apply Am;intro K3 C
 refine rg [2,3,5,15] hs ?_
 refine GB h hs ?_ ?_<;>intro hs h
 ·refine rg [4] hs ?_
  exact rt h hs b g
 refine sk [2,3,5] hs C ?_
 clear C
 apply Am;intro K7 D
 obtain ⟨ar,h⟩:=An h
 refine rg [3,5,29] hs ?_
 refine GB h hs ?_ ?_<;>intro hs h
 ·refine rg [4] hs ?_
  exact rt h hs b g
 refine sk [3,5] hs D ?_
 clear D
 apply Am;intro K12 o
 obtain ⟨au,E,h⟩:=bind_some h
 refine rc 2 [3,5,6] hs ?_;intro K13 k
 refine Az _ (Jm w0 hT n _ _ _ a1 _ E) (hv hs) ?_
 refine ne hs k ?_
 clear k
 refine rg [3,5,6,33] hs ?_
 refine GB h hs ?_ ?_<;>intro hs h
 ·refine rg [4] hs ?_
  exact rt h hs b g
 refine sk [3,5] hs o ?_
 clear o
 apply Am;intro K18 q
 refine rg [3,5,42] hs ?_
 refine GB h hs ?_ ?_<;>intro hs h
 ·refine rg [4] hs ?_
  exact rt h hs b g
 refine sk [3,5] hs q ?_
 clear q
 refine A2 (fun e st=>Ck e st B Rw L [] [.val (.string a0.name)::(Ak a0.kind::(Ak a0.schema::(Ak a0.result::(Ak a0.number::(Ak a0.time::(Ak a0.limit::(.val (.string a0.text)::((a0.type.cs)++(.list (a0.types.map Gx) .none::(.list (a0.exprs.map Ir) .none::(.list (a0.mapping.map BX) .none::(.list (a0.calls.map Ej) .none::([.list (a0.next.map C4) .none]))))))))))))),Ak a1.number::(Ak a1.time::([.list (a1.slots.map B2) .none]))] [] (HJ n  = some r)) ?_ ?_
 ·intro K24 z
  refine rg [3,5,7] hs ?_
  apply As
  refine AP (fun m e st=>∃ (c:Int),Ck e st B Rw L [(3,true,.box (B.length+1) 0),(5,true,Ak (a0.calls.length:Int)),(7,true,Ak c)] [.val (.string a0.name)::(Ak a0.kind::(Ak a0.schema::(Ak a0.result::(Ak a0.number::(Ak a0.time::(Ak a0.limit::(.val (.string a0.text)::((a0.type.cs)++(.list (a0.types.map Gx) .none::(.list (a0.exprs.map Ir) .none::(.list (a0.mapping.map BX) .none::(.list (a0.calls.map Ej) .none::([.list (a0.next.map C4) .none]))))))))))))),Ak a1.number::(Ak a1.time::([.list (a1.slots.map B2) .none]))] [] (Bg n a0 a1 m c=some r)) n ⟨0,([]),Rw,ef hs,ef hs,g,h⟩ ?_
  rintro ml26 e st ⟨c,Xl26,Rl26,rfl,rfl,g,h⟩ Ul26 Vl26
  cases ml26 with
  | zero=>cases h
  | succ ml26 =>
  rw [Bg] at h
  refine td K u w b g ?_
  apply Am;intro K27 l
  refine rg [3,5,7,47] hs ?_
  refine GB h hs ?_ ?_<;>intro hs h
  rotate_left
  ·refine sx [] hs z ?_
   exact ⟨([]),Rl26,ef hs,ef hs,g,h⟩
  refine sk [3,5,7] hs l ?_
  clear l
  apply Am;intro K30 j
  apply As
  obtain ⟨a,F,h⟩:=bind_some h
  obtain ⟨G,J,y⟩:=EZ F
  have t:=EX (f:=B2) y
  have hs:=Ad t hs
  refine rg [3,5,7,8] hs ?_
  apply Am;intro K33 p
  refine A2 (fun e st=>∃ (d:Bool),Ck e st B Rw L [(3,true,.box (B.length+1) 0),(5,true,Ak (a0.calls.length:Int)),(7,true,Ak c),(8,true,.box (B.length+2) 0),(114,true,.val (.bool d))] [.val (.string a0.name)::(Ak a0.kind::(Ak a0.schema::(Ak a0.result::(Ak a0.number::(Ak a0.time::(Ak a0.limit::(.val (.string a0.text)::((a0.type.cs)++(.list (a0.types.map Gx) .none::(.list (a0.exprs.map Ir) .none::(.list (a0.mapping.map BX) .none::(.list (a0.calls.map Ej) .none::([.list (a0.next.map C4) .none]))))))))))))),Ak a1.number::(Ak a1.time::([.list (a1.slots.map B2) .none])),(a.key.cs)++(Ak a.number::(Ak a.time::(.list (a.items.map BZ) .none::([.list (a.values.map Dp) .none]))))] [] (Dn n (Bg n a0 a1 ml26) a0 c a d=some r)) ?_ ?_
  ·intro K36 i
   obtain ⟨af,h⟩:=An h
   rcases Bool.eq_false_or_eq_true ((!(decide (a.key.kind=2)))||(decide (a.key.int<1))) with hf38 | hf38
   ·replace h:=D7 h hf38
    have hs:=Ad hf38 hs
    refine dl 60 1 1 [3,5,7,8,114] (al hs) Pz i ?_
    exact ⟨true,([]),Rl26,ef hs,ef hs,g,h⟩
   ·replace h:=D8 h hf38
    rcases Bool.eq_false_or_eq_true (decide (0<c)) with hf39 | hf39
    ·replace h:=D7 h hf39
     obtain ⟨O,N,H,v,h⟩:=ix B2 h
     obtain ⟨aj,h⟩:=An h
     obtain ⟨Z,h⟩:=An h
     obtain ⟨am,h⟩:=An h
     obtain ⟨ag,h⟩:=An h
     obtain ⟨ab,h⟩:=An h
     have hs:=Ad hf38 hs
     have hs:=Ad hf39 hs
     have hs:=Ad v hs
     refine dl 60 1 1 [3,5,7,8,114] (al hs) Pz i ?_
     exact ⟨(((((decide (a.key.int<(O.key.int+(a0.calls.length:Int))))||(decide (((a1.number-(a0.calls.length:Int))+1)<a.key.int)))||(!(decide ((a.items.length:Int)=1))))||(decide (a.number<0)))||(decide (((2*(a0.calls.length:Int))-2)<a.number))),([]),Rl26,ef hs,ef hs,g,h⟩
    ·replace h:=D8 h hf39
     obtain ⟨ad,h⟩:=An h
     obtain ⟨ao,h⟩:=An h
     obtain ⟨ai,h⟩:=An h
     obtain ⟨ap,h⟩:=An h
     have hs:=Ad hf38 hs
     have hs:=Ad hf39 hs
     refine dl 60 1 1 [3,5,7,8,114] (al hs) Pz i ?_
     exact ⟨((((decide (((a1.number-(a0.calls.length:Int))+1)<a.key.int))||(!(decide ((a.items.length:Int)=1))))||(decide (a.number<0)))||(decide (((2*(a0.calls.length:Int))-2)<a.number))),([]),Rl26,ef hs,ef hs,g,h⟩
  ·clear h;rintro e st ⟨d,Xk35,Rk35,rfl,rfl,g,h⟩
   rw [Dn] at h
   refine td K u w b g ?_
   refine GB h hs ?_ ?_<;>intro hs h
   ·refine rg [4] hs ?_
    exact rt h hs b g
   refine sk [3,5,7,8] hs p ?_
   clear p
   refine rg [3,5,7,8,9] hs ?_
   obtain ⟨ak,h⟩:=An h
   obtain ⟨aa,h⟩:=An h
   obtain ⟨Q,h⟩:=An h
   obtain ⟨Y,h⟩:=An h
   obtain ⟨ah,h⟩:=An h
   obtain ⟨U,h⟩:=An h
   obtain ⟨V,h⟩:=An h
   obtain ⟨ae,h⟩:=An h
   refine rg [3,5,7,169] (al hs) ?_
   refine GB h hs ?_ ?_<;>intro hs h
   ·refine rg [4] hs ?_
    exact rt h hs b g
   refine sk [3,5,7] hs j ?_
   clear j
   obtain ⟨aq,h⟩:=An h
   refine rl [3,5,7] hs (fun e s=>Vl26 ml26 e s (Nat.lt_succ_self _)) ?_
   exact ⟨(c+1),([(a.key.cs)++(Ak a.number::(Ak a.time::(.list (a.items.map BZ) .none::([.list (a.values.map Dp) .none]))))]),Rk35,ef hs,ef hs,g,h⟩
 ·clear h;rintro e st ⟨Xk23,Rk23,rfl,rfl,g,h⟩
  rw [HJ] at h
  refine td K u w b g ?_
  refine rg [4] hs ?_
  exact rt h hs b g
end Go.Proofs.YtcdnijfbfdnjlaaGreatDoor
