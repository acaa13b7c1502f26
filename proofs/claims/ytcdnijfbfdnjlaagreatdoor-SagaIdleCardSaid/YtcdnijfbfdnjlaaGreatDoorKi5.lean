/-
  Part 5 of the proof: rules and walks that the claim's last text uses.
-/
import Derived.Test.YtcdnijfbfdnjlaaGreatDoorKi4
set_option linter.unusedSimpArgs false
set_option linter.unusedVariables false
set_option maxRecDepth 100000
set_option maxHeartbeats 4000000
namespace Go.Proofs.YtcdnijfbfdnjlaaGreatDoor
open Go Go.RowKit Go.Ev
def EC (n:Nat) (b:(List Slt)→Int→Option Stt) (h:Int) (q:List Slt):Option Stt :=
 if Ba (h+1) then
  b q (h+1)
 else none
def E6 (n:Nat) (h:Stt) (b:List Slt):Option Stt :=
 some (Stt.mk h.number h.time b)
def EK (n:Nat) (h:(List Slt)→Int→Option Stt) (q:Int) (y:Slt) (y17:Vl) (b:List Slt) (b3_k35_8:List Msg) (b3_k35_9:List Vl):Option Stt :=
 if (b.length+1)*152≤140737488355328∧b.length+1≤4611686018427387904 then
  EC n h q (b++([Slt.mk y17 y.number y.time b3_k35_8 b3_k35_9]))
 else none
def CC (n:Nat) (h:(List Slt)→Int→Option Stt) (y:Int) (x15:Slt) (y17:Vl):Nat→(List Slt)→Int→(List Msg)→(List Vl)→Option Stt
 | 0,_,_,_,_=>none
 | m+1,q,b,b3_l38_8,b3_l38_9 =>
  if (decide (b<(x15.values.length:Int)))&&(decide (b<4)) then
   (EA x15.values b).bind fun x43 =>
   (AD n x43 4).bind fun y44 =>
   if (b3_l38_9.length+1)*88≤140737488355328∧b3_l38_9.length+1≤4611686018427387904 then
    if Ba (b+1) then
     (CC n h y x15 y17 m) q (b+1) b3_l38_8 (b3_l38_9++([y44]))
    else none
   else none
  else
   EK n h y x15 y17 q b3_l38_8 b3_l38_9
def EE (n:Nat) (b:(List Slt)→Int→Option Stt) (q:Int) (y:Slt) (y17:Vl) (h:List Slt) (b3_k19_8:List Msg):Option Stt :=
 CC n b q y y17 n h 0 b3_k19_8 ([])
def Cj (n:Nat) (h:(List Slt)→Int→Option Stt) (y:Int) (x15:Slt) (y17:Vl):Nat→(List Slt)→Int→(List Msg)→Option Stt
 | 0,_,_,_=>none
 | m+1,q,b,b3_l22_8 =>
  if (decide (b<(x15.items.length:Int)))&&(decide (b<4)) then
   (EA x15.items b).bind fun x27 =>
   (CB n x27).bind fun y28 =>
   if (b3_l22_8.length+1)*152≤140737488355328∧b3_l22_8.length+1≤4611686018427387904 then
    if Ba (b+1) then
     (Cj n h y x15 y17 m) q (b+1) (b3_l22_8++([y28]))
    else none
   else none
  else
   EE n h y x15 y17 q b3_l22_8
def A7 (n:Nat) (y:Stt):Nat→(List Slt)→Int→Option Stt
 | 0,_,_=>none
 | m+1,h,b =>
  if (decide (b<(y.slots.length:Int)))&&(decide (b<6)) then
   (EA y.slots b).bind fun q =>
   (AD n q.key 3).bind fun y17 =>
   Cj n (A7 n y m) b q y17 n h 0 ([])
  else
   E6 n y h
def FZ (n:Nat) (b:Stt):Option Stt :=
 A7 n b n ([]) 0
theorem N4 (w0:World) (n:Nat) (B:Ao) (Rw:Au) (L:As) (a0:Stt) (r:Stt) (h:FZ n a0=some r) :
  ACalls Tryz.prog w0 8 [.agg (Ak a0.number::(Ak a0.time::([.list (a0.slots.map A3) .none])))] ⟨B,Rw,L⟩ fun x st=>x = .agg (Ak r.number::(Ak r.time::([.list (r.slots.map A3) .none])))∧st=⟨B,Rw,L⟩:=by
 rw [FZ] at h
 refine hd [.cell 2 37] Tryz.func8 Tryz.ntmps8 fun M0 W0 hN ai aj E hu u hs=>?_
 simp only [Az]
 refine rg [1,2] hs ?_
 refine rg [1,2,3] hs ?_
 refine AB (fun e st=>∃ (ag:List Slt) (ah:Ev.Own),Ck e st B Rw L [(1,true,.box B.length 0),(2,true,.box (B.length+1) 0),(3,true,.list (ag.map A3) ah)] [Ak a0.number::(Ak a0.time::([.list (a0.slots.map A3) .none])),[Ak 0,Ak 0,.list ([]) .full]] [(10,ag.length,ah)] (E6 n a0 ag=some r)) ?_ ?_
 ·intro K5 bh
  refine rg [1,2,3,4] hs ?_
  apply Ar
  refine Ax (fun m e st=>∃ (aa:List Slt) (c:Int) (U:Ev.Own),Ck e st B Rw L [(1,true,.box B.length 0),(2,true,.box (B.length+1) 0),(3,true,.list (aa.map A3) U),(4,true,Ak c)] [Ak a0.number::(Ak a0.time::([.list (a0.slots.map A3) .none])),[Ak 0,Ak 0,.list ([]) .full]] [(10,aa.length,U)] (A7 n a0 m aa c=some r)) n ⟨([]),0,.full,([]),Rw,ef hs,ef hs,Owns.of_eq ((u).full 10 0) Ey,h⟩ ?_
  rintro ml7 e st ⟨aa,c,U,Xl7,Rl7,rfl,rfl,u,h⟩ Ul7 Vl7
  cases ml7 with
  | zero=>cases h
  | succ ml7 =>
  rw [A7] at h
  have hU:=u.unders
  simp only [List.mem_cons,List.not_mem_nil,or_false,forall_eq_or_imp,forall_eq] at hU
  refine td hN ai aj E u ?_
  apply Am;intro K8 bd
  refine rg [1,2,3,4,17] hs ?_
  refine F6 h hs ?_ ?_<;>intro hs h
  rotate_left
  ·have K:=hs.1
   refine sx [1,2,3] hs bh ?_
   exact ⟨aa,U,([]),Rl7,ef hs,ef hs,Owns.of_eq (u) Ey,h⟩
  have K:=hs.1
  refine sk [1,2,3,4] hs bd ?_
  clear bd
  refine AB (fun e st=>∃ (V:List Slt) (O:Ev.Own),Ck e st B Rw L [(1,true,.box B.length 0),(2,true,.box (B.length+1) 0),(3,true,.list (V.map A3) O),(4,true,Ak c)] [Ak a0.number::(Ak a0.time::([.list (a0.slots.map A3) .none])),[Ak 0,Ak 0,.list ([]) .full]] [(10,V.length,O)] (EC n (A7 n a0 ml7) c V=some r)) ?_ ?_
  ·intro K13 a6
   apply Ar
   obtain ⟨b,a7,h⟩:=bind_some h
   obtain ⟨bo,bm,az⟩:=Fq a7
   have t:=Fe (f:=A3) az
   have hs:=Ad t hs
   refine rg [1,2,3,4,5] hs ?_
   apply Am;intro K16 ar
   obtain ⟨a,bc,h⟩:=bind_some h
   apply UM PQ [8,9] [1,2,3,4,5,6] kr (fun s=>∃ (X:Ao) (rows:Au),s=⟨B++([Ak a0.number::(Ak a0.time::([.list (a0.slots.map A3) .none])),[Ak 0,Ak 0,.list ([]) .full],(b.key.cs)++(Ak b.number::(Ak b.time::(.list (b.items.map A9) .none::([.list (b.values.map B1) .none]))))]++X),rows,L⟩) 3 (B.length+3)
   ·simp +decide only [go_sem,Nat.reduceAdd]
   ·rintro s ⟨X,rows,rfl⟩
    refine ⟨2,?_⟩
    rw [Ap];simp +decide only [go_sem,Nat.reduceAdd,Bj,K,t,Vl.cs_eqs a]
    have hs:=Ad (Vl.cs_eqs a) hs
    (repeat' apply Ad)<;>first | refine Aw _ (BV w0 n _ _ _ b.key 3 _ bc) (hv hs) ?_ | exact cl
    rw [Ap];simp +decide only [go_sem,Nat.reduceAdd,K,t,Vl.cs_eqs a]
    (repeat' apply Ad)<;>first | rfl | exact cl
   ·refine Good.mk [8] kr ⟨[],_,by first | rfl | simp only [List.append_nil,List.nil_append]⟩ ?_ ?_
    ·intro h;exact absurd h (by decide)
    ·intro i hi;simp only [List.mem_cons,List.not_mem_nil,or_false] at hi
     subst hi
     ·apply CP rfl rfl ev
      ·simp +decide only [go_sem,Nat.reduceAdd,CJ,K,t,Vl.cs_eqs a]
       (repeat' apply Ad)<;>first | rfl | exact cl
      ·simp +decide only [go_sem,Nat.reduceAdd,K,t,Vl.cs_eqs a]
       refine Good.mk [9] kr ⟨_,_,by first | rfl | simp only [List.append_nil,List.nil_append]⟩ ?_ ?_
       ·intro h;exact absurd h (by decide)
       ·intro i hi;simp only [List.mem_cons,List.not_mem_nil,or_false] at hi
        subst hi
        ·apply CP rfl rfl ev
         ·simp +decide only [go_sem,Nat.reduceAdd,CJ,K,t,Vl.cs_eqs a]
          (repeat' apply Ad)<;>first | rfl | exact cl
         ·simp +decide only [go_sem,Nat.reduceAdd,K,t,Vl.cs_eqs a]
          refine Good.mk [] kr ⟨_,_,by first | rfl | simp only [List.append_nil,List.nil_append]⟩ ?_ ?_
          ·intro _;apply JL [1,2,3,4,5,6];first | (simp +decide only [go_sem,Nat.reduceAdd,K,t,Vl.cs_eqs a];done) | (simp +decide only [go_sem,Nat.reduceAdd,K,t,Vl.cs_eqs a];rfl)
          ·intro i hi;cases hi
   simp +decide only [go_sem,Nat.reduceAdd,K,t,Vl.cs_eqs a]
   (repeat' apply Ad)<;>first | refine ar _ _ ?_ | exact cl
   clear ar
   refine AB (fun e st=>∃ (N:List Slt) (v:List Msg) (Q:Ev.Own) (D:Ev.Own),Ck e st B Rw L [(1,true,.box B.length 0),(2,true,.box (B.length+1) 0),(3,true,.list (N.map A3) Q),(4,true,Ak c),(5,true,.box (B.length+2) 0),(6,true,.box (B.length+3) 0)] [Ak a0.number::(Ak a0.time::([.list (a0.slots.map A3) .none])),[Ak 0,Ak 0,.list ([]) .full],(b.key.cs)++(Ak b.number::(Ak b.time::(.list (b.items.map A9) .none::([.list (b.values.map B1) .none])))),[Ak a.kind,Ak a.int,Ak a.scale,.val (.string a.text),.list (a.list.map B1) .none,.list (a.fields.map IC) .none,Ak b.number,Ak b.time,.list (v.map A9) D,.list ([]) .full]] [(10,N.length,Q),(10,v.length,D)] (EE n (A7 n a0 ml7) c b a N v=some r)) ?_ ?_
   ·intro K20 a5
    have hs:=Ad (Vl.cs_eqs a) hs
    refine rg [1,2,3,4,5,6,7] hs ?_
    apply Ar
    refine Ax (fun m e st=>∃ (J:List Slt) (ae:Int) (k:List Msg) (F:Ev.Own) (w:Ev.Own),Ck e st B Rw L [(1,true,.box B.length 0),(2,true,.box (B.length+1) 0),(3,true,.list (J.map A3) F),(4,true,Ak c),(5,true,.box (B.length+2) 0),(6,true,.box (B.length+3) 0),(7,true,Ak ae)] [Ak a0.number::(Ak a0.time::([.list (a0.slots.map A3) .none])),[Ak 0,Ak 0,.list ([]) .full],(b.key.cs)++(Ak b.number::(Ak b.time::(.list (b.items.map A9) .none::([.list (b.values.map B1) .none])))),[Ak a.kind,Ak a.int,Ak a.scale,.val (.string a.text),.list (a.list.map B1) .none,.list (a.fields.map IC) .none,Ak b.number,Ak b.time,.list (k.map A9) w,.list ([]) .full]] [(10,J.length,F),(10,k.length,w)] (Cj n (A7 n a0 ml7) c b a m J ae k=some r)) n ⟨aa,0,([]),U,.full,([]),Rl7,ef hs,ef hs,Owns.of_eq (((u).full 10 0).swap (List.Perm.swap _ _ _)) Ey,h⟩ ?_
    rintro ml22 e st ⟨J,ae,k,F,w,Xl22,Rl22,rfl,rfl,u,h⟩ Ul22 Vl22
    cases ml22 with
    | zero=>cases h
    | succ ml22 =>
    rw [Cj] at h
    have hU:=u.unders
    simp only [List.mem_cons,List.not_mem_nil,or_false,forall_eq_or_imp,forall_eq] at hU
    obtain ⟨a1,a4⟩:=hU
    refine td hN ai aj E u ?_
    apply Am;intro K23 ap
    refine rg [1,2,3,4,5,6,7,41] hs ?_
    refine F6 h hs ?_ ?_<;>intro hs h
    rotate_left
    ·refine sx [1,2,3,4,5,6] hs a5 ?_
     exact ⟨J,k,F,w,([]),Rl22,ef hs,ef hs,Owns.of_eq (((u).swap (List.Perm.swap _ _ _)).swap (List.Perm.swap _ _ _)) Ey,h⟩
    refine sk [1,2,3,4,5,6,7] hs ap ?_
    clear ap
    apply Am;intro K26 aw
    apply Ar
    obtain ⟨bl,bk,br,a3,h⟩:=ix A9 h
    obtain ⟨bn,ba,h⟩:=bind_some h
    obtain ⟨ay,h⟩:=An h
    have u:=u.swap (List.Perm.swap _ _ _)
    obtain ⟨bg,ak,u,ab⟩:=u.append (P:=Tryz.prog) Yc (by rw [Qd];rfl) (by decide) 1 ay.1 ay.2
    replace ab:=fun (ys:List AV) B L o2=>ab (k.map A9) ys B L o2 Ey
    replace ab:=fun (y:AV) B L o2=>ab [y] B L o2 Ey ev
    try simp only [List.mem_singleton,List.mem_cons,List.not_mem_nil,or_false,forall_eq_or_imp,forall_eq,List.map_append,List.map_cons,List.map_nil,IX,Iu,Il,IA,Ip,IR,G8,GX,Ir,EP,ES,Hf,Hk,GV,Iz,Hj,IE] at ab
    have hs:=Ad a3 hs
    have hs:=Ad ab hs
    refine dk 9 2 1 [1,2,3,4,5,6,7] hs PQ ?_
    refine Aw _ (H5 w0 n _ _ _ bl _ ba) (hv hs) ?_
    refine dn hs aw ?_
    clear aw
    obtain ⟨bt,h⟩:=An h
    refine rl [1,2,3,4,5,6,7] hs (fun e s=>Vl22 ml22 e s (Nat.lt_succ_self _)) ?_
    exact ⟨J,(ae+1),(k++([bn])),F,bg,([]),ak,ef hs,ef hs,Owns.of_eq ((u).swap (List.Perm.swap _ _ _)) Ey,h⟩
   ·clear h;rintro e st ⟨N,v,Q,D,Xk19,Rk19,rfl,rfl,u,h⟩
    rw [EE] at h
    have hU:=u.unders
    simp only [List.mem_cons,List.not_mem_nil,or_false,forall_eq_or_imp,forall_eq] at hU
    obtain ⟨a1,a4⟩:=hU
    refine td hN ai aj E u ?_
    refine AB (fun e st=>∃ (z:List Slt) (g:List Msg) (j:List Vl) (af:Ev.Own) (o:Ev.Own) (p:Ev.Own),Ck e st B Rw L [(1,true,.box B.length 0),(2,true,.box (B.length+1) 0),(3,true,.list (z.map A3) af),(4,true,Ak c),(6,true,.box (B.length+3) 0)] [Ak a0.number::(Ak a0.time::([.list (a0.slots.map A3) .none])),[Ak 0,Ak 0,.list ([]) .full],(b.key.cs)++(Ak b.number::(Ak b.time::(.list (b.items.map A9) .none::([.list (b.values.map B1) .none])))),[Ak a.kind,Ak a.int,Ak a.scale,.val (.string a.text),.list (a.list.map B1) .none,.list (a.fields.map IC) .none,Ak b.number,Ak b.time,.list (g.map A9) o,.list (j.map B1) p]] [(10,z.length,af),(10,g.length,o),(6,j.length,p)] (EK n (A7 n a0 ml7) c b a z g j=some r)) ?_ ?_
    ·intro K36 bb
     have hs:=Ad (Vl.cs_eqs a) hs
     refine rg [1,2,3,4,5,6,8] hs ?_
     apply Ar
     refine Ax (fun m e st=>∃ (H:List Slt) (ad:Int) (l:List Msg) (d:List Vl) (G:Ev.Own) (q:Ev.Own) (C:Ev.Own),Ck e st B Rw L [(1,true,.box B.length 0),(2,true,.box (B.length+1) 0),(3,true,.list (H.map A3) G),(4,true,Ak c),(5,true,.box (B.length+2) 0),(6,true,.box (B.length+3) 0),(8,true,Ak ad)] [Ak a0.number::(Ak a0.time::([.list (a0.slots.map A3) .none])),[Ak 0,Ak 0,.list ([]) .full],(b.key.cs)++(Ak b.number::(Ak b.time::(.list (b.items.map A9) .none::([.list (b.values.map B1) .none])))),[Ak a.kind,Ak a.int,Ak a.scale,.val (.string a.text),.list (a.list.map B1) .none,.list (a.fields.map IC) .none,Ak b.number,Ak b.time,.list (l.map A9) q,.list (d.map B1) C]] [(10,H.length,G),(10,l.length,q),(6,d.length,C)] (CC n (A7 n a0 ml7) c b a m H ad l d=some r)) n ⟨N,0,v,([]),Q,D,.full,([]),Rk19,ef hs,ef hs,Owns.of_eq ((((u).full 6 0).swap ((List.Perm.cons _ (List.Perm.swap _ _ _)).trans (List.Perm.swap _ _ _))).swap ((List.Perm.cons _ (List.Perm.swap _ _ _)).trans (List.Perm.swap _ _ _))) Ey,h⟩ ?_
     rintro ml38 e st ⟨H,ad,l,d,G,q,C,Xl38,Rl38,rfl,rfl,u,h⟩ Ul38 Vl38
     cases ml38 with
     | zero=>cases h
     | succ ml38 =>
     rw [CC] at h
     have hU:=u.unders
     simp only [List.mem_cons,List.not_mem_nil,or_false,forall_eq_or_imp,forall_eq] at hU
     obtain ⟨a1,a4,be⟩:=hU
     refine td hN ai aj E u ?_
     apply Am;intro K39 av
     refine rg [1,2,3,4,5,6,8,63] hs ?_
     refine F6 h hs ?_ ?_<;>intro hs h
     rotate_left
     ·refine sx [1,2,3,4,6] hs bb ?_
      exact ⟨H,l,d,G,q,C,([]),Rl38,ef hs,ef hs,Owns.of_eq ((((u).swap ((List.Perm.cons _ (List.Perm.swap _ _ _)).trans (List.Perm.swap _ _ _))).swap ((List.Perm.cons _ (List.Perm.swap _ _ _)).trans (List.Perm.swap _ _ _))).swap ((List.Perm.cons _ (List.Perm.swap _ _ _)).trans (List.Perm.swap _ _ _))) Ey,h⟩
     refine sk [1,2,3,4,5,6,8] hs av ?_
     clear av
     apply Am;intro K42 aq
     apply Ar
     obtain ⟨bp,bj,bq,a2,h⟩:=ix B1 h
     obtain ⟨bi,a8,h⟩:=bind_some h
     obtain ⟨ax,h⟩:=An h
     have u:=u.swap ((List.Perm.cons _ (List.Perm.swap _ _ _)).trans (List.Perm.swap _ _ _))
     obtain ⟨bf,am,u,Z⟩:=u.append (P:=Tryz.prog) Ny (by rw [IJ];rfl) (by decide) 1 ax.1 ax.2
     replace Z:=fun (ys:List AV) B L o2=>Z (d.map B1) ys B L o2 Ey
     replace Z:=fun (y:AV) B L o2=>Z [y] B L o2 Ey ev
     try simp only [List.mem_singleton,List.mem_cons,List.not_mem_nil,or_false,forall_eq_or_imp,forall_eq,List.map_append,List.map_cons,List.map_nil,IX,Iu,Il,IA,Ip,IR,G8,GX,Ir,EP,ES,Hf,Hk,GV,Iz,Hj,IE] at Z
     have hs:=Ad a2 hs
     have hs:=Ad Z hs
     refine dk 9 2 1 [1,2,3,4,5,6,8] hs PQ ?_
     refine Aw _ (BV w0 n _ _ _ bp 4 _ a8) (hv hs) ?_
     refine dn hs aq ?_
     clear aq
     obtain ⟨bs,h⟩:=An h
     refine rl [1,2,3,4,5,6,8] hs (fun e s=>Vl38 ml38 e s (Nat.lt_succ_self _)) ?_
     exact ⟨H,(ad+1),l,(d++([bi])),G,q,bf,([]),am,ef hs,ef hs,Owns.of_eq (((u).swap ((List.Perm.cons _ (List.Perm.swap _ _ _)).trans (List.Perm.swap _ _ _))).swap ((List.Perm.cons _ (List.Perm.swap _ _ _)).trans (List.Perm.swap _ _ _))) Ey,h⟩
    ·clear h;rintro e st ⟨z,g,j,af,o,p,Xk35,Rk35,rfl,rfl,u,h⟩
     rw [EK] at h
     have hU:=u.unders
     simp only [List.mem_cons,List.not_mem_nil,or_false,forall_eq_or_imp,forall_eq] at hU
     obtain ⟨a1,a4,be⟩:=hU
     refine td hN ai aj E u ?_
     obtain ⟨au,h⟩:=An h
     obtain ⟨a9,ao,u,Y⟩:=u.append (P:=Tryz.prog) Zcj (by rw [VX];rfl) (by decide) 1 au.1 au.2
     replace Y:=fun (ys:List AV) B L o2=>Y (z.map A3) ys B L o2 Ey
     replace Y:=fun (y:AV) B L o2=>Y [y] B L o2 Ey ev
     try simp only [List.mem_singleton,List.mem_cons,List.not_mem_nil,or_false,forall_eq_or_imp,forall_eq,List.map_append,List.map_cons,List.map_nil,IX,Iu,Il,IA,Ip,IR,G8,GX,Ir,EP,ES,Hf,Hk,GV,Iz,Hj,IE] at Y
     have hs:=Ad (Vl.cs_eqs a) hs
     have hs:=Ad Y hs
     refine rl [1,2,3,4] hs a6 ?_
     exact ⟨(z++([Slt.mk a b.number b.time g j])),a9,([(b.key.cs)++(Ak b.number::(Ak b.time::(.list (b.items.map A9) .none::([.list (b.values.map B1) .none])))),[Ak a.kind,Ak a.int,Ak a.scale,.val (.string a.text),.list (a.list.map B1) .none,.list (a.fields.map IC) .none,Ak b.number,Ak b.time,.list (g.map A9) o,.list (j.map B1) p]]),ao,ef hs,ef hs,Owns.of_eq ((u).sub (List.sublist_append_left [(10,z.length+1,a9)] [(10,g.length,o),(6,j.length,p)])) Ey,h⟩
  ·clear h;rintro e st ⟨V,O,Xk12,Rk12,rfl,rfl,u,h⟩
   rw [EC] at h
   have hU:=u.unders
   simp only [List.mem_cons,List.not_mem_nil,or_false,forall_eq_or_imp,forall_eq] at hU
   refine td hN ai aj E u ?_
   obtain ⟨bu,h⟩:=An h
   refine rl [1,2,3,4] hs (fun e s=>Vl7 ml7 e s (Nat.lt_succ_self _)) ?_
   exact ⟨V,(c+1),O,([]),Rk12,ef hs,ef hs,Owns.of_eq (u) Ey,h⟩
 ·clear h;rintro e st ⟨ag,ah,Xk4,Rk4,rfl,rfl,u,h⟩
  rw [E6] at h
  have hU:=u.unders
  simp only [List.mem_cons,List.not_mem_nil,or_false,forall_eq_or_imp,forall_eq] at hU
  refine td hN ai aj E u ?_
  refine rg [1,2] hs ?_
  refine rg [2] hs ?_
  exact rt h hs E u
def D6 (n:Nat) (b:Nod) (q:List (ByteArray × List (ByteArray × Ex))) (h:List Ty) (b0_k56_16:List Ex):Option Nod :=
 (GO n b.mapping).bind fun y72 =>
 (BD n b.type 4).bind fun y =>
 if 0≤0∧0≤(if 60<(b.name.size:Int) then 60 else (b.name.size:Int))∧(if 60<(b.name.size:Int) then 60 else (b.name.size:Int))≤(b.name.size:Int) then
  if 0≤0∧0≤(if 60<(b.text.size:Int) then 60 else (b.text.size:Int))∧(if 60<(b.text.size:Int) then 60 else (b.text.size:Int))≤(b.text.size:Int) then
   if 0≤0∧0≤(if 70<(b.next.length:Int) then 70 else (b.next.length:Int))∧(if 70<(b.next.length:Int) then 70 else (b.next.length:Int))≤(b.next.length:Int) then
    some (Nod.mk (b.name.extract 0 ((if 60<(b.name.size:Int) then 60 else (b.name.size:Int))).toNat) b.kind b.schema b.result b.number b.time b.limit (b.text.extract 0 ((if 60<(b.text.size:Int) then 60 else (b.text.size:Int))).toNat) y h b0_k56_16 y72 q (b.next.take ((if 70<(b.next.length:Int) then 70 else (b.next.length:Int))).toNat))
   else none
  else none
 else none
def CV (n:Nat) (y:Nod):Nat→(List (ByteArray × List (ByteArray × Ex)))→(List Ty)→Int→(List Ex)→Option Nod
 | 0,_,_,_,_=>none
 | m+1,q,h,b,b0_l59_16 =>
  if (decide (b<(y.types.length:Int)))&&(decide (b<8)) then
   (EA y.types b).bind fun x64 =>
   (BD n x64 4).bind fun y65 =>
   if (h.length+1)*104≤140737488355328∧h.length+1≤4611686018427387904 then
    if Ba (b+1) then
     (CV n y m) q (h++([y65])) (b+1) b0_l59_16
    else none
   else none
  else
   D6 n y q h b0_l59_16
def E8 (n:Nat) (h:Nod) (b:List (ByteArray × List (ByteArray × Ex))) (b0_k38_16:List Ex):Option Nod :=
 CV n h n b ([]) 0 b0_k38_16
def CQ (n:Nat) (y:Nod):Nat→(List (ByteArray × List (ByteArray × Ex)))→Int→(List Ex)→Option Nod
 | 0,_,_,_=>none
 | m+1,h,b,b0_l41_16 =>
  if (decide (b<(y.calls.length:Int)))&&(decide (b<4)) then
   (EA y.calls b).bind fun q =>
   if 0≤0∧0≤(if 60<(q.1.size:Int) then 60 else (q.1.size:Int))∧(if 60<(q.1.size:Int) then 60 else (q.1.size:Int))≤(q.1.size:Int) then
    (GO n q.2).bind fun y48 =>
    if (h.length+1)*40≤140737488355328∧h.length+1≤4611686018427387904 then
     if Ba (b+1) then
      (CQ n y m) (h++([(q.1.extract 0 ((if 60<(q.1.size:Int) then 60 else (q.1.size:Int))).toNat,y48)])) (b+1) b0_l41_16
     else none
    else none
   else none
  else
   E8 n y h b0_l41_16
def E4 (n:Nat) (b:Nod) (b0_k22_16:List Ex):Option Nod :=
 CQ n b n ([]) 0 b0_k22_16
def CU (n:Nat) (y:Nod) (h:(List (ByteArray × Ex))):Nat→Int→(List Ex)→Option Nod
 | 0,_,_=>none
 | m+1,b,b0_l25_16 =>
  if decide (b<(h.length:Int)) then
   (EA h b).bind fun q =>
   if (b0_l25_16.length+1)*80≤140737488355328∧b0_l25_16.length+1≤4611686018427387904 then
    if Ba (b+1) then
     (CU n y h m) (b+1) (b0_l25_16++([q.2]))
    else none
   else none
  else
   E4 n y b0_l25_16
def F3 (n:Nat) (h:Nod) (b2_k4_0:List (ByteArray × Ex)):Option Nod :=
 (GO n b2_k4_0).bind fun b =>
 CU n h b n 0 ([])
def Dp (n:Nat) (h:Nod):Nat→Int→(List (ByteArray × Ex))→Option Nod
 | 0,_,_=>none
 | m+1,b,b2_l7_0 =>
  if (decide (b<(h.exprs.length:Int)))&&(decide (b<4)) then
   (EA h.exprs b).bind fun q =>
   if (b2_l7_0.length+1)*96≤140737488355328∧b2_l7_0.length+1≤4611686018427387904 then
    if Ba (b+1) then
     (Dp n h m) (b+1) (b2_l7_0++([((⟨#[]⟩:ByteArray),q)]))
    else none
   else none
  else
   F3 n h b2_l7_0
def Gs (n:Nat) (b:Nod):Option Nod :=
 Dp n b n 0 ([])
theorem OO (w0:World) (n:Nat) (B:Ao) (Rw:Au) (L:As) (a0:Nod) (r:Nod) (h:Gs n a0=some r) :
  ACalls Tryz.prog w0 7 [.agg (.val (.string a0.name)::(Ak a0.kind::(Ak a0.schema::(Ak a0.result::(Ak a0.number::(Ak a0.time::(Ak a0.limit::(.val (.string a0.text)::((a0.type.cs)++(.list (a0.types.map Ef) .none::(.list (a0.exprs.map Gy) .none::(.list (a0.mapping.map Bq) .none::(.list (a0.calls.map B2) .none::([.list (a0.next.map AU) .none]))))))))))))))] ⟨B,Rw,L⟩ fun x st=>x = .agg (.val (.string r.name)::(Ak r.kind::(Ak r.schema::(Ak r.result::(Ak r.number::(Ak r.time::(Ak r.limit::(.val (.string r.text)::((r.type.cs)++(.list (r.types.map Ef) .none::(.list (r.exprs.map Gy) .none::(.list (r.mapping.map Bq) .none::(.list (r.calls.map B2) .none::([.list (r.next.map AU) .none]))))))))))))))∧st=⟨B,Rw,L⟩:=by
 rw [Gs] at h
 refine hd [.cell 2 34] Tryz.func7 Tryz.ntmps7 fun M0 W0 hN ah ai o hu v hs=>?_
 simp only [Az]
 refine rg [1,2] hs ?_
 refine rg [1,2,3] hs ?_
 refine AB (fun e st=>∃ (l:List (ByteArray × Ex)) (E:Ev.Own),Ck e st B Rw L [(1,true,.box B.length 0),(2,true,.box (B.length+1) 0),(3,true,.box (B.length+2) 0)] [.val (.string a0.name)::(Ak a0.kind::(Ak a0.schema::(Ak a0.result::(Ak a0.number::(Ak a0.time::(Ak a0.limit::(.val (.string a0.text)::((a0.type.cs)++(.list (a0.types.map Ef) .none::(.list (a0.exprs.map Gy) .none::(.list (a0.mapping.map Bq) .none::(.list (a0.calls.map B2) .none::([.list (a0.next.map AU) .none]))))))))))))),[.val (.string (⟨#[]⟩:ByteArray)),Ak 0,Ak 0,Ak 0,Ak 0,Ak 0,Ak 0,.val (.string (⟨#[]⟩:ByteArray)),Ak 0,Ak 0,Ak 0,Ak 0,.list ([]) .full,.list ([]) .full,.list ([]) .full,.list ([]) .full,.list ([]) .full,.list ([]) .full,.list ([]) .full,.list ([]) .full],[.list (l.map Bq) E]] [(6,l.length,E)] (F3 n a0 l=some r)) ?_ ?_
 ·intro K5 be
  refine rg [1,2,3,4] hs ?_
  apply Ar
  refine Ax (fun m e st=>∃ (aj:Int) (K:List (ByteArray × Ex)) (Q:Ev.Own),Ck e st B Rw L [(1,true,.box B.length 0),(2,true,.box (B.length+1) 0),(3,true,.box (B.length+2) 0),(4,true,Ak aj)] [.val (.string a0.name)::(Ak a0.kind::(Ak a0.schema::(Ak a0.result::(Ak a0.number::(Ak a0.time::(Ak a0.limit::(.val (.string a0.text)::((a0.type.cs)++(.list (a0.types.map Ef) .none::(.list (a0.exprs.map Gy) .none::(.list (a0.mapping.map Bq) .none::(.list (a0.calls.map B2) .none::([.list (a0.next.map AU) .none]))))))))))))),[.val (.string (⟨#[]⟩:ByteArray)),Ak 0,Ak 0,Ak 0,Ak 0,Ak 0,Ak 0,.val (.string (⟨#[]⟩:ByteArray)),Ak 0,Ak 0,Ak 0,Ak 0,.list ([]) .full,.list ([]) .full,.list ([]) .full,.list ([]) .full,.list ([]) .full,.list ([]) .full,.list ([]) .full,.list ([]) .full],[.list (K.map Bq) Q]] [(6,K.length,Q)] (Dp n a0 m aj K=some r)) n ⟨0,([]),.full,([]),Rw,ef hs,ef hs,Owns.of_eq ((v).full 6 0) Ey,h⟩ ?_
  rintro ml7 e st ⟨aj,K,Q,Xl7,Rl7,rfl,rfl,v,h⟩ Ul7 Vl7
  cases ml7 with
  | zero=>cases h
  | succ ml7 =>
  rw [Dp] at h
  exact go (tg (a:=([1,2,3,4,18],([1,2,3,4],[9,1,2,3,4],[1,2,3,4],()),[1,2,3],()))) h hs hN ah ai o v (q1 (ae Zdt Va)) (q2 be (fun e s=>Vl7 ml7 e s (Nat.lt_succ_self _)))
 ·clear h;rintro e st ⟨l,E,Xk4,Rk4,rfl,rfl,v,h⟩
  rw [F3] at h
  have hU:=v.unders
  simp only [List.mem_cons,List.not_mem_nil,or_false,forall_eq_or_imp,forall_eq] at hU
  refine td hN ah ai o v ?_
  obtain ⟨ag,bb,h⟩:=bind_some h
  refine rc 2 [1,2,3] hs ?_;intro K18 ax
  refine Aw _ (H8 w0 n _ _ _ l _ bb) (hv hs) ?_
  refine ne hs ax ?_
  clear ax
  have hs:=Ad (Ty.cs_eqs a0.type) hs
  refine rg [1,2,3] hs ?_
  refine AB (fun e st=>∃ (g:List Ex) (j:Ev.Own),Ck e st B Rw L [(1,true,.box B.length 0),(2,true,.box (B.length+1) 0)] [[.val (.string a0.name),Ak a0.kind,Ak a0.schema,Ak a0.result,Ak a0.number,Ak a0.time,Ak a0.limit,.val (.string a0.text),Ak a0.type.kind,Ak a0.type.min,Ak a0.type.max,Ak a0.type.scale,.list (a0.type.words.map JR) .none,.list (a0.type.elem.map Ef) .none,.list (a0.type.fields.map Gn) .none,.list (a0.types.map Ef) .none,.list (g.map Gy) j,.list (a0.mapping.map Bq) .none,.list (a0.calls.map B2) .none,.list (a0.next.map AU) .none],[.val (.string (⟨#[]⟩:ByteArray)),Ak 0,Ak 0,Ak 0,Ak 0,Ak 0,Ak 0,.val (.string (⟨#[]⟩:ByteArray)),Ak 0,Ak 0,Ak 0,Ak 0,.list ([]) .full,.list ([]) .full,.list ([]) .full,.list ([]) .full,.list ([]) .full,.list ([]) .full,.list ([]) .full,.list ([]) .full],[.list (ag.map Bq) .none]] [(5,g.length,j)] (E4 n a0 g=some r)) ?_ ?_
  ·intro K23 a7
   refine rg [1,2,3,5] hs ?_
   apply Ar
   refine Ax (fun m e st=>∃ (af:Int) (u:List Ex) (w:Ev.Own),Ck e st B Rw L [(1,true,.box B.length 0),(2,true,.box (B.length+1) 0),(3,true,.box (B.length+2) 0),(5,true,Ak af)] [[.val (.string a0.name),Ak a0.kind,Ak a0.schema,Ak a0.result,Ak a0.number,Ak a0.time,Ak a0.limit,.val (.string a0.text),Ak a0.type.kind,Ak a0.type.min,Ak a0.type.max,Ak a0.type.scale,.list (a0.type.words.map JR) .none,.list (a0.type.elem.map Ef) .none,.list (a0.type.fields.map Gn) .none,.list (a0.types.map Ef) .none,.list (u.map Gy) w,.list (a0.mapping.map Bq) .none,.list (a0.calls.map B2) .none,.list (a0.next.map AU) .none],[.val (.string (⟨#[]⟩:ByteArray)),Ak 0,Ak 0,Ak 0,Ak 0,Ak 0,Ak 0,.val (.string (⟨#[]⟩:ByteArray)),Ak 0,Ak 0,Ak 0,Ak 0,.list ([]) .full,.list ([]) .full,.list ([]) .full,.list ([]) .full,.list ([]) .full,.list ([]) .full,.list ([]) .full,.list ([]) .full],[.list (ag.map Bq) .none]] [(5,u.length,w)] (CU n a0 ag m af u=some r)) n ⟨0,([]),.full,([]),Rk4,ef hs,ef hs,Owns.of_eq (((v).full 5 0).sub (List.sublist_append_left [(5,0,Own.full)] [(6,l.length,E)])) Ey,h⟩ ?_
   rintro ml25 e st ⟨af,u,w,Xl25,Rl25,rfl,rfl,v,h⟩ Ul25 Vl25
   cases ml25 with
   | zero=>cases h
   | succ ml25 =>
   rw [CU] at h
   exact go (tg (a:=([1,2,3,5,39],([1,2,3,5],[9,1,2,3,5],[1,2,3,5],()),[1,2],()))) h hs hN ah ai o v (q1 (ae Zbl WW)) (q2 a7 (fun e s=>Vl25 ml25 e s (Nat.lt_succ_self _)))
  ·clear h;rintro e st ⟨g,j,Xk22,Rk22,rfl,rfl,v,h⟩
   rw [E4] at h
   have hU:=v.unders
   simp only [List.mem_cons,List.not_mem_nil,or_false,forall_eq_or_imp,forall_eq] at hU
   refine td hN ah ai o v ?_
   refine rg [1,2,6] hs ?_
   refine AB (fun e st=>∃ (J:List (ByteArray × List (ByteArray × Ex))) (i:List Ex) (N:Ev.Own) (k:Ev.Own),Ck e st B Rw L [(1,true,.box B.length 0),(2,true,.box (B.length+1) 0),(6,true,.list (J.map B2) N)] [[.val (.string a0.name),Ak a0.kind,Ak a0.schema,Ak a0.result,Ak a0.number,Ak a0.time,Ak a0.limit,.val (.string a0.text),Ak a0.type.kind,Ak a0.type.min,Ak a0.type.max,Ak a0.type.scale,.list (a0.type.words.map JR) .none,.list (a0.type.elem.map Ef) .none,.list (a0.type.fields.map Gn) .none,.list (a0.types.map Ef) .none,.list (i.map Gy) k,.list (a0.mapping.map Bq) .none,.list (a0.calls.map B2) .none,.list (a0.next.map AU) .none],[.val (.string (⟨#[]⟩:ByteArray)),Ak 0,Ak 0,Ak 0,Ak 0,Ak 0,Ak 0,.val (.string (⟨#[]⟩:ByteArray)),Ak 0,Ak 0,Ak 0,Ak 0,.list ([]) .full,.list ([]) .full,.list ([]) .full,.list ([]) .full,.list ([]) .full,.list ([]) .full,.list ([]) .full,.list ([]) .full],[.list (ag.map Bq) .none]] [(2,J.length,N),(5,i.length,k)] (E8 n a0 J i=some r)) ?_ ?_
   ·intro K39 a9
    refine rg [1,2,6,7] hs ?_
    apply Ar
    refine Ax (fun m e st=>∃ (p:List (ByteArray × List (ByteArray × Ex))) (Z:Int) (c:List Ex) (H:Ev.Own) (d:Ev.Own),Ck e st B Rw L [(1,true,.box B.length 0),(2,true,.box (B.length+1) 0),(6,true,.list (p.map B2) H),(7,true,Ak Z)] [[.val (.string a0.name),Ak a0.kind,Ak a0.schema,Ak a0.result,Ak a0.number,Ak a0.time,Ak a0.limit,.val (.string a0.text),Ak a0.type.kind,Ak a0.type.min,Ak a0.type.max,Ak a0.type.scale,.list (a0.type.words.map JR) .none,.list (a0.type.elem.map Ef) .none,.list (a0.type.fields.map Gn) .none,.list (a0.types.map Ef) .none,.list (c.map Gy) d,.list (a0.mapping.map Bq) .none,.list (a0.calls.map B2) .none,.list (a0.next.map AU) .none],[.val (.string (⟨#[]⟩:ByteArray)),Ak 0,Ak 0,Ak 0,Ak 0,Ak 0,Ak 0,.val (.string (⟨#[]⟩:ByteArray)),Ak 0,Ak 0,Ak 0,Ak 0,.list ([]) .full,.list ([]) .full,.list ([]) .full,.list ([]) .full,.list ([]) .full,.list ([]) .full,.list ([]) .full,.list ([]) .full],[.list (ag.map Bq) .none]] [(2,p.length,H),(5,c.length,d)] (CQ n a0 m p Z c=some r)) n ⟨([]),0,g,.full,j,([]),Rk22,ef hs,ef hs,Owns.of_eq ((v).full 2 0) Ey,h⟩ ?_
    rintro ml41 e st ⟨p,Z,c,H,d,Xl41,Rl41,rfl,rfl,v,h⟩ Ul41 Vl41
    cases ml41 with
    | zero=>cases h
    | succ ml41 =>
    rw [CQ] at h
    have hU:=v.unders
    simp only [List.mem_cons,List.not_mem_nil,or_false,forall_eq_or_imp,forall_eq] at hU
    obtain ⟨a3,a6⟩:=hU
    refine td hN ah ai o v ?_
    apply Am;intro K42 ap
    refine rg [1,2,6,7,61] hs ?_
    refine F6 h hs ?_ ?_<;>intro hs h
    rotate_left
    ·refine sx [1,2,6] hs a9 ?_
     exact ⟨p,c,H,d,([]),Rl41,ef hs,ef hs,Owns.of_eq (((v).swap (List.Perm.swap _ _ _)).swap (List.Perm.swap _ _ _)) Ey,h⟩
    refine sk [1,2,6,7] hs ap ?_
    clear ap
    apply Am;intro K45 az
    apply Ar
    obtain ⟨ak,bh,bk,a5,h⟩:=ix B2 h
    obtain ⟨bp,h⟩:=An h
    obtain ⟨bj,ba,h⟩:=bind_some h
    obtain ⟨aw,h⟩:=An h
    obtain ⟨bm,am,v,U⟩:=v.append (P:=Tryz.prog) ZjV (by rw [Zbt];rfl) (by decide) 1 aw.1 aw.2
    replace U:=fun (ys:List AV) B L o2=>U (p.map B2) ys B L o2 Ey
    replace U:=fun (y:AV) B L o2=>U [y] B L o2 Ey ev
    try simp only [List.mem_singleton,List.mem_cons,List.not_mem_nil,or_false,forall_eq_or_imp,forall_eq,List.map_append,List.map_cons,List.map_nil,IX,Iu,Il,IA,Ip,IR,G8,GX,Ir,EP,ES,Hf,Hk,GV,Iz,Hj,IE] at U
    have hs:=Ad a5 hs
    have hs:=Ad U hs
    refine dk 25 2 1 [1,2,6,7] hs PQ ?_
    refine Aw _ (H8 w0 n _ _ _ ak.2 _ ba) (hv hs) ?_
    refine dn hs az ?_
    clear az
    obtain ⟨bo,h⟩:=An h
    refine rl [1,2,6,7] hs (fun e s=>Vl41 ml41 e s (Nat.lt_succ_self _)) ?_
    exact ⟨(p++([(ak.1.extract 0 ((if 60<(ak.1.size:Int) then 60 else (ak.1.size:Int))).toNat,bj)])),(Z+1),c,bm,d,([]),am,ef hs,ef hs,Owns.of_eq (((v).swap (List.Perm.swap _ _ _)).swap (List.Perm.swap _ _ _)) Ey,h⟩
   ·clear h;rintro e st ⟨J,i,N,k,Xk38,Rk38,rfl,rfl,v,h⟩
    rw [E8] at h
    have hU:=v.unders
    simp only [List.mem_cons,List.not_mem_nil,or_false,forall_eq_or_imp,forall_eq] at hU
    obtain ⟨a3,a6⟩:=hU
    refine td hN ah ai o v ?_
    refine rg [1,2,6,8] hs ?_
    refine AB (fun e st=>∃ (aa:List (ByteArray × List (ByteArray × Ex))) (V:List Ty) (t:List Ex) (ad:Ev.Own) (ab:Ev.Own) (z:Ev.Own),Ck e st B Rw L [(1,true,.box B.length 0),(2,true,.box (B.length+1) 0),(6,true,.list (aa.map B2) ad),(8,true,.list (V.map Ef) ab)] [[.val (.string a0.name),Ak a0.kind,Ak a0.schema,Ak a0.result,Ak a0.number,Ak a0.time,Ak a0.limit,.val (.string a0.text),Ak a0.type.kind,Ak a0.type.min,Ak a0.type.max,Ak a0.type.scale,.list (a0.type.words.map JR) .none,.list (a0.type.elem.map Ef) .none,.list (a0.type.fields.map Gn) .none,.list (a0.types.map Ef) .none,.list (t.map Gy) z,.list (a0.mapping.map Bq) .none,.list (a0.calls.map B2) .none,.list (a0.next.map AU) .none],[.val (.string (⟨#[]⟩:ByteArray)),Ak 0,Ak 0,Ak 0,Ak 0,Ak 0,Ak 0,.val (.string (⟨#[]⟩:ByteArray)),Ak 0,Ak 0,Ak 0,Ak 0,.list ([]) .full,.list ([]) .full,.list ([]) .full,.list ([]) .full,.list ([]) .full,.list ([]) .full,.list ([]) .full,.list ([]) .full],[.list (ag.map Bq) .none]] [(2,aa.length,ad),(7,V.length,ab),(5,t.length,z)] (D6 n a0 aa V t=some r)) ?_ ?_
    ·intro K57 a8
     refine rg [1,2,6,8,9] hs ?_
     apply Ar
     refine Ax (fun m e st=>∃ (D:List (ByteArray × List (ByteArray × Ex))) (q:List Ty) (Y:Int) (b:List Ex) (C:Ev.Own) (G:Ev.Own) (f:Ev.Own),Ck e st B Rw L [(1,true,.box B.length 0),(2,true,.box (B.length+1) 0),(6,true,.list (D.map B2) C),(8,true,.list (q.map Ef) G),(9,true,Ak Y)] [[.val (.string a0.name),Ak a0.kind,Ak a0.schema,Ak a0.result,Ak a0.number,Ak a0.time,Ak a0.limit,.val (.string a0.text),Ak a0.type.kind,Ak a0.type.min,Ak a0.type.max,Ak a0.type.scale,.list (a0.type.words.map JR) .none,.list (a0.type.elem.map Ef) .none,.list (a0.type.fields.map Gn) .none,.list (a0.types.map Ef) .none,.list (b.map Gy) f,.list (a0.mapping.map Bq) .none,.list (a0.calls.map B2) .none,.list (a0.next.map AU) .none],[.val (.string (⟨#[]⟩:ByteArray)),Ak 0,Ak 0,Ak 0,Ak 0,Ak 0,Ak 0,.val (.string (⟨#[]⟩:ByteArray)),Ak 0,Ak 0,Ak 0,Ak 0,.list ([]) .full,.list ([]) .full,.list ([]) .full,.list ([]) .full,.list ([]) .full,.list ([]) .full,.list ([]) .full,.list ([]) .full],[.list (ag.map Bq) .none]] [(2,D.length,C),(7,q.length,G),(5,b.length,f)] (CV n a0 m D q Y b=some r)) n ⟨J,([]),0,i,N,.full,k,([]),Rk38,ef hs,ef hs,Owns.of_eq ((((v).swap (List.Perm.swap _ _ _)).full 7 0).swap ((List.Perm.cons _ (List.Perm.swap _ _ _)).trans (List.Perm.swap _ _ _))) Ey,h⟩ ?_
     rintro ml59 e st ⟨D,q,Y,b,C,G,f,Xl59,Rl59,rfl,rfl,v,h⟩ Ul59 Vl59
     cases ml59 with
     | zero=>cases h
     | succ ml59 =>
     rw [CV] at h
     have hU:=v.unders
     simp only [List.mem_cons,List.not_mem_nil,or_false,forall_eq_or_imp,forall_eq] at hU
     obtain ⟨a3,a6,bd⟩:=hU
     refine td hN ah ai o v ?_
     apply Am;intro K60 ar
     refine rg [1,2,6,8,9,98] hs ?_
     refine F6 h hs ?_ ?_<;>intro hs h
     rotate_left
     ·refine sx [1,2,6,8] hs a8 ?_
      exact ⟨D,q,b,C,G,f,([]),Rl59,ef hs,ef hs,Owns.of_eq ((((v).swap ((List.Perm.cons _ (List.Perm.swap _ _ _)).trans (List.Perm.swap _ _ _))).swap ((List.Perm.cons _ (List.Perm.swap _ _ _)).trans (List.Perm.swap _ _ _))).swap ((List.Perm.cons _ (List.Perm.swap _ _ _)).trans (List.Perm.swap _ _ _))) Ey,h⟩
     refine sk [1,2,6,8,9] hs ar ?_
     clear ar
     apply Am;intro K63 aq
     apply Ar
     obtain ⟨bg,bi,bl,a4,h⟩:=ix Ef h
     obtain ⟨bn,bc,h⟩:=bind_some h
     obtain ⟨au,h⟩:=An h
     have v:=v.swap (List.Perm.swap _ _ _)
     obtain ⟨bf,ao,v,O⟩:=v.append (P:=Tryz.prog) Zcq (by rw [Vx];rfl) (by decide) 1 au.1 au.2
     replace O:=fun (ys:List AV) B L o2=>O (q.map Ef) ys B L o2 Ey
     replace O:=fun (y:AV) B L o2=>O [y] B L o2 Ey ev
     try simp only [List.mem_singleton,List.mem_cons,List.not_mem_nil,or_false,forall_eq_or_imp,forall_eq,List.map_append,List.map_cons,List.map_nil,IX,Iu,Il,IA,Ip,IR,G8,GX,Ir,EP,ES,Hf,Hk,GV,Iz,Hj,IE] at O
     have hs:=Ad a4 hs
     have hs:=Ad O hs
     refine rk 2 [1,2,6,8,9] hs ?_
     refine Aw _ (Gt w0 n _ _ _ bg 4 _ bc) (hv hs) ?_
     refine ne hs aq ?_
     clear aq
     obtain ⟨bt,h⟩:=An h
     refine rl [1,2,6,8,9] hs (fun e s=>Vl59 ml59 e s (Nat.lt_succ_self _)) ?_
     exact ⟨D,(q++([bn])),(Y+1),b,C,bf,f,([]),ao,ef hs,ef hs,Owns.of_eq ((((v).swap ((List.Perm.cons _ (List.Perm.swap _ _ _)).trans (List.Perm.swap _ _ _))).swap (List.Perm.swap _ _ _)).swap ((List.Perm.cons _ (List.Perm.swap _ _ _)).trans (List.Perm.swap _ _ _))) Ey,h⟩
    ·clear h;rintro e st ⟨aa,V,t,ad,ab,z,Xk56,Rk56,rfl,rfl,v,h⟩
     rw [D6] at h
     have hU:=v.unders
     simp only [List.mem_cons,List.not_mem_nil,or_false,forall_eq_or_imp,forall_eq] at hU
     obtain ⟨a3,a6,bd⟩:=hU
     refine td hN ah ai o v ?_
     apply Am;intro K71 a2
     obtain ⟨bu,av,h⟩:=bind_some h
     obtain ⟨F,a1,h⟩:=bind_some h
     apply Lj PQ [9,11,13,15] [3,6] [1,2] kr (fun s=>∃ (X:Ao) (rows:Au) (c0:List AV),s=⟨B++([c0,[.val (.string (⟨#[]⟩:ByteArray)),Ak 0,Ak 0,Ak 0,Ak 0,Ak 0,Ak 0,.val (.string (⟨#[]⟩:ByteArray)),Ak 0,Ak 0,Ak 0,Ak 0,.list ([]) .full,.list ([]) .full,.list ([]) .full,.list ([]) .full,.list ([]) .full,.list ([]) .full,.list ([]) .full,.list ([]) .full],[.list (ag.map Bq) .none]]++X),rows,L⟩) 5 (B.length+3)
     ·simp +decide only [go_sem,Nat.reduceAdd]
     ·refine ⟨3,?_⟩
      rw [Ap];simp +decide only [go_sem,Nat.reduceAdd,Bj,Ty.cs_eqs a0.type,Ty.cs_eqs F]
      have hs:=Ad (Ty.cs_eqs F) hs
      (repeat' apply Ad)<;>first | refine Aw _ (H8 w0 n _ _ _ a0.mapping _ av) (hv hs) ?_ | exact cl
      rw [Ap];simp +decide only [go_sem,Nat.reduceAdd,Ty.cs_eqs a0.type,Ty.cs_eqs F]
      (repeat' apply Ad)<;>first | refine Aw _ (Gt w0 n _ _ _ a0.type 4 _ a1) (hv hs) ?_ | exact cl
      rw [Ap];simp +decide only [go_sem,Nat.reduceAdd,Ty.cs_eqs a0.type,Ty.cs_eqs F]
      (repeat' apply Ad)<;>first | rfl | exact cl
     ·rintro s ⟨X,rows,c0,rfl⟩
      refine ⟨3,?_⟩
      rw [Ap];simp +decide only [go_sem,Nat.reduceAdd,Bj,List.append_eq,List.cons_append,List.nil_append,Ty.cs_eqs a0.type,Ty.cs_eqs F]
      have hs:=Ad (Ty.cs_eqs F) hs
      (repeat' apply Ad)<;>first | refine Aw _ (H8 w0 n _ _ _ a0.mapping _ av) (hv hs) ?_ | exact cl
      rw [Ap];simp +decide only [go_sem,Nat.reduceAdd,Ty.cs_eqs a0.type,Ty.cs_eqs F]
      (repeat' apply Ad)<;>first | refine Aw _ (Gt w0 n _ _ _ a0.type 4 _ a1) (hv hs) ?_ | exact cl
      rw [Ap];simp +decide only [go_sem,Nat.reduceAdd,Ty.cs_eqs a0.type,Ty.cs_eqs F]
      (repeat' apply Ad)<;>first | rfl | ((repeat (first | exact .nil | refine .cons (ef hs) ?_));done) | exact cl
     ·exact gd (tg (a:=(9,11,13,15,[1,2]))) (Ad (Ty.cs_eqs F) (Ad (Ty.cs_eqs a0.type) hs))
     simp +decide only [go_sem,Nat.reduceAdd,Ty.cs_eqs a0.type,Ty.cs_eqs F]
     (repeat' apply Ad)<;>first | refine a2 _ _ ?_ | exact cl
     clear a2
     apply Am;intro K74 ay
     obtain ⟨br,h⟩:=An h
     obtain ⟨bq,h⟩:=An h
     obtain ⟨bs,h⟩:=An h
     apply Lj PQ [22,24,26] [1,3,8,10,15,17] [1,2] kr (fun s=>∃ (X:Ao) (rows:Au) (c0:List AV),s=⟨B++([c0,[.val (.string (⟨#[]⟩:ByteArray)),Ak 0,Ak 0,Ak 0,Ak 0,Ak 0,Ak 0,.val (.string (⟨#[]⟩:ByteArray)),Ak 0,Ak 0,Ak 0,Ak 0,.list ([]) .full,.list ([]) .full,.list ([]) .full,.list ([]) .full,.list ([]) .full,.list ([]) .full,.list ([]) .full,.list ([]) .full],[.list (ag.map Bq) .none]]++X),rows,L⟩) 4 (B.length+3)
     ·simp +decide only [go_sem,Nat.reduceAdd]
     ·refine ⟨1,?_⟩
      rw [Ap];simp +decide only [go_sem,Nat.reduceAdd,Bj,Ty.cs_eqs a0.type,Ty.cs_eqs F]
      (repeat' apply Ad)<;>first | rfl | exact cl
     ·rintro s ⟨X,rows,c0,rfl⟩
      refine ⟨1,?_⟩
      rw [Ap];simp +decide only [go_sem,Nat.reduceAdd,Bj,List.append_eq,List.cons_append,List.nil_append,Ty.cs_eqs a0.type,Ty.cs_eqs F]
      have hs:=Ad (Ty.cs_eqs F) hs
      (repeat' apply Ad)<;>first | rfl | ((repeat (first | exact .nil | refine .cons (ef hs) ?_));done) | exact cl
     ·exact gd (tg (a:=(22,24,26,[1,2]))) (Ad (Ty.cs_eqs F) (Ad (Ty.cs_eqs a0.type) hs))
     simp +decide only [go_sem,Nat.reduceAdd,Ty.cs_eqs a0.type,Ty.cs_eqs F]
     (repeat' apply Ad)<;>first | refine ay _ _ ?_ | exact cl
     clear ay
     have hs:=Ad (Ty.cs_eqs F) hs
     refine rg [2] hs ?_
     exact rt h hs o v
def DJ (m:Msg):Prop:=m.stamp.2.length≤6∧m.origins.length≤6∧m.body.size≤22621∧m.body.ok
def HA (s:Slt):Prop:=(s.key.size≤22621∧s.key.ok)∧(s.items.length≤4∧∀ m∈s.items,DJ m)∧s.values.length≤4∧∀ v∈s.values,v.size≤22621∧v.ok
def GK (s:Stt):Prop:=s.slots.length≤6∧∀ x∈s.slots,HA x
theorem X5 {α:Type} (l:List α):(0:Nat)≤0∧(0:Int)≤(if 6<(l.length:Int) then 6 else (l.length:Int))∧(if 6<(l.length:Int) then 6 else (l.length:Int))≤(l.length:Int):=by
 refine ⟨Nat.le_refl _,?_,?_⟩<;>split<;>omega
theorem XP {α:Type} (l:List α):(l.take ((if 6<(l.length:Int) then 6 else (l.length:Int))).toNat).length≤6:=by
 rw [List.length_take];split<;>omega
theorem TC (n:Nat) (hn:100≤n) (m:Msg):∃ w,CB n m=some w∧DJ w:=by
 obtain ⟨v,e,a,c⟩:=HG 4 n m.body (by omega) (by omega)
 have e:AD n m.body 5=some v:=e
 have a:v.size≤22621:=a
 have b:=XP m.stamp.2
 have d:=XP m.origins
 rw [CB,Ah (X5 _),Ab,Ah (X5 _),Ab,e,Ae]
 exact ⟨_,rfl,b,d,a,c⟩
theorem Zdx (n:Nat) (hn:100≤n) (ag:List Slt→Int→Option Stt) (j:Nat) (hj:j≤5) (x:Slt) (y:Vl) (hy:y.size≤22621∧y.ok) (f:List Slt) (hf:f.length≤5) (b8:List Msg) (h8:b8.length≤4∧∀ m∈b8,DJ m) (hag:∀ s,HA s→∃ w,ag (f++[s]) ((j:Int)+1)=some w∧GK w) :
  ∀ (m k i:Nat) (b9:List Vl),i+k=4→k<m→b9.length=i→(∀ v∈b9,v.size≤22621∧v.ok)→∃ w,CC n ag (j:Int) x y m f (i:Int) b8 b9=some w∧GK w
 | 0,k,i,_,_,h,_,_=>absurd h (Nat.not_lt_zero _)
 | m+1,k,i,b9,hi,hm,h9,hp=>by
  rw [CC]
  by_cases c:((decide ((i:Int)<(x.values.length:Int)))&&(decide ((i:Int)<4)))=true
  ·rw [Ah c]
   simp only [Bool.and_eq_true,decide_eq_true_eq] at c
   obtain ⟨l,g⟩:=c
   have a:i<x.values.length:=by omega
   obtain ⟨v,e,b,d⟩:=HG 3 n x.values[i] (by omega) (by omega)
   have e:AD n x.values[i] 4=some v:=e
   have b:v.size≤1885:=b
   obtain ⟨k,rfl⟩:∃ q,k=q+1:=⟨k-1,by omega⟩
   rw [AH a,Ae,e,Ae,Ab,Ah (AG (by omega))]
   exact Zdx n hn ag j hj x y hy f hf b8 h8 hag m k (i+1) _ (by omega) (by omega) (by rw [Dz];omega) (Ee hp ⟨by omega,d⟩)
  ·rw [Ai c,EK,Ab,EC,Ah (AG (by omega))]
   exact hag _ ⟨hy,h8,by simp only;omega,hp⟩
theorem ZdM (n:Nat) (hn:100≤n) (ag:List Slt→Int→Option Stt) (j:Nat) (hj:j≤5) (x:Slt) (y:Vl) (hy:y.size≤22621∧y.ok) (f:List Slt) (hf:f.length≤5) (hag:∀ s,HA s→∃ w,ag (f++[s]) ((j:Int)+1)=some w∧GK w) :
  ∀ (m k i:Nat) (b8:List Msg),i+k=4→k<m→b8.length=i→(∀ m∈b8,DJ m)→∃ w,Cj n ag (j:Int) x y m f (i:Int) b8=some w∧GK w
 | 0,k,i,_,_,h,_,_=>absurd h (Nat.not_lt_zero _)
 | m+1,k,i,b8,hi,hm,h8,hp=>by
  rw [Cj]
  by_cases c:((decide ((i:Int)<(x.items.length:Int)))&&(decide ((i:Int)<4)))=true
  ·rw [Ah c]
   simp only [Bool.and_eq_true,decide_eq_true_eq] at c
   obtain ⟨d,g⟩:=c
   have a:i<x.items.length:=by omega
   obtain ⟨v,e,b⟩:=TC n hn x.items[i]
   obtain ⟨k,rfl⟩:∃ q,k=q+1:=⟨k-1,by omega⟩
   rw [AH a,Ae,e,Ae,Ab,Ah (AG (by omega))]
   exact ZdM n hn ag j hj x y hy f hf hag m k (i+1) _ (by omega) (by omega) (by rw [Dz];omega) (Ee hp b)
  ·rw [Ai c,EE]
   exact Zdx n hn ag j hj x y hy f hf b8 ⟨by omega,hp⟩ hag n 4 0 [] (by omega) (by omega) rfl (by simp)
theorem Zhf (n:Nat) (hn:100≤n) (a:Stt):∀ (m k i:Nat) (f:List Slt),i+k=6→k<m→f.length=i→(∀ x∈f,HA x)→∃ w,A7 n a m f (i:Int)=some w∧GK w
 | 0,k,i,_,_,h,_,_=>absurd h (Nat.not_lt_zero _)
 | m+1,k,i,f,hi,hm,hf,hp=>by
  rw [A7]
  by_cases c:((decide ((i:Int)<(a.slots.length:Int)))&&(decide ((i:Int)<6)))=true
  ·rw [Ah c]
   simp only [Bool.and_eq_true,decide_eq_true_eq] at c
   obtain ⟨l,j⟩:=c
   have b:i<a.slots.length:=by omega
   obtain ⟨v,e,d,g⟩:=HG 2 n a.slots[i].key (by omega) (by omega)
   have e:AD n a.slots[i].key 3=some v:=e
   have d:v.size≤157:=d
   obtain ⟨k,rfl⟩:∃ q,k=q+1:=⟨k-1,by omega⟩
   rw [AH b,Ae,e,Ae]
   exact ZdM n hn _ i (by omega) _ v ⟨by omega,g⟩ f (by omega) (fun s hs=>Zhf n hn a m k (i+1) _ (by omega) (by omega) (by rw [Dz];omega) (Ee hp hs)) n 4 0 [] (by omega) (by omega) rfl (by simp)
  ·rw [Ai c,E6]
   exact ⟨_,rfl,by simp only;omega,hp⟩
theorem ZZ (n:Nat) (hn:100≤n) (a:Stt):∃ w,FZ n a=some w∧GK w:=Zhf n hn a n 6 0 [] (by omega) (by omega) rfl (by simp)
def M8 (y:Nod):Prop:=y.calls.length≤4∧(∀ c∈y.calls,c.1.size≤60∧MV c.2)∧y.types.length≤8∧(∀ t∈y.types,Nw 585 4 t)∧MV y.mapping∧Nw 585 4 y.type∧y.name.size≤60
theorem ZlW {α:Type} (l:List α):(0:Nat)≤0∧(0:Int)≤(if 70<(l.length:Int) then 70 else (l.length:Int))∧(if 70<(l.length:Int) then 70 else (l.length:Int))≤(l.length:Int):=by
 refine ⟨Nat.le_refl _,?_,?_⟩<;>split<;>omega
theorem WQ (n:Nat) (hn:100≤n) (t:Ty):∃ w,BD n t 4=some w∧Nw 585 4 w:=by
 obtain ⟨w,e,h⟩:=SY 3 n t (by omega) (by omega)
 exact ⟨w,e,h⟩
theorem ZjM (n:Nat) (hn:100≤n) (a:Nod) (cs:List (ByteArray × List (ByteArray × Ex))) (ts:List Ty) (es:List Ex) (hc:cs.length≤4∧∀ c∈cs,c.1.size≤60∧MV c.2) (ht:ts.length≤8∧∀ t∈ts,Nw 585 4 t):∃ w,D6 n a cs ts es=some w∧M8 w:=by
 obtain ⟨m,e1,b⟩:=QW n (by omega) a.mapping
 obtain ⟨t,e,d⟩:=WQ n hn a.type
 have f:=Lm a.name (c:=60) (by decide)
 rw [D6,e1,Ae,e,Ae,Ah (Ls _ (by decide)),Ah (Ls _ (by decide)),Ah (ZlW _)]
 exact ⟨_,rfl,hc.1,hc.2,ht.1,ht.2,b,d,by simp only;omega⟩
theorem Zcb (n:Nat) (hn:100≤n) (a:Nod) (cs:List (ByteArray × List (ByteArray × Ex))) (es:List Ex) (hc:cs.length≤4∧∀ c∈cs,c.1.size≤60∧MV c.2) :
  ∀ (m k i:Nat) (ts:List Ty),i+k=8→k<m→ts.length=i→(∀ t∈ts,Nw 585 4 t)→∃ w,CV n a m cs ts (i:Int) es=some w∧M8 w
 | 0,k,i,_,_,h,_,_=>absurd h (Nat.not_lt_zero _)
 | m+1,k,i,ts,hi,hm,ht,hp=>by
  rw [CV]
  by_cases c:((decide ((i:Int)<(a.types.length:Int)))&&(decide ((i:Int)<8)))=true
  ·rw [Ah c]
   simp only [Bool.and_eq_true,decide_eq_true_eq] at c
   obtain ⟨f,g⟩:=c
   have b:i<a.types.length:=by omega
   obtain ⟨t,e,d⟩:=WQ n hn a.types[i]
   obtain ⟨k,rfl⟩:∃ q,k=q+1:=⟨k-1,by omega⟩
   rw [AH b,Ae,e,Ae,Ab,Ah (AG (by omega))]
   exact Zcb n hn a cs es hc m k (i+1) _ (by omega) (by omega) (by rw [Dz];omega) (Ee hp d)
  ·rw [Ai c]
   exact ZjM n hn a cs ts es hc ⟨by omega,hp⟩
theorem Zds (n:Nat) (hn:100≤n) (a:Nod) (es:List Ex) :
  ∀ (m k i:Nat) (cs:List (ByteArray × List (ByteArray × Ex))),i+k=4→k<m→cs.length=i→(∀ c∈cs,c.1.size≤60∧MV c.2)→∃ w,CQ n a m cs (i:Int) es=some w∧M8 w
 | 0,k,i,_,_,h,_,_=>absurd h (Nat.not_lt_zero _)
 | m+1,k,i,cs,hi,hm,ht,hp=>by
  rw [CQ]
  by_cases c:((decide ((i:Int)<(a.calls.length:Int)))&&(decide ((i:Int)<4)))=true
  ·rw [Ah c]
   simp only [Bool.and_eq_true,decide_eq_true_eq] at c
   obtain ⟨j,f⟩:=c
   have b:i<a.calls.length:=by omega
   obtain ⟨t,e,d⟩:=QW n (by omega) a.calls[i].2
   have g:=Lm a.calls[i].1 (c:=60) (by decide)
   obtain ⟨k,rfl⟩:∃ q,k=q+1:=⟨k-1,by omega⟩
   rw [AH b,Ae,Ah (Ls _ (by decide)),e,Ae,Ab,Ah (AG (by omega))]
   exact Zds n hn a es m k (i+1) _ (by omega) (by omega) (by rw [Dz];omega) (Ee hp ⟨by simp only;omega,d⟩)
  ·rw [Ai c,E8]
   exact Zcb n hn a cs es ⟨by omega,hp⟩ n 8 0 [] (by omega) (by omega) rfl (by simp)
theorem Zc9 (n:Nat) (hn:100≤n) (a:Nod) (y:List (ByteArray × Ex)) (hy:y.length≤8) :
  ∀ (m k i:Nat) (es:List Ex),i+k=8→k<m→es.length=i→∃ w,CU n a y m (i:Int) es=some w∧M8 w
 | 0,k,i,_,_,h,_=>absurd h (Nat.not_lt_zero _)
 | m+1,k,i,es,hi,hm,ht=>by
  rw [CU]
  by_cases c:i<y.length
  ·rw [AX,Ag c,Ah rfl]
   obtain ⟨k,rfl⟩:∃ q,k=q+1:=⟨k-1,by omega⟩
   rw [AH c,Ae,Ab,Ah (AG (by omega))]
   exact Zc9 n hn a y hy m k (i+1) _ (by omega) (by omega) (by rw [Dz];omega)
  ·rw [AX,Af c,Ai (by decide),E4]
   exact Zds n hn a es n 4 0 [] (by omega) (by omega) rfl (by simp)
theorem Zh3 (n:Nat) (hn:100≤n) (a:Nod) :
  ∀ (m k i:Nat) (es:List (ByteArray × Ex)),i+k=4→k<m→es.length=i→∃ w,Dp n a m (i:Int) es=some w∧M8 w
 | 0,k,i,_,_,h,_=>absurd h (Nat.not_lt_zero _)
 | m+1,k,i,es,hi,hm,ht=>by
  rw [Dp]
  by_cases c:((decide ((i:Int)<(a.exprs.length:Int)))&&(decide ((i:Int)<4)))=true
  ·rw [Ah c]
   simp only [Bool.and_eq_true,decide_eq_true_eq] at c
   obtain ⟨d,f⟩:=c
   have b:i<a.exprs.length:=by omega
   obtain ⟨k,rfl⟩:∃ q,k=q+1:=⟨k-1,by omega⟩
   rw [AH b,Ae,Ab,Ah (AG (by omega))]
   exact Zh3 n hn a m k (i+1) _ (by omega) (by omega) (by rw [Dz];omega)
  ·rw [Ai c,F3]
   obtain ⟨y,e,h⟩:=QW n (by omega) es
   rw [e,Ae]
   exact Zc9 n hn a y h.1 n 8 0 [] (by omega) (by omega) rfl
theorem Zae (n:Nat) (hn:100≤n) (a:Nod):∃ w,Gs n a=some w∧M8 w:=Zh3 n hn a n 4 0 [] (by omega) (by omega) rfl
theorem Zjr {a b:ByteArray} (h:a.data.toList=b.data.toList):a=b:=by
 cases a;cases b;simp at h;rw [h]
theorem Y2:∀ a b:List UInt8,Lib.compareBytes a b=0→a=b
 | [],[],_=>rfl
 | [],_::_,h=>absurd (show (-1:Int)=0 from h) (by decide)
 | _::_,[],h=>absurd (show (1:Int)=0 from h) (by decide)
 | x::a,y::b,h=>by
  simp only [Lib.compareBytes] at h
  by_cases h1:x<y
  ·simp [h1] at h
  ·by_cases h2:y<x
   ·simp [h1,h2] at h
   ·simp only [h1,h2,if_false] at h
    rw [Y2 a b h]
    have:x=y:=by
     rw [UInt8.lt_iff_toNat_lt] at h1 h2
     exact UInt8.toNat_inj.1 (by omega)
    rw [this]
theorem TI (a b:ByteArray):Uu a b=0↔a=b:=by
 unfold Uu
 constructor
 ·intro h;exact Zjr (Y2 _ _ h)
 ·rintro rfl;exact YE _
theorem LD {α:Type} (l m:List α) (i:Nat) (h1:i<l.length) (h2:i<m.length):l.drop i=m.drop i↔l[i]=m[i]∧l.drop (i+1)=m.drop (i+1):=by
 rw [List.drop_eq_getElem_cons h1,List.drop_eq_getElem_cons h2,List.cons.injEq]
theorem Zda {n:Nat} (h:n≤1048576):n≤maxLen:=by unfold maxLen;omega
theorem Vl.ext' {a b:Vl} (h1:a.kind=b.kind) (h2:a.int=b.int) (h3:a.scale=b.scale) (h4:a.text=b.text) (h5:a.list=b.list) (h6:a.fields=b.fields):a=b:=by
 rw [←a.eta,←b.eta,h1,h2,h3,h4,h5,h6]
theorem TF.ext' {p q:TF} (h1:p.1=q.1) (h2:p.2.1=q.2.1) (h3:p.2.2.1=q.2.2.1) (h4:p.2.2.2.1=q.2.2.2.1) (h5:p.2.2.2.2=q.2.2.2.2):p=q:=by
 obtain ⟨a,b,c,d,e⟩:=p
 obtain ⟨i,g,j,f,h⟩:=q
 simp only at h1 h2 h3 h4 h5
 rw [h1,h2,h3,h4,h5]
theorem Ty.ext' {a b:Ty} (h1:a.kind=b.kind) (h2:a.min=b.min) (h3:a.max=b.max) (h4:a.scale=b.scale) (h5:a.words=b.words) (h6:a.elem=b.elem) (h7:a.fields=b.fields):a=b:=by
 rw [←a.eta,←b.eta,h1,h2,h3,h4,h5,h6,h7]
def B9 (b:Vl):Bool :=
 (((((decide (b.kind=0))&&(decide (b.int=0)))&&(decide (b.scale=0)))&&(NB b.text (⟨#[]⟩:ByteArray)))&&(decide ((b.list.length:Int)=0)))&&(decide ((b.fields.length:Int)=0))
theorem WE (w0:World) (B:Ao) (Rw:Au) (L:As) (a0:Vl) (r:Bool) (h:B9 a0=r) :
  ACalls Tryz.prog w0 47 [.agg (a0.cs)] ⟨B,Rw,L⟩ fun x st=>x = .val (.bool r)∧st=⟨B,Rw,L⟩:=by
 rw [B9] at h
 refine hd [.tmp 2] Tryz.func47 Tryz.ntmps47 fun M0 W0 e b c a f d hs=>?_
 simp only [Az]
 refine rg [1] hs ?_
 refine rg [2] hs ?_
 exact rT h hs a d
theorem KC (w0:World) (B:Ao) (Rw:Au) (L:As) (a0:Vl) :
  ACalls Tryz.prog w0 47 [.agg (a0.cs)] ⟨B,Rw,L⟩ fun x st=>x = .val (.bool (B9 a0))∧st=⟨B,Rw,L⟩:=WE w0 B Rw L a0 _ rfl
def BR (b:Int) (q:Int) (h:Int):Int :=
 if (decide (b<q))||(decide (h<b)) then
  2
 else
  0
theorem UJ (w0:World) (B:Ao) (Rw:Au) (L:As) (a0:Int) (a1:Int) (a2:Int) (r:Int) (h:BR a0 a1 a2=r) :
  ACalls Tryz.prog w0 109 [Ak a0,Ak a1,Ak a2] ⟨B,Rw,L⟩ fun x st=>x=Ak r∧st=⟨B,Rw,L⟩:=by
 rw [BR] at h
 refine hd [.tmp 6] Tryz.func109 Tryz.ntmps109 fun M0 W0 e c d b g f hs=>?_
 simp only [Az]
 exact go (tg (a:=([0,1,2],[14],([6],()),[],[6],()))) h hs e c d b f trivial trivial
theorem Gl (w0:World) (B:Ao) (Rw:Au) (L:As) (a0:Int) (a1:Int) (a2:Int) :
  ACalls Tryz.prog w0 109 [Ak a0,Ak a1,Ak a2] ⟨B,Rw,L⟩ fun x st=>x=Ak (BR a0 a1 a2)∧st=⟨B,Rw,L⟩:=UJ w0 B Rw L a0 a1 a2 _ rfl
def FC (b:Vl):Int :=
 BR b.int 0 1
theorem TS (w0:World) (B:Ao) (Rw:Au) (L:As) (a0:Vl) (r:Int) (h:FC a0=r) :
  ACalls Tryz.prog w0 108 [.agg (a0.cs)] ⟨B,Rw,L⟩ fun x st=>x=Ak r∧st=⟨B,Rw,L⟩:=by
 rw [FC] at h
 refine hd [.tmp 2] Tryz.func108 Tryz.ntmps108 fun M0 W0 e c d b g f hs=>?_
 simp only [Az]
 exact go (tg (a:=([1],[2],()))) h hs e c d b f (q1 (Gl w0)) trivial
theorem Sl (w0:World) (B:Ao) (Rw:Au) (L:As) (a0:Vl) :
  ACalls Tryz.prog w0 108 [.agg (a0.cs)] ⟨B,Rw,L⟩ fun x st=>x=Ak (FC a0)∧st=⟨B,Rw,L⟩:=TS w0 B Rw L a0 _ rfl
def CM (q:Int) (h:Int) (b:Int):Int :=
 if decide (h<q) then
  b
 else
  0
theorem Zaf (w0:World) (B:Ao) (Rw:Au) (L:As) (a0:Int) (a1:Int) (a2:Int) (r:Int) (h:CM a0 a1 a2=r) :
  ACalls Tryz.prog w0 114 [Ak a0,Ak a1,Ak a2] ⟨B,Rw,L⟩ fun x st=>x=Ak r∧st=⟨B,Rw,L⟩:=by
 rw [CM] at h
 refine hd [.tmp 6] Tryz.func114 Tryz.ntmps114 fun M0 W0 e c d b g f hs=>?_
 simp only [Az]
 exact go (tg (a:=([0,1,2],[2,9],([6],()),[],[6],()))) h hs e c d b f trivial trivial
theorem IM (w0:World) (B:Ao) (Rw:Au) (L:As) (a0:Int) (a1:Int) (a2:Int) :
  ACalls Tryz.prog w0 114 [Ak a0,Ak a1,Ak a2] ⟨B,Rw,L⟩ fun x st=>x=Ak (CM a0 a1 a2)∧st=⟨B,Rw,L⟩:=Zaf w0 B Rw L a0 a1 a2 _ rfl
def G5 (b:Vl):Option Int :=
 if b.text.size≤maxLen then
  if !(JE b.text) then
   some (12)
  else
   if decide ((b.list.length:Int)=0) then
    some (4)
   else
    some (CM (b.list.length:Int) 1 3)
 else none
theorem RV (w0:World) (B:Ao) (Rw:Au) (L:As) (a0:Vl) (r:Int) (h:G5 a0=some r) :
  ACalls Tryz.prog w0 122 [.agg (a0.cs)] ⟨B,Rw,L⟩ fun x st=>x=Ak r∧st=⟨B,Rw,L⟩:=by
 rw [G5] at h
 refine hd [.tmp 2] Tryz.func122 Tryz.ntmps122 fun M0 W0 e c d b g f hs=>?_
 simp only [Az]
 exact go (tg (a:=([1],[1,3],([2],()),[1,8],([2],()),[1],[2],()))) h hs e c d b f (q2 (TE w0) (IM w0)) trivial
def Ft (b:Vl):Int :=
 BR b.int ((-999999999999999)) 999999999999999
theorem TU (w0:World) (B:Ao) (Rw:Au) (L:As) (a0:Vl) (r:Int) (h:Ft a0=r) :
  ACalls Tryz.prog w0 110 [.agg (a0.cs)] ⟨B,Rw,L⟩ fun x st=>x=Ak r∧st=⟨B,Rw,L⟩:=by
 rw [Ft] at h
 refine hd [.tmp 2] Tryz.func110 Tryz.ntmps110 fun M0 W0 e c d b g f hs=>?_
 simp only [Az]
 exact go (tg (a:=([1],[2],()))) h hs e c d b f (q1 (Gl w0)) trivial
theorem Sv (w0:World) (B:Ao) (Rw:Au) (L:As) (a0:Vl) :
  ACalls Tryz.prog w0 110 [.agg (a0.cs)] ⟨B,Rw,L⟩ fun x st=>x=Ak (Ft a0)∧st=⟨B,Rw,L⟩:=TU w0 B Rw L a0 _ rfl
def Kv (n:Nat)  : Option Int :=
 some (0)
def GF (n:Nat) (q:List Int):Nat→Int→Option Int
 | 0,_=>none
 | m+1,b =>
  if decide (b<(q.length:Int)) then
   (EA q b).bind fun h =>
   if !(decide (h=0)) then
    some (h)
   else
    if Ba (b+1) then
     (GF n q m) (b+1)
    else none
  else
   Kv n 
def JS (n:Nat) (b:List Int):Option Int :=
 GF n b n 0
theorem Xz (w0:World) (n:Nat) (B:Ao) (Rw:Au) (L:As) (a0:List Int) (r:Int) (h:JS n a0=some r) :
  ACalls Tryz.prog w0 112 [.list (a0.map AU) .none] ⟨B,Rw,L⟩ fun x st=>x=Ak r∧st=⟨B,Rw,L⟩:=by
 rw [JS] at h
 refine hd [.tmp 2] Tryz.func112 Tryz.ntmps112 fun M0 W0 j f g b k d hs=>?_
 simp only [Az]
 refine rg [0] hs ?_
 refine AB (fun e st=>Ck e st B Rw L [] [] [] (Kv n  = some r)) ?_ ?_
 ·intro K4 i
  refine rg [5,6,7] hs ?_
  apply Ar
  refine Ax (fun m e st=>∃ (c:Int),Ck e st B Rw L [(5,true,.list (a0.map AU) .none),(6,true,Ak (a0.length:Int)),(7,true,Ak c)] [] [] (GF n a0 m c=some r)) n ⟨0,([]),Rw,ef hs,ef hs,d,h⟩ ?_
  rintro ml6 e st ⟨c,Xl6,Rl6,rfl,rfl,d,h⟩ Ul6 Vl6
  cases ml6 with
  | zero=>cases h
  | succ ml6 =>
  rw [GF] at h
  exact go (tg (a:=([5,6,7,8],([5,6,7],[4,5,6,7],[4,5,6,7,12],([2],()),[5,6,7],[5,6,7],()),[],()))) h hs j f g b d trivial (q2 i (fun e s=>Vl6 ml6 e s (Nat.lt_succ_self _)))
 ·clear h;rintro e st ⟨Xk3,Rk3,rfl,rfl,d,h⟩
  rw [Kv] at h
  refine td j f g b d ?_
  refine rg [2] hs ?_
  exact rt h hs b d
def HS (n:Nat) (b:Vl):Option Int :=
 (JS n ([BR b.int ((-999999999999999)) 999999999999999,BR b.scale 0 12])).bind fun h =>
 some (h)
theorem TV (w0:World) (n:Nat) (B:Ao) (Rw:Au) (L:As) (a0:Vl) (r:Int) (h:HS n a0=some r) :
  ACalls Tryz.prog w0 111 [.agg (a0.cs)] ⟨B,Rw,L⟩ fun x st=>x=Ak r∧st=⟨B,Rw,L⟩:=by
 rw [HS] at h
 refine hd [.tmp 2] Tryz.func111 Tryz.ntmps111 fun M0 W0 e c d b g f hs=>?_
 simp only [Az]
 exact go (tg (a:=([1],[9,2],()))) h hs e c d b f (q2 (Gl w0) (Xz w0 n)) trivial
def F2  (b:Int):Option Int :=
 some (b)
def HO (b:Vl):Option Int :=
 if decide ((CM (b.text.size:Int) 1024 5)=0) then
  if b.text.size≤maxLen then
   if !(Lib.validD b.text.data.toList) then
    F2  16
   else
    F2  (CM (b.text.size:Int) 1024 5)
  else none
 else
  F2  (CM (b.text.size:Int) 1024 5)
theorem Ue (w0:World) (hT:Lib.Utf8Tabs 1 2 w0) (B:Ao) (Rw:Au) (L:As) (a0:Vl) (r:Int) (h:HO a0=some r) :
  ACalls Tryz.prog w0 113 [.agg (a0.cs)] ⟨B,Rw,L⟩ fun x st=>x=Ak r∧st=⟨B,Rw,L⟩:=by
 rw [HO] at h
 refine hd [.tmp 2] Tryz.func113 Tryz.ntmps113 fun M0 W0 k d f b l i hs=>?_
 simp only [Az]
 refine rg [1] hs ?_
 refine rc 2 [1,3] hs ?_;intro K2 g
 refine Aw _ (IM w0 _ _ _ (a0.text.size:Int) 1024 5) (hv hs) ?_
 refine ne hs g ?_
 clear g
 refine AB (fun e st=>∃ (c:Int),Ck e st B Rw L [(3,true,Ak c)] [a0.cs] [] (F2  c=some r)) ?_ ?_
 ·intro K5 j
  exact go (tg (a:=(([3,15],([3],()),[3],()),[3,15],[3],()))) h hs k d f b i (q1 (Qw w0)) (q1 j)
 ·clear h;rintro e st ⟨c,Xk4,Rk4,rfl,rfl,i,h⟩
  rw [F2] at h
  refine td k d f b i ?_
  refine rg [2] hs ?_
  exact rt h hs b i
def Fz (b:Vl):Int :=
 CM (b.text.size:Int) 1024 5
theorem TM (w0:World) (B:Ao) (Rw:Au) (L:As) (a0:Vl) (r:Int) (h:Fz a0=r) :
  ACalls Tryz.prog w0 116 [.agg (a0.cs)] ⟨B,Rw,L⟩ fun x st=>x=Ak r∧st=⟨B,Rw,L⟩:=by
 rw [Fz] at h
 refine hd [.tmp 2] Tryz.func116 Tryz.ntmps116 fun M0 W0 e c d b g f hs=>?_
 simp only [Az]
 exact go (tg (a:=([1],[2],()))) h hs e c d b f (q1 (IM w0)) trivial
theorem Ss (w0:World) (B:Ao) (Rw:Au) (L:As) (a0:Vl) :
  ACalls Tryz.prog w0 116 [.agg (a0.cs)] ⟨B,Rw,L⟩ fun x st=>x=Ak (Fz a0)∧st=⟨B,Rw,L⟩:=TM w0 B Rw L a0 _ rfl
def Fj (b:Vl):Int :=
 BR b.int ((-719162)) 2932896
theorem U5 (w0:World) (B:Ao) (Rw:Au) (L:As) (a0:Vl) (r:Int) (h:Fj a0=r) :
  ACalls Tryz.prog w0 117 [.agg (a0.cs)] ⟨B,Rw,L⟩ fun x st=>x=Ak r∧st=⟨B,Rw,L⟩:=by
 rw [Fj] at h
 refine hd [.tmp 2] Tryz.func117 Tryz.ntmps117 fun M0 W0 e c d b g f hs=>?_
 simp only [Az]
 exact go (tg (a:=([1],[2],()))) h hs e c d b f (q1 (Gl w0)) trivial
theorem R2 (w0:World) (B:Ao) (Rw:Au) (L:As) (a0:Vl) :
  ACalls Tryz.prog w0 117 [.agg (a0.cs)] ⟨B,Rw,L⟩ fun x st=>x=Ak (Fj a0)∧st=⟨B,Rw,L⟩:=U5 w0 B Rw L a0 _ rfl
def Fo (b:Vl):Int :=
 BR b.int ((-62135596800000)) 253402300799999
theorem Uc (w0:World) (B:Ao) (Rw:Au) (L:As) (a0:Vl) (r:Int) (h:Fo a0=r) :
  ACalls Tryz.prog w0 118 [.agg (a0.cs)] ⟨B,Rw,L⟩ fun x st=>x=Ak r∧st=⟨B,Rw,L⟩:=by
 rw [Fo] at h
 refine hd [.tmp 2] Tryz.func118 Tryz.ntmps118 fun M0 W0 e c d b g f hs=>?_
 simp only [Az]
 exact go (tg (a:=([1],[2],()))) h hs e c d b f (q1 (Gl w0)) trivial
theorem RY (w0:World) (B:Ao) (Rw:Au) (L:As) (a0:Vl) :
  ACalls Tryz.prog w0 118 [.agg (a0.cs)] ⟨B,Rw,L⟩ fun x st=>x=Ak (Fo a0)∧st=⟨B,Rw,L⟩:=Uc w0 B Rw L a0 _ rfl
def Fh (b:Vl):Int :=
 CM (b.list.length:Int) 256 9
theorem Up (w0:World) (B:Ao) (Rw:Au) (L:As) (a0:Vl) (r:Int) (h:Fh a0=r) :
  ACalls Tryz.prog w0 119 [.agg (a0.cs)] ⟨B,Rw,L⟩ fun x st=>x=Ak r∧st=⟨B,Rw,L⟩:=by
 rw [Fh] at h
 refine hd [.tmp 2] Tryz.func119 Tryz.ntmps119 fun M0 W0 e c d b g f hs=>?_
 simp only [Az]
 exact go (tg (a:=([1],[2],()))) h hs e c d b f (q1 (IM w0)) trivial
theorem RP (w0:World) (B:Ao) (Rw:Au) (L:As) (a0:Vl) :
  ACalls Tryz.prog w0 119 [.agg (a0.cs)] ⟨B,Rw,L⟩ fun x st=>x=Ak (Fh a0)∧st=⟨B,Rw,L⟩:=Up w0 B Rw L a0 _ rfl
def Ib (n:Nat)  : Option Int :=
 some (0)
def Dl (n:Nat) (q:Vl):Nat→Int→Option Int
 | 0,_=>none
 | m+1,b =>
  if decide (b<(q.fields.length:Int)) then
   (EA q.fields b).bind fun h =>
   if h.1.size≤maxLen then
    if !(JE h.1) then
     some (12)
    else
     if decide (0<b) then
      if Ba (b-1) then
       (EA q.fields (b-1)).bind fun y =>
       if NB h.1 y.1 then
        some (7)
       else
        if Ba (b-1) then
         if sLt h.1 y.1 then
          some (24)
         else
          if Ba (b+1) then
           (Dl n q m) (b+1)
          else none
        else none
      else none
     else
      if Ba (b+1) then
       (Dl n q m) (b+1)
      else none
   else none
  else
   Ib n 
def HT (n:Nat) (b:Vl):Option Int :=
 if !(decide ((CM (b.fields.length:Int) 64 9)=0)) then
  some (CM (b.fields.length:Int) 64 9)
 else
  Dl n b n 0
theorem UX (w0:World) (n:Nat) (B:Ao) (Rw:Au) (L:As) (a0:Vl) (r:Int) (h:HT n a0=some r) :
  ACalls Tryz.prog w0 120 [.agg (a0.cs)] ⟨B,Rw,L⟩ fun x st=>x=Ak r∧st=⟨B,Rw,L⟩:=by
 rw [HT] at h
 refine hd [.tmp 2] Tryz.func120 Tryz.ntmps120 fun M0 W0 l g i c o d hs=>?_
 simp only [Az]
 refine rg [1] hs ?_
 apply Am;intro K2 j
 refine rc 2 [1,3] hs ?_;intro K3 f
 refine Aw _ (IM w0 _ _ _ (a0.fields.length:Int) 64 9) (hv hs) ?_
 refine ne hs f ?_
 clear f
 refine rg [1,3,11] hs ?_
 refine F6 h hs ?_ ?_<;>intro hs h
 ·refine rg [2] hs ?_
  exact rt h hs c d
 refine sk [1] hs j ?_
 clear j
 refine AB (fun e st=>Ck e st B Rw L [] [a0.cs] [] (Ib n  = some r)) ?_ ?_
 ·intro K9 k
  refine rg [1,14,15,16] hs ?_
  apply Ar
  refine Ax (fun m e st=>∃ (b:Int),Ck e st B Rw L [(1,true,.box B.length 0),(14,true,.list (a0.fields.map IC) .none),(15,true,Ak (a0.fields.length:Int)),(16,true,Ak b)] [a0.cs] [] (Dl n a0 m b=some r)) n ⟨0,([]),Rw,ef hs,ef hs,d,h⟩ ?_
  rintro ml11 e st ⟨b,Xl11,Rl11,rfl,rfl,d,h⟩ Ul11 Vl11
  cases ml11 with
  | zero=>cases h
  | succ ml11 =>
  rw [Dl] at h
  exact go (tg (a:=([1,14,15,16,17],([1,14,15,16],[1,4,5,14,15,16],[1,4,5,14,15,16,21],([2],()),([15,1,4,5,14,15,16,26],([2],()),[15,1,14,15,16,41],([2],()),[1,14,15,16],[1,14,15,16],()),[15,1,4,5,14,15,16,26],[15,1,14,15,16,41],[1,14,15,16],[1,14,15,16],()),[],()))) h hs l g i c d (q1 (TE w0)) (q2 k (fun e s=>Vl11 ml11 e s (Nat.lt_succ_self _)))
 ·clear h;rintro e st ⟨Xk8,Rk8,rfl,rfl,d,h⟩
  rw [Ib] at h
  refine td l g i c d ?_
  refine rg [2] hs ?_
  exact rt h hs c d
def Jv (b:Vl):Bool :=
 (((((((((decide (b.kind=1))||(decide (b.kind=2)))||(decide (b.kind=6)))||(decide (b.kind=7)))||(decide (b.kind=3)))||(decide (b.int=0)))&&((decide (b.kind=3))||(decide (b.scale=0))))&&((((decide (b.kind=4))||(decide (b.kind=5)))||(decide (b.kind=10)))||(NB b.text (⟨#[]⟩:ByteArray))))&&(((decide (b.kind=8))||(decide (b.kind=10)))||(decide ((b.list.length:Int)=0))))&&((decide (b.kind=9))||(decide ((b.fields.length:Int)=0)))
theorem Z0 (w0:World) (B:Ao) (Rw:Au) (L:As) (a0:Vl) (r:Bool) (h:Jv a0=r) :
  ACalls Tryz.prog w0 77 [.agg (a0.cs)] ⟨B,Rw,L⟩ fun x st=>x = .val (.bool r)∧st=⟨B,Rw,L⟩:=by
 rw [Jv] at h
 refine hd [.tmp 2] Tryz.func77 Tryz.ntmps77 fun M0 W0 e c d b g f hs=>?_
 simp only [Az]
 exact go (tg (a:=([1],[1,3],[1,3,4],[1,3,4,5],[2],()))) h (al hs) e c d b f trivial trivial
theorem Yh (w0:World) (B:Ao) (Rw:Au) (L:As) (a0:Vl) :
  ACalls Tryz.prog w0 77 [.agg (a0.cs)] ⟨B,Rw,L⟩ fun x st=>x = .val (.bool (Jv a0))∧st=⟨B,Rw,L⟩:=Z0 w0 B Rw L a0 _ rfl
def Bn (n:Nat)  : List (Nat × Vl)→Int→Option Int
 | [],b3_r7 =>
  some (0)
 | p_r7::rest,b3_r7 =>
  if Ba (b3_r7+1) then
   if decide (4096<(b3_r7+1)) then
    some (9)
   else
    if decide (8<(p_r7.1:Int)) then
     some (23)
    else
     if B9 p_r7.2 then
      some (19)
     else
      if (decide (p_r7.2.kind<1))||(decide (10<p_r7.2.kind)) then
       some (11)
      else
       if !(Jv p_r7.2) then
        some (3)
       else
        if decide (p_r7.2.kind=0) then
         none
        else
         if decide (p_r7.2.kind=1) then
          if !(decide ((FC p_r7.2)=0)) then
           some (FC p_r7.2)
          else
           (Bn n rest) (b3_r7+1)
         else
          if decide (p_r7.2.kind=2) then
           if !(decide ((Ft p_r7.2)=0)) then
            some (Ft p_r7.2)
           else
            (Bn n rest) (b3_r7+1)
          else
           if decide (p_r7.2.kind=3) then
            (HS n p_r7.2).bind fun q =>
            if !(decide (q=0)) then
             some (q)
            else
             (Bn n rest) (b3_r7+1)
           else
            if decide (p_r7.2.kind=4) then
             (HO p_r7.2).bind fun y =>
             if !(decide (y=0)) then
              some (y)
             else
              (Bn n rest) (b3_r7+1)
            else
             if decide (p_r7.2.kind=5) then
              if !(decide ((Fz p_r7.2)=0)) then
               some (Fz p_r7.2)
              else
               (Bn n rest) (b3_r7+1)
             else
              if decide (p_r7.2.kind=6) then
               if !(decide ((Fj p_r7.2)=0)) then
                some (Fj p_r7.2)
               else
                (Bn n rest) (b3_r7+1)
              else
               if decide (p_r7.2.kind=7) then
                if !(decide ((Fo p_r7.2)=0)) then
                 some (Fo p_r7.2)
                else
                 (Bn n rest) (b3_r7+1)
               else
                if decide (p_r7.2.kind=8) then
                 if !(decide ((Fh p_r7.2)=0)) then
                  some (Fh p_r7.2)
                 else
                  (Bn n rest) (b3_r7+1)
                else
                 if decide (p_r7.2.kind=9) then
                  (HT n p_r7.2).bind fun b =>
                  if !(decide (b=0)) then
                   some (b)
                  else
                   (Bn n rest) (b3_r7+1)
                 else
                  if decide (p_r7.2.kind=10) then
                   (G5 p_r7.2).bind fun h =>
                   if !(decide (h=0)) then
                    some (h)
                   else
                    (Bn n rest) (b3_r7+1)
                  else
                   none
  else none
def GP (n:Nat) (b:Vl):Option Int :=
 if b.depth<4611686018427387904∧b.wide=true then
  Bn n (Ha 1 b) 0
 else none
theorem Nc (w0:World) (hT:Lib.Utf8Tabs 1 2 w0) (n:Nat) (B:Ao) (Rw:Au) (L:As) (a0:Vl) (r:Int) (h:GP n a0=some r) :
  ACalls Tryz.prog w0 46 [.agg (a0.cs)] ⟨B,Rw,L⟩ fun x st=>x=Ak r∧st=⟨B,Rw,L⟩:=by
 rw [GP] at h
 refine hd [.cell 2 41] Tryz.func46 Tryz.ntmps46 fun M0 W0 o f g b hu k hs=>?_
 simp only [Az]
 refine rg [1,2] hs ?_
 apply Am;intro K2 U
 apply Av 2 [1,2,3]
 rw [Ap];simp +decide only [go_sem,Nat.reduceAdd,Q4]
 (repeat' apply Ad)<;>first | refine Aw _ (Zc1 w0 _ _ _ ) (by first | rfl | (simp +decide only [go_sem,Nat.reduceAdd,Q4];done) | (simp +decide only [go_sem,Nat.reduceAdd,Vl.cs,Ty.cs,Q4];done)) ?_ | exact cl
 rw [Ap];simp +decide only [go_sem,Nat.reduceAdd,Q4]
 (repeat' apply Ad)<;>first | refine U _ _ ?_ | exact cl
 clear U
 refine rg [1,2,3,4] hs ?_
 apply Am;intro K4 v
 refine rc 2 [2,3,4,10] hs ?_;intro K5 af
 refine RA _ (VT w0 _ _ _ a0) (hv hs) ?_;rintro _ _ ⟨rfl,rfl⟩
 refine ne hs af ?_
 clear af
 apply Ar
 obtain ⟨aj,h⟩:=An h
 refine Zaj (IY a0) (fun st=>st.boxes[(B.length+4)]? = some a0.cs) (fun i st=>∃ (d:Int) (Rr7:Au),st=⟨B++([a0.cs,[Ak 0],[.val .nilFunc,.clo 108 [],.clo 110 [],.clo 111 [],.clo 113 [],.clo 116 [],.clo 117 [],.clo 118 [],.clo 119 [],.clo 120 [],.clo 122 []],[Ak d],a0.cs]),Rr7,L⟩∧Owns Rw Rr7 []∧Bn n ((Ha 1 a0).drop i) d=some r) (fun ex st=>ex = .ret∧∃ (z0:List AV) (z2:List AV) (z3:List AV) (z4:List AV) (rows:Au),st=⟨B++[z0,[Ak r],z2,z3,z4],rows,L⟩∧Owns Rw rows []) ev ev (Sj w0 a0 aj _) (fun x y=>XM a0 x y) (by decide) ?_ ⟨0,Rw,ef hs,k,h⟩ (fun _ _ h => .inl h.1) ?_ ?_ ?_
 ·rintro i st la ⟨d,Rr7,rfl,k,h⟩ _ _;simp +decide [St.push]
 ·rintro i s1 ⟨XB,XR,XL⟩ x M1 W1 l la N hX hI ah ag y ab K hK
  obtain ⟨c,ai,rfl,hi⟩:=Xt a0 i x y
  (try simp only at hX)
  subst hX
  obtain ⟨d,Rr7,rfl,k,h⟩:=hI
  rw [Zcc ai,Bn] at h
  have m:=k
  simp only [St.ext,St.push,List.append_assoc,List.append_nil]
  refine rg [2,3,4,5,12] hs ?_
  apply Av 1 [2,3,4,5,6]
  rw [Ap];simp +decide only [go_sem,Nat.reduceAdd]
  (repeat' apply Ad)<;>first | refine hK _ _ (by simp [St.ext,St.push]) (fun KQ V=>?_) | exact cl
  clear hK
  dsimp only [St.ext,St.push]
  have kr:∀ (e:Env) (x:Int),x=r→∀ G,KQ .ret e ⟨B++(a0.cs::[Ak x]::[.val .nilFunc,.clo 108 [],.clo 110 [],.clo 111 [],.clo 113 [],.clo 116 [],.clo 117 [],.clo 118 [],.clo 119 [],.clo 120 [],.clo 122 []]::[Ak (d+1)]::a0.cs::(XB++G)),Rr7,L++N::XL⟩:=by
   intro e x y G
   rw [y]
   exact V _ _ _ ⟨⟨B++[a0.cs,[Ak r],[.val .nilFunc,.clo 108 [],.clo 110 [],.clo 111 [],.clo 113 [],.clo 116 [],.clo 117 [],.clo 118 [],.clo 119 [],.clo 120 [],.clo 122 []],[Ak (d+1)],a0.cs],Rr7,L⟩,G,by simp only [List.append_assoc,List.cons_append,List.nil_append],⟨by simp,by first | exact Nat.le_refl _ | (have:=k.len;simp;omega),rfl⟩,rfl,⟨rfl,_,_,_,_,Rr7,rfl,k.sub (List.nil_sublist _)⟩,.inr (P9 ab m k rfl (ln k m) ap_ ow)⟩
  have p:∀ (e:Env) (G:Ao),Bn n ((Ha 1 a0).drop (i+1)) (d+1)=some r→KQ .normal e ⟨B++(a0.cs::[Ak 0]::[.val .nilFunc,.clo 108 [],.clo 110 [],.clo 111 [],.clo 113 [],.clo 116 [],.clo 117 [],.clo 118 [],.clo 119 [],.clo 120 [],.clo 122 []]::[Ak (d+1)]::a0.cs::(XB++G)),Rr7,L++N::XL⟩:=fun e G h=>V _ _ _ ⟨⟨B++[a0.cs,[Ak 0],[.val .nilFunc,.clo 108 [],.clo 110 [],.clo 111 [],.clo 113 [],.clo 116 [],.clo 117 [],.clo 118 [],.clo 119 [],.clo 120 [],.clo 122 []],[Ak (d+1)],a0.cs],Rr7,L⟩,G,by simp only [List.append_assoc,List.cons_append,List.nil_append],⟨by simp,by first | exact Nat.le_refl _ | (have:=k.len;simp;omega),rfl⟩,rfl,⟨(d+1),Rr7,rfl,k,h⟩,.inr (P9 ab m k rfl (ln k m) ap_ ow)⟩
  apply Ar
  obtain ⟨am,h⟩:=An h
  refine rg [2,3,4,5,6] hs ?_
  apply Am;intro K11 t
  apply Ar
  refine rg [2,3,5,6,15] hs ?_
  refine F6 h hs ?_ ?_<;>intro hs h
  ·have ae:=hs.1
   exact go (tg (a:=([2],()))) h hs o f g b k trivial (q2 kr p)
  have ae:=hs.1
  refine rg [2,3,6,18] hs ?_
  refine F6 h hs ?_ ?_<;>intro hs h
  ·have Z:=hs.1
   exact go (tg (a:=([2],()))) h hs o f g b k trivial (q2 kr p)
  have Z:=hs.1
  refine rc 2 [2,3,6,21] hs ?_;intro K18 q
  refine Aw _ (KC w0 _ _ _ c.2) (hv hs) ?_
  refine ne hs q ?_
  clear q
  refine F6 h hs ?_ ?_<;>intro hs h
  ·have Y:=hs.1
   exact go (tg (a:=([2],()))) h hs o f g b k trivial (q2 kr p)
  have Y:=hs.1
  refine rg [2,3,6,24] hs ?_
  refine F6 h hs ?_ ?_<;>intro hs h
  ·have O:=hs.1
   exact go (tg (a:=([2],()))) h hs o f g b k trivial (q2 kr p)
  have O:=hs.1
  refine rc 2 [2,3,6,33] hs ?_;intro K24 u
  refine Aw _ (Yh w0 _ _ _ c.2) (hv hs) ?_
  refine ne hs u ?_
  clear u
  refine F6 h hs ?_ ?_<;>intro hs h
  ·have D:=hs.1
   exact go (tg (a:=([2],()))) h hs o f g b k trivial (q2 kr p)
  have D:=hs.1
  refine sk [2,3,6] hs t ?_
  clear t
  apply Am;intro K27 j
  rcases Bool.eq_false_or_eq_true (decide (c.2.kind=0)) with hf28 | hf28
  ·replace h:=DK h hf28
   have ak:c.2.kind=0:=of_decide_eq_true hf28
   cases h
  ·replace h:=DI h hf28
   rcases Bool.eq_false_or_eq_true (decide (c.2.kind=1)) with hf30 | hf30
   ·replace h:=DK h hf30
    have F:c.2.kind=1:=of_decide_eq_true hf30
    exact go (tg (a:=([7,2,7],[2,7,44],([2],()),([]:List Nat),()))) h (Ad F (Ad hf30 (Ad hf28 hs))) o f g b k (q1 (Sl w0)) (q3 kr p j)
   ·replace h:=DI h hf30
    rcases Bool.eq_false_or_eq_true (decide (c.2.kind=2)) with hf35 | hf35
    ·replace h:=DK h hf35
     have Q:c.2.kind=2:=of_decide_eq_true hf35
     exact go (tg (a:=([7,2,7],[2,7,44],([2],()),([]:List Nat),()))) h (Ad Q (Ad hf35 (Ad hf30 (Ad hf28 hs)))) o f g b k (q1 (Sv w0)) (q3 kr p j)
    ·replace h:=DI h hf35
     rcases Bool.eq_false_or_eq_true (decide (c.2.kind=3)) with hf40 | hf40
     ·replace h:=DK h hf40
      have E:c.2.kind=3:=of_decide_eq_true hf40
      exact go (tg (a:=([7,2,7],[2,7,44],([2],()),([]:List Nat),()))) h (Ad E (Ad hf40 (Ad hf35 (Ad hf30 (Ad hf28 hs))))) o f g b k (q1 (TV w0 n)) (q3 kr p j)
     ·replace h:=DI h hf40
      rcases Bool.eq_false_or_eq_true (decide (c.2.kind=4)) with hf46 | hf46
      ·replace h:=DK h hf46
       have w:c.2.kind=4:=of_decide_eq_true hf46
       exact go (tg (a:=([7,2,7],[2,7,44],([2],()),([]:List Nat),()))) h (Ad w (Ad hf46 (Ad hf40 (Ad hf35 (Ad hf30 (Ad hf28 hs)))))) o f g b k (q1 (Ue w0 hT)) (q3 kr p j)
      ·replace h:=DI h hf46
       rcases Bool.eq_false_or_eq_true (decide (c.2.kind=5)) with hf52 | hf52
       ·replace h:=DK h hf52
        have ad:c.2.kind=5:=of_decide_eq_true hf52
        exact go (tg (a:=([7,2,7],[2,7,44],([2],()),([]:List Nat),()))) h (Ad ad (Ad hf52 (Ad hf46 (Ad hf40 (Ad hf35 (Ad hf30 (Ad hf28 hs))))))) o f g b k (q1 (Ss w0)) (q3 kr p j)
       ·replace h:=DI h hf52
        rcases Bool.eq_false_or_eq_true (decide (c.2.kind=6)) with hf57 | hf57
        ·replace h:=DK h hf57
         have J:c.2.kind=6:=of_decide_eq_true hf57
         exact go (tg (a:=([7,2,7],[2,7,44],([2],()),([]:List Nat),()))) h (Ad J (Ad hf57 (Ad hf52 (Ad hf46 (Ad hf40 (Ad hf35 (Ad hf30 (Ad hf28 hs)))))))) o f g b k (q1 (R2 w0)) (q3 kr p j)
        ·replace h:=DI h hf57
         rcases Bool.eq_false_or_eq_true (decide (c.2.kind=7)) with hf62 | hf62
         ·replace h:=DK h hf62
          have C:c.2.kind=7:=of_decide_eq_true hf62
          exact go (tg (a:=([7,2,7],[2,7,44],([2],()),([]:List Nat),()))) h (Ad C (Ad hf62 (Ad hf57 (Ad hf52 (Ad hf46 (Ad hf40 (Ad hf35 (Ad hf30 (Ad hf28 hs))))))))) o f g b k (q1 (RY w0)) (q3 kr p j)
         ·replace h:=DI h hf62
          rcases Bool.eq_false_or_eq_true (decide (c.2.kind=8)) with hf67 | hf67
          ·replace h:=DK h hf67
           have z:c.2.kind=8:=of_decide_eq_true hf67
           exact go (tg (a:=([7,2,7],[2,7,44],([2],()),([]:List Nat),()))) h (Ad z (Ad hf67 (Ad hf62 (Ad hf57 (Ad hf52 (Ad hf46 (Ad hf40 (Ad hf35 (Ad hf30 (Ad hf28 hs)))))))))) o f g b k (q1 (RP w0)) (q3 kr p j)
          ·replace h:=DI h hf67
           rcases Bool.eq_false_or_eq_true (decide (c.2.kind=9)) with hf72 | hf72
           ·replace h:=DK h hf72
            have H:c.2.kind=9:=of_decide_eq_true hf72
            exact go (tg (a:=([7,2,7],[2,7,44],([2],()),([]:List Nat),()))) h (Ad H (Ad hf72 (Ad hf67 (Ad hf62 (Ad hf57 (Ad hf52 (Ad hf46 (Ad hf40 (Ad hf35 (Ad hf30 (Ad hf28 hs))))))))))) o f g b k (q1 (UX w0 n)) (q3 kr p j)
           ·replace h:=DI h hf72
            rcases Bool.eq_false_or_eq_true (decide (c.2.kind=10)) with hf78 | hf78
            ·replace h:=DK h hf78
             have aa:c.2.kind=10:=of_decide_eq_true hf78
             exact go (tg (a:=([7,2,7],[2,7,44],([2],()),([]:List Nat),()))) h (Ad aa (Ad hf78 (Ad hf72 (Ad hf67 (Ad hf62 (Ad hf57 (Ad hf52 (Ad hf46 (Ad hf40 (Ad hf35 (Ad hf30 (Ad hf28 hs)))))))))))) o f g b k (q1 (RV w0)) (q3 kr p j)
            ·replace h:=DI h hf78
             cases h
 ·rintro s la ⟨XB,XR,XL⟩ hXR ⟨d,Rr7,rfl,k,h⟩ _ _
  simp only at hXR
  subst hXR
  rw [List.drop_eq_nil_of_le (by rw [Su];exact Nat.le_refl _),Bn] at h
  simp only [St.ext,St.push,List.append_assoc,List.append_nil]
  (repeat' apply Ad)<;>first | refine v _ _ ?_ | exact cl
  clear v
  refine ZaC (bs:=[a0.cs,[Ak 0],[.val .nilFunc,.clo 108 [],.clo 110 [],.clo 111 [],.clo 113 [],.clo 116 [],.clo 117 [],.clo 118 [],.clo 119 [],.clo 120 [],.clo 122 []],[Ak d],a0.cs]) o f g rfl b k ow ow ?_
  refine rg [2] hs ?_
  exact rt h hs b k
 ·rintro ex s la ⟨XB,XR,XL⟩ hXR ⟨rfl,z0,z2,z3,z4,rows,rfl,k⟩ _ _
  simp only at hXR
  subst hXR
  simp only [St.ext,St.push,List.append_assoc,List.append_nil]
  simp +decide only [go_sem,Nat.reduceAdd]
  (repeat' with_reducible apply Ad)<;>first | refine Zmh b rfl k.pre ev ⟨?_,rfl⟩ | (intros;omega) | (intros;simp_all;done)
  first | rfl | (simp +decide only [go_sem,Nat.reduceAdd];done)
def BK (b:Int) (q:Int) (h:Int):Bool :=
 (decide (b<q))||(decide (h<b))
def Eu (b:Vl):Bool :=
 (((((!((((decide (1≤b.kind))&&(decide (b.kind≤3)))||(decide (b.kind=6)))||(decide (b.kind=7))))&&(!(decide (b.int=0))))||((!(decide (b.kind=3)))&&(!(decide (b.scale=0)))))||((!(((decide (b.kind=4))||(decide (b.kind=5)))||(decide (b.kind=10))))&&(!(NB b.text (⟨#[]⟩:ByteArray)))))||((!((decide (b.kind=8))||(decide (b.kind=10))))&&(decide (0<(b.list.length:Int)))))||((!(decide (b.kind=9)))&&(decide (0<(b.fields.length:Int))))
def WH (b:Ty) (q:Int) (h:Int):Bool :=
 ((decide (q≤b.min))&&(decide (b.max≤h)))&&(decide (b.min≤b.max))
def MJ (b:Int) (h:Bool):(Int × Int) :=
 if h then
  (0,1024)
 else
  if decide (b=6) then
   ((-719162),2932896)
  else
   if decide (b=7) then
    ((-62135596800000),253402300799999)
   else
    (0,256)
def N2 (b:Int) (h:Bool):(Int × Int) :=
 if h then
  ((-999999999999999),999999999999999)
 else
  if decide (b=4) then
   MJ b true
  else
   MJ b (decide (b=5))
def PC (b:Int):(Int × Int) :=
 if decide (b=2) then
  N2 b true
 else
  N2 b (decide (b=3))
def Vg (b:Ty):Bool :=
 (((((!(decide (2≤b.kind)&&decide (b.kind≤8)))&&((!(decide (b.min=0)))||(!(decide (b.max=0)))))||((!(decide (b.kind=3)))&&(!(decide (b.scale=0)))))||((!(decide (b.kind=4)))&&(decide (0<(b.words.length:Int)))))||((!(decide (b.kind=8)))&&(decide (0<(b.elem.length:Int)))))||(((!(decide (b.kind=9)))&&(!(decide (b.kind=10))))&&(decide (0<(b.fields.length:Int))))
theorem LG {j:Nat}:((j+1:Nat):Int)-1=(j:Int):=by omega
theorem NK {j:Nat}:decide (0<((j+1:Nat):Int))=true:=Ag (by omega)
theorem Oh {k:Nat} (h:k<1000000000000):Ba (k:Int):=by unfold Ba;omega
def Zac:Option ByteArray→List ByteArray→Int
 | _,[]=>0
 | none,x::r=>if JE x=true then Zac (some x) r else 12
 | some p,x::r=>if JE x=true then (if NB x p=true then 7 else if sLt x p=true then 24 else Zac (some x) r) else 12
def Yx (l:List (ByteArray × Vl)):Nat→Option ByteArray
 | 0=>none
 | i+1=>(l[i]?).map Prod.fst
theorem Zc (n:Nat) (v:Vl) (hl:(v.fields).length≤1000000000000) (hz:∀ p∈v.fields,p.1.size≤maxLen):∀ (k m i:Nat),i+k=(v.fields).length→k<m→Dl n v m i=some (Zac (Yx (v.fields) i) (((v.fields).map Prod.fst).drop i))
 | k,0,i,_,h=>absurd h (Nat.not_lt_zero _)
 | 0,m+1,i,hi,_=>by
  rw [Dl,AX,Ac]
  simp only [Bool.false_eq_true,if_false,Ib]
  rw [List.drop_eq_nil_of_le (by rw [List.length_map];omega)]
  cases Yx (v.fields) i<;>rfl
 | k+1,m+1,i,hi,hm=>by
  have a:i<(v.fields).length:=by omega
  have ih:=Zc n v hl hz k m (i+1) (by omega) (by omega)
  rw [Dl,AX,Ag a]
  simp only [if_true,AH a,Ae]
  rw [Ah (hz _ (List.getElem_mem a)),List.drop_eq_getElem_cons (by rw [List.length_map];omega),List.getElem_map]
  have d:Yx (v.fields) (i+1)=some (v.fields)[i].1:=by simp only [Yx,List.getElem?_eq_getElem a];rfl
  rw [d] at ih
  cases i with
  | zero =>
   simp only [Yx,Zac]
   by_cases hb:JE (v.fields)[0].1=true
   ·rw [Ah hb,hb]
    simp only [Bool.not_true,Bool.false_eq_true,if_false]
    rw [Ai (by decide),Ah (AG (by omega))]
    exact ih
   ·rw [Ai hb,Bool.eq_false_iff.2 hb];rfl
  | succ j =>
   have b:j<(v.fields).length:=by omega
   have e:Yx (v.fields) (j+1)=some (v.fields)[j].1:=by simp only [Yx,List.getElem?_eq_getElem b];rfl
   rw [e]
   simp only [Zac]
   by_cases hb:JE (v.fields)[j+1].1=true
   ·rw [Ah hb,hb]
    simp only [Bool.not_true,Bool.false_eq_true,if_false,NK,if_true,LG]
    have c:Ba (j:Int):=Oh (by omega)
    simp only [Ah c,AH b,Ae]
    by_cases h1:NB (v.fields)[j+1].1 (v.fields)[j].1=true
    ·rw [Ah h1,Ah h1]
    ·rw [Ai h1,Ai h1]
     by_cases h2:sLt (v.fields)[j+1].1 (v.fields)[j].1=true
     ·rw [Ah h2,Ah h2]
     ·rw [Ai h2,Ai h2,Ah (AG (by omega))]
      exact ih
   ·rw [Ai hb,Bool.eq_false_iff.2 hb];rfl
def Fb (v:Vl):Int :=
 if B9 v=true then 19
 else if v.kind<1∨10<v.kind then 11
 else if Eu v=true then 3
 else if v.kind=1 then (if BK v.int 0 1=true then 2 else 0)
 else if v.kind=2 then (if BK v.int (-999999999999999) 999999999999999=true∨BK v.scale 0 12=true then 2 else 0)
 else if v.kind=3 then (if BK v.int (-999999999999999) 999999999999999=true∨BK v.scale 0 12=true then 2 else 0)
 else if v.kind=4 then (if 1024<v.text.size then 5 else if Lib.validD v.text.data.toList=true then 0 else 16)
 else if v.kind=5 then (if 1024<v.text.size then 5 else 0)
 else if v.kind=6 then (if BK v.int (-719162) 2932896=true then 2 else 0)
 else if v.kind=7 then (if BK v.int (-62135596800000) 253402300799999=true then 2 else 0)
 else if v.kind=8 then (if 256<v.list.length then 9 else 0)
 else if v.kind=9 then (if 64<v.fields.length then 9 else Zac none (v.fields.map Prod.fst))
 else if JE v.text=true then (if v.list.length=0 then 4 else if 1<v.list.length then 3 else 0) else 12
theorem Rx {k:Int} (h:¬ (k<1∨10<k)):k=1∨k=2∨k=3∨k=4∨k=5∨k=6∨k=7∨k=8∨k=9∨k=10:=by omega
theorem Zg9 (v:Vl) (h:¬ (v.kind<1∨10<v.kind)):Jv v = !Eu v:=by
 have a:∀ x:Nat,decide (0<(x:Int)) = !decide ((x:Int)=0):=fun x=>by
  by_cases h:x=0
  ·subst h;rfl
  ·rw [Ag (show 0<(x:Int) by omega),Af (show ¬ (x:Int)=0 by omega)];rfl
 rw [Jv,Eu]
 simp only [a]
 rcases Rx h with hk | hk | hk | hk | hk | hk | hk | hk | hk | hk<;>simp only [hk]<;>simp [Bool.and_assoc]
theorem Zjo (n:Nat) (hn:3≤n) (a b:Int):JS n [a,b]=some (if a=0 then b else a):=by
 obtain ⟨m,rfl⟩:∃ m,n=m+3:=⟨n-3,by omega⟩
 rw [JS,GF]
 simp only [List.length_cons,List.length_nil]
 rw [Ah (by simp),show EA [a,b] 0=some a from rfl]
 simp only [Ae]
 by_cases h:a=0
 ·rw [Ag h,Ai (by decide),Ah (by decide),Ah h,GF]
  simp only [List.length_cons,List.length_nil]
  rw [Ah (by simp),show EA [a,b] (0+1)=some b from rfl]
  simp only [Ae]
  by_cases h2:b=0
  ·rw [Ag h2,Ai (by decide),Ah (by decide),GF]
   simp only [List.length_cons,List.length_nil]
   rw [Ai (by simp),Kv,h2]
  ·rw [Af h2,Ah (by decide)]
 ·rw [Af h,Ah (by decide),Ai h]
theorem Zcn (n:Nat) (hn:3≤n) (v:Vl) (hfl:v.fields.length<n) (hs:v.fields.length≤1000000000000) (hv:v.ok) (h1:¬ B9 v=true) (h2:¬ (v.kind<1∨10<v.kind)) (h3:¬ Eu v=true) :
  (v.kind=1→FC v=Fb v)∧(v.kind=2→Ft v=Fb v)∧(v.kind=3→HS n v=some (Fb v))∧(v.kind=4→HO v=some (Fb v))∧(v.kind=5→Fz v=Fb v) ∧
  (v.kind=6→Fj v=Fb v)∧(v.kind=7→Fo v=Fb v)∧(v.kind=8→Fh v=Fb v)∧(v.kind=9→HT n v=some (Fb v))∧(v.kind=10→G5 v=some (Fb v)):=by
 obtain ⟨d,_,f⟩:=v.ok_eq.1 hv
 have i:∀ p∈v.fields,p.1.size≤maxLen:=fun p g=>Zda (by have:=(f p g).1;omega)
 have c:v.text.size≤maxLen:=Zda d
 rw [Fb,Ai h1,Ai h2,Ai h3]
 refine ⟨fun a=>?_,fun a=>?_,fun a=>?_,fun a=>?_,fun a=>?_,fun a=>?_,fun a=>?_,fun a=>?_,fun a=>?_,fun a=>?_⟩
 ·simp [a,FC,BR,BK]
 ·have b:v.scale=0:=by
   rw [Eu] at h3
   simp [a] at h3
   exact h3.1.1.1
  simp [a,b,Ft,BR,BK]
 ·rw [HS,Zjo n hn]
  simp [a,BR,BK]
  by_cases q:v.int < -999999999999999∨999999999999999<v.int
  ·simp [q];omega
  ·simp [q];omega
 ·rw [HO]
  simp only [a,CM,F2,Ah c]
  simp
  (repeat' split)<;>first | rfl | (exfalso;omega) | simp_all
 ·simp [a,Fz,CM]
  (repeat' split)<;>first | rfl | (exfalso;omega) | simp_all
 ·simp [a,Fj,BR,BK]
 ·simp [a,Fo,BR,BK]
 ·simp [a,Fh,CM]
  (repeat' split)<;>first | rfl | (exfalso;omega) | simp_all
 ·rw [HT]
  by_cases h:64<v.fields.length
  ·simp [a,CM,h,show (64:Int)<(v.fields.length:Int) by omega]
  ·have e:=Zc n v hs i v.fields.length n 0 (by omega) hfl
   simp only [List.drop_zero] at e
   simp only [a,CM,Af (show ¬ (64:Int)<(v.fields.length:Int) by omega),Bool.false_eq_true,if_false,decide_true,Bool.not_true,Ai h]
   exact e
 ·rw [G5,Ah c]
  simp only [a,CM]
  simp
  (repeat' split)<;>first | rfl | (exfalso;omega) | simp_all
theorem ZgG (n:Nat) (hn:3≤n) (lv:Nat) (v:Vl) (rest:List (Nat × Vl)) (c:Int) (hfl:v.fields.length<n) (hs:v.fields.length≤1000000000000) (hv:v.ok) :
  Bn n ((lv,v)::rest) c=if Ba (c+1) then (if 4096<c+1 then some 9 else if 8<(lv:Int) then some 23 else if Fb v=0 then Bn n rest (c+1) else some (Fb v)) else none:=by
 rw [Bn]
 by_cases hI:Ba (c+1)
 rotate_left
 ·rw [Ai hI,Ai hI]
 rw [Ah hI,Ah hI]
 by_cases q1:4096<c+1
 ·rw [Ah q1,Ah (Ag q1)]
 rw [Ai q1,Ai (by simpa using q1)]
 by_cases q2:8<(lv:Int)
 ·rw [Ah q2,Ah (Ag q2)]
 rw [Ai q2,Ai (by simpa using q2)]
 simp only
 by_cases h1:B9 v=true
 ·have:Fb v=19:=by rw [Fb,Ah h1]
  rw [Ah h1,this];rfl
 rw [Ai h1]
 by_cases h2:v.kind<1∨10<v.kind
 ·have:Fb v=11:=by rw [Fb,Ai h1,Ah h2]
  rw [Ah (by simpa using h2),this];rfl
 rw [Ai (by simpa using h2),Zg9 v h2]
 by_cases h3:Eu v=true
 ·have:Fb v=3:=by rw [Fb,Ai h1,Ai h2,Ah h3]
  rw [h3,this];rfl
 rw [Bool.eq_false_iff.2 h3]
 obtain ⟨f,k,l,j,b,d,h,g,i,a⟩:=Zcn n hn v hfl hs hv h1 h2 h3
 rcases Rx h2 with hk | hk | hk | hk | hk | hk | hk | hk | hk | hk
 ·have e:=f hk;by_cases z:Fb v=0<;>simp [hk,e,z]
 ·have e:=k hk;by_cases z:Fb v=0<;>simp [hk,e,z]
 ·have e:=l hk;by_cases z:Fb v=0<;>simp [hk,e,z]
 ·have e:=j hk;by_cases z:Fb v=0<;>simp [hk,e,z]
 ·have e:=b hk;by_cases z:Fb v=0<;>simp [hk,e,z]
 ·have e:=d hk;by_cases z:Fb v=0<;>simp [hk,e,z]
 ·have e:=h hk;by_cases z:Fb v=0<;>simp [hk,e,z]
 ·have e:=g hk;by_cases z:Fb v=0<;>simp [hk,e,z]
 ·have e:=i hk;by_cases z:Fb v=0<;>simp [hk,e,z]
 ·have e:=a hk;by_cases z:Fb v=0<;>simp [hk,e,z]
def Tt:List (Nat × Vl)→Int→Int
 | [],_=>0
 | p::r,c=>if 4096<c+1 then 9 else if 8<(p.1:Int) then 23 else if Fb p.2=0 then Tt r (c+1) else Fb p.2
def ZaI (v:Vl):Int:=Tt (Ha 1 v) 0
theorem TD {v x:Vl} (h:x∈Df v):x∈v.list∨∃ p∈v.fields,p.2=x:=by
 unfold Df at h
 split at h
 ·exact .inl h
 ·split at h
  ·obtain ⟨p,a,rfl⟩:=List.mem_map.1 h;exact .inr ⟨p,a,rfl⟩
  ·simp at h
theorem Qf {v x:Vl} (h:x∈Df v):x.size<v.size:=by
 rcases TD h with h | ⟨p,hp,rfl⟩
 ·exact v.list_size x h
 ·exact v.field_size p hp
theorem ZbW {v x:Vl} (hv:v.ok) (h:x∈Df v):x.ok:=by
 obtain ⟨_,a,b⟩:=v.ok_eq.1 hv
 rcases TD h with h | ⟨p,hp,rfl⟩
 ·exact a x h
 ·exact (b p hp).2
theorem Zbx:∀ (k:Nat) (v:Vl) (lv:Nat),v.size≤k→v.ok→∀ p∈Ha lv v,p.2.ok∧p.2.size≤v.size
 | 0,v,lv,h,hv,p,hp=>absurd h (by have:=v.size_eq;omega)
 | k+1,v,lv,h,hv,p,hp=>by
  rw [P3] at hp
  rcases List.mem_cons.1 hp with rfl | hp
  ·exact ⟨hv,Nat.le_refl _⟩
  ·obtain ⟨x,a,hp⟩:=List.mem_flatMap.1 hp
   have:=Qf a
   obtain ⟨b,c⟩:=Zbx k x (lv+1) (by omega) (ZbW hv a) p hp
   exact ⟨b,by omega⟩
theorem Vw:∀ (k:Nat) (v:Vl) (lv:Nat),v.size≤k→v.wide=true→∀ p∈Ha lv v,p.2.wide=true
 | 0,v,lv,h,hv,p,hp=>absurd h (by have:=v.size_eq;omega)
 | k+1,v,lv,h,hv,p,hp=>by
  rw [P3] at hp
  rcases List.mem_cons.1 hp with rfl | hp
  ·exact hv
  ·obtain ⟨x,a,hp⟩:=List.mem_flatMap.1 hp
   have:=Qf a
   exact Vw k x (lv+1) (by omega) (SG hv a) p hp
theorem SH (v:Vl):v.fields.length<v.size:=by have:=J2 v.fields;have:=v.size_eq;omega
theorem TA (n:Nat) (hn:3≤n):∀ (l:List (Nat × Vl)) (c:Int),(∀ p∈l,p.2.ok∧p.2.fields.length≤1000000000000∧p.2.fields.length<n)→0≤c→c≤4096→Bn n l c=some (Tt l c)
 | [],c,_,_,_=>rfl
 | p::r,c,hl,h1,h2=>by
  obtain ⟨a,e,d⟩:=hl p (List.mem_cons_self ..)
  have:=SH p.2
  rw [show p=(p.1,p.2) from rfl,ZgG n hn p.1 p.2 r c (by omega) (by omega) a,Ah (by unfold Ba;omega),Tt]
  simp only
  split
  ·rfl
  ·split
   ·rfl
   ·split
    ·exact TA n hn r (c+1) (fun q b=>hl q (List.mem_cons_of_mem _ b)) (by omega) (by omega)
    ·rfl
theorem Xu (n:Nat) (v:Vl) (hn:v.size+3≤n) (hs:v.depth<4611686018427387904) (hw:v.wide=true) (hv:v.ok):GP n v=some (ZaI v):=by
 rw [GP,Ah ⟨hs,hw⟩]
 exact TA n (by omega) _ 0 (fun p a=>by obtain ⟨b,c⟩:=Zbx v.size v 1 (Nat.le_refl _) hv p a;exact ⟨b,(p.2.wide_iff.1 (Vw v.size v 1 (Nat.le_refl _) hw p a)).2.1,by have:=SH p.2;omega⟩) (by omega) (by omega)
theorem OI (n:Nat) (v:Vl) (hn:v.size+3≤n) (hs:v.size<1048576) (hv:v.ok):GP n v=some (ZaI v) :=
 Xu n v hn (by have:=v.depth_size;omega) (H6 _ v (Nat.le_refl _) (by omega)) hv
def V7 (h:Int × ByteArray × Int × Ty × List Vl) (b:Int × ByteArray × Int × Ty × List Vl):Bool :=
 (NB h.2.1 b.2.1)||(decide (h.1=b.1))
def ZgT (x:ByteArray):Int:=ZaI (Vl.mk 4 0 0 x [] [])
def ZiO:Option ByteArray→List ByteArray→Int
 | _,[]=>0
 | none,x::r=>if ZgT x=0 then ZiO (some x) r else ZgT x
 | some p,x::r=>if ZgT x=0 then (if NB x p=true then 7 else if sLt x p=true then 24 else ZiO (some x) r) else ZgT x
def Zcv (t:Ty):Int:=if t.min≠0∨t.max≠0 then 3 else if 64<t.words.length then 9 else ZiO none t.words
def Zhc (k:Int) (b:List TF) (x:TF):Int :=
 if JE x.2.1=true then
  if ¬ (1≤x.1∧x.1≤9999) then 2
  else if (b.any fun q=>V7 q x)=true then 7
  else if ¬ (1≤x.2.2.1∧x.2.2.1≤3)∨(k=10∧x.2.2.1≠1) then 11
  else if x.2.2.1=3∧x.2.2.2.2.length=0 then 4
  else if 1<x.2.2.2.2.length∨(x.2.2.1≠3∧0<x.2.2.2.2.length) then 3
  else 0
 else 12
def Zc2 (k:Int):List TF→List TF→Int
 | _,[]=>0
 | b,x::r=>if Zhc k b x=0 then Zc2 k (b++[x]) r else Zhc k b x
def Zos (t:Ty):Int :=
 if t.kind<1∨10<t.kind then 11
 else if Vg t=true then 3
 else if t.kind=4∧0<t.words.length then Zcv t
 else if ((2≤t.kind∧t.kind≤8)∧WH t (PC t.kind).1 (PC t.kind).2=false)∨¬ (0≤t.scale∧t.scale≤12) then 2
 else if (t.kind=8∧t.elem.length=0)∨(t.kind=10∧t.fields.length=0) then 4
 else if 1<t.elem.length then 3
 else if 64<t.fields.length then 9
 else Zc2 t.kind [] t.fields
inductive Ty.Good:Ty→Prop
 | mk (t:Ty) (h:Zos t=0) (he:∀ x∈t.elem,Ty.Good x) (hf:∀ p∈t.fields,Ty.Good p.2.2.2.1):Ty.Good t
inductive Vl.Good:Vl→Prop
 | mk (v:Vl) (h:Fb v=0) (hp:∀ x∈Df v,Vl.Good x):Vl.Good v
theorem W8:∀ (l:List (Nat × Vl)) (c:Int),Tt l c=0→∀ p∈l,Fb p.2=0
 | [],_,_,p,hp=>by simp at hp
 | q::r,c,h,p,hp=>by
  rw [Tt] at h
  split at h
  ·cases h
  ·split at h
   ·cases h
   ·split at h
    ·rename_i h0
     rcases List.mem_cons.1 hp with rfl | hp
     ·exact h0
     ·exact W8 r (c+1) h p hp
    ·rename_i h0;exact absurd h h0
theorem ZG {v:Vl} (h:Fb v=0):¬ (v.kind<1∨10<v.kind)∧¬ Eu v=true:=by
 rw [Fb] at h
 by_cases h1:B9 v=true
 ·rw [Ah h1] at h;exact absurd h (by decide)
 rw [Ai h1] at h
 by_cases h2:v.kind<1∨10<v.kind
 ·rw [Ah h2] at h;exact absurd h (by decide)
 rw [Ai h2] at h
 by_cases h3:Eu v=true
 ·rw [Ah h3] at h;exact absurd h (by decide)
 exact ⟨h2,h3⟩
def Jp (n:Nat)  : Option Int :=
 some (0)
def D9 (n:Nat) (q:List Int):Nat→Int→Option Int
 | 0,_=>none
 | m+1,b =>
  if decide (b<(q.length:Int)) then
   (EA q b).bind fun h =>
   if !(decide (h=0)) then
    some (h)
   else
    if Ba (b+1) then
     (D9 n q m) (b+1)
    else none
  else
   Jp n 
def FO (n:Nat) (b:List Int):Option Int :=
 D9 n b n 0
theorem Jr (w0:World) (n:Nat) (B:Ao) (Rw:Au) (L:As) (a0:List Int) (r:Int) (h:FO n a0=some r) :
  ACalls Tryz.prog w0 71 [.list (a0.map AU) .none] ⟨B,Rw,L⟩ fun x st=>x=Ak r∧st=⟨B,Rw,L⟩:=by
 rw [FO] at h
 refine hd [.tmp 2] Tryz.func71 Tryz.ntmps71 fun M0 W0 j f g b k d hs=>?_
 simp only [Az]
 refine rg [0] hs ?_
 refine rg [0,3] hs ?_
 refine AB (fun e st=>Ck e st B Rw L [(3,true,Ak 0)] [] [] (Jp n  = some r)) ?_ ?_
 ·intro K5 i
  refine rg [3,6,7,8] hs ?_
  apply Ar
  refine Ax (fun m e st=>∃ (c:Int),Ck e st B Rw L [(3,true,Ak 0),(6,true,.list (a0.map AU) .none),(7,true,Ak (a0.length:Int)),(8,true,Ak c)] [] [] (D9 n a0 m c=some r)) n ⟨0,([]),Rw,ef hs,ef hs,d,h⟩ ?_
  rintro ml7 e st ⟨c,Xl7,Rl7,rfl,rfl,d,h⟩ Ul7 Vl7
  cases ml7 with
  | zero=>cases h
  | succ ml7 =>
  rw [D9] at h
  exact go (tg (a:=([3,6,7,8,9],([3,6,7,8],[3,5,6,7,8],[3,5,6,7,8,14],([2],()),[3,6,7,8],[3,6,7,8],()),[3],()))) h hs j f g b d trivial (q2 i (fun e s=>Vl7 ml7 e s (Nat.lt_succ_self _)))
 ·clear h;rintro e st ⟨Xk4,Rk4,rfl,rfl,d,h⟩
  rw [Jp] at h
  refine td j f g b d ?_
  refine rg [2] hs ?_
  exact rt h hs b d
def CZ (n:Nat) (h:List (ByteArray × Vl)) (b:List (ByteArray × Vl)):Option Int :=
 if decide ((h.length:Int)<(b.length:Int)) then
  some ((-1))
 else
  some (0)
def Be (n:Nat) (y:List (ByteArray × Vl)) (q:List (ByteArray × Vl)) (a2:(ByteArray × Vl)→(ByteArray × Vl)→Option Int):Nat→Int→Option Int
 | 0,_=>none
 | m+1,b =>
  if decide (b<(y.length:Int)) then
   (EA y b).bind fun x12 =>
   if decide ((q.length:Int)≤b) then
    some (1)
   else
    (EA q b).bind fun x18 =>
    (a2 x12 x18).bind fun h =>
    if !(decide (h=0)) then
     some (h)
    else
     if Ba (b+1) then
      (Be n y q a2 m) (b+1)
     else none
  else
   CZ n y q 
def Di (n:Nat) (q:List (ByteArray × Vl)) (h:List (ByteArray × Vl)) (b:(ByteArray × Vl)→(ByteArray × Vl)→Option Int):Option Int :=
 Be n q h b n 0
theorem Ju (w0:World) (n:Nat) (B:Ao) (Rw:Au) (L:As) (a0:List (ByteArray × Vl)) (a1:List (ByteArray × Vl)) (fa2:FuncId) (ca2:List AV) (a2:(ByteArray × Vl)→(ByteArray × Vl)→Option Int) (ha2:∀ (x0:ByteArray × Vl) (x1:ByteArray × Vl) r,a2 x0 x1=some r→∀ B' rows,B <+: B'→Rw <+: rows→ACalls Tryz.prog w0 fa2 ([.agg (.val (.string x0.1)::(x0.2.cs)),.agg (.val (.string x1.1)::(x1.2.cs))]++ca2) ⟨B',rows,L⟩ fun v s=>v=Ak r∧s=⟨B',rows,L⟩) (r:Int) (h:Di n a0 a1 a2=some r) :
  ACalls Tryz.prog w0 79 [.list (a0.map IC) .none,.list (a1.map IC) .none,.clo fa2 ca2] ⟨B,Rw,L⟩ fun x st=>x=Ak r∧st=⟨B,Rw,L⟩:=by
 rw [Di] at h
 refine hd [.tmp 6] Tryz.func79 Tryz.ntmps79 fun M0 W0 j g i b l f hs=>?_
 simp only [Az]
 have c:=Dw (l (.clo fa2 ca2) (by simp))
 refine rg [0,1,2] hs ?_
 refine AB (fun e st=>Ck e st B Rw L [(0,true,.list (a0.map IC) .none),(1,true,.list (a1.map IC) .none)] [] [] (CZ n a0 a1  = some r)) ?_ ?_
 ·intro K4 k
  refine rg [0,1,2,11,12,13] hs ?_
  apply Ar
  refine Ax (fun m e st=>∃ (d:Int),Ck e st B Rw L [(0,true,.list (a0.map IC) .none),(1,true,.list (a1.map IC) .none),(2,true,.clo fa2 ca2),(11,true,.list (a0.map IC) .none),(12,true,Ak (a0.length:Int)),(13,true,Ak d)] [] [] (Be n a0 a1 a2 m d=some r)) n ⟨0,([]),Rw,ef hs,ef hs,f,h⟩ ?_
  rintro ml6 e st ⟨d,Xl6,Rl6,rfl,rfl,f,h⟩ Ul6 Vl6
  cases ml6 with
  | zero=>cases h
  | succ ml6 =>
  rw [Be] at h
  refine BW j g i rfl b f (KU c f) (KU c f) ?_
  exact go (tg (a:=([0,1,2,11,12,13,14],([0,1,2,11,12,13],[0,1,2,7,8,11,12,13],[0,1,2,7,8,11,12,13,21],([6],()),[0,1,2,7,8,11,12,13],[0,1,2,8,9,11,12,13],[0,1,2,10,11,12,13],[0,1,2,10,11,12,13,31],([6],()),[0,1,2,11,12,13],[0,1,2,11,12,13],()),[0,1],()))) h hs j g i b f (q1 ha2) (q2 k (fun e s=>Vl6 ml6 e s (Nat.lt_succ_self _)))
 ·clear h;rintro e st ⟨Xk3,Rk3,rfl,rfl,f,h⟩
  rw [CZ] at h
  refine BW j g i rfl b f (KU c f) (KU c f) ?_
  exact go (tg (a:=([38],([6],()),[],[6],()))) h hs j g i b f trivial trivial
def CO (n:Nat) (h:List Vl) (b:List Vl):Option Int :=
 if decide ((h.length:Int)<(b.length:Int)) then
  some ((-1))
 else
  some (0)
def Bh (n:Nat) (y:List Vl) (q:List Vl) (a2:Vl→Vl→Option Int):Nat→Int→Option Int
 | 0,_=>none
 | m+1,b =>
  if decide (b<(y.length:Int)) then
   (EA y b).bind fun x12 =>
   if decide ((q.length:Int)≤b) then
    some (1)
   else
    (EA q b).bind fun x18 =>
    (a2 x12 x18).bind fun h =>
    if !(decide (h=0)) then
     some (h)
    else
     if Ba (b+1) then
      (Bh n y q a2 m) (b+1)
     else none
  else
   CO n y q 
def Dh (n:Nat) (q:List Vl) (h:List Vl) (b:Vl→Vl→Option Int):Option Int :=
 Bh n q h b n 0
theorem JF (w0:World) (n:Nat) (B:Ao) (Rw:Au) (L:As) (a0:List Vl) (a1:List Vl) (fa2:FuncId) (ca2:List AV) (a2:Vl→Vl→Option Int) (ha2:∀ (x0:Vl) (x1:Vl) r,a2 x0 x1=some r→∀ B' rows,B <+: B'→Rw <+: rows→ACalls Tryz.prog w0 fa2 ([.agg (x0.cs),.agg (x1.cs)]++ca2) ⟨B',rows,L⟩ fun v s=>v=Ak r∧s=⟨B',rows,L⟩) (r:Int) (h:Dh n a0 a1 a2=some r) :
  ACalls Tryz.prog w0 78 [.list (a0.map B1) .none,.list (a1.map B1) .none,.clo fa2 ca2] ⟨B,Rw,L⟩ fun x st=>x=Ak r∧st=⟨B,Rw,L⟩:=by
 rw [Dh] at h
 refine hd [.tmp 6] Tryz.func78 Tryz.ntmps78 fun M0 W0 j g i b l f hs=>?_
 simp only [Az]
 have c:=Dw (l (.clo fa2 ca2) (by simp))
 refine rg [0,1,2] hs ?_
 refine AB (fun e st=>Ck e st B Rw L [(0,true,.list (a0.map B1) .none),(1,true,.list (a1.map B1) .none)] [] [] (CO n a0 a1  = some r)) ?_ ?_
 ·intro K4 k
  refine rg [0,1,2,11,12,13] hs ?_
  apply Ar
  refine Ax (fun m e st=>∃ (d:Int),Ck e st B Rw L [(0,true,.list (a0.map B1) .none),(1,true,.list (a1.map B1) .none),(2,true,.clo fa2 ca2),(11,true,.list (a0.map B1) .none),(12,true,Ak (a0.length:Int)),(13,true,Ak d)] [] [] (Bh n a0 a1 a2 m d=some r)) n ⟨0,([]),Rw,ef hs,ef hs,f,h⟩ ?_
  rintro ml6 e st ⟨d,Xl6,Rl6,rfl,rfl,f,h⟩ Ul6 Vl6
  cases ml6 with
  | zero=>cases h
  | succ ml6 =>
  rw [Bh] at h
  refine BW j g i rfl b f (KU c f) (KU c f) ?_
  exact go (tg (a:=([0,1,2,11,12,13,14],([0,1,2,11,12,13],[0,1,2,7,8,11,12,13],[0,1,2,7,8,11,12,13,21],([6],()),[0,1,2,7,8,11,12,13],[0,1,2,8,9,11,12,13],[0,1,2,10,11,12,13],[0,1,2,10,11,12,13,31],([6],()),[0,1,2,11,12,13],[0,1,2,11,12,13],()),[0,1],()))) h hs j g i b f (q1 ha2) (q2 k (fun e s=>Vl6 ml6 e s (Nat.lt_succ_self _)))
 ·clear h;rintro e st ⟨Xk3,Rk3,rfl,rfl,f,h⟩
  rw [CO] at h
  refine BW j g i rfl b f (KU c f) (KU c f) ?_
  exact go (tg (a:=([38],([6],()),[],[6],()))) h hs j g i b f trivial trivial
def E1 (n:Nat)  : Option Bool :=
 some (true)
def Bm (n:Nat) (h:List Vl) (a1:List Vl) (a2:Vl→Vl→Option Bool):Nat→Int→Option Bool
 | 0,_=>none
 | m+1,b =>
  if decide (b<(h.length:Int)) then
   (EA h b).bind fun x16 =>
   (EA a1 b).bind fun y =>
   (a2 x16 y).bind fun q =>
   if !q then
    some (false)
   else
    if Ba (b+1) then
     (Bm n h a1 a2 m) (b+1)
    else none
  else
   E1 n 
def CH (n:Nat) (h:List Vl) (b:List Vl) (q:Vl→Vl→Option Bool):Option Bool :=
 if !(decide ((h.length:Int)=(b.length:Int))) then
  some (false)
 else
  Bm n h b q n 0
theorem KT (w0:World) (n:Nat) (B:Ao) (Rw:Au) (L:As) (a0:List Vl) (a1:List Vl) (fa2:FuncId) (ca2:List AV) (a2:Vl→Vl→Option Bool) (ha2:∀ (x0:Vl) (x1:Vl) r,a2 x0 x1=some r→∀ B' rows,B <+: B'→Rw <+: rows→ACalls Tryz.prog w0 fa2 ([.agg (x0.cs),.agg (x1.cs)]++ca2) ⟨B',rows,L⟩ fun v s=>v = .val (.bool r)∧s=⟨B',rows,L⟩) (r:Bool) (h:CH n a0 a1 a2=some r) :
  ACalls Tryz.prog w0 105 [.list (a0.map B1) .none,.list (a1.map B1) .none,.clo fa2 ca2] ⟨B,Rw,L⟩ fun x st=>x = .val (.bool r)∧st=⟨B,Rw,L⟩:=by
 rw [CH] at h
 refine hd [.tmp 6] Tryz.func105 Tryz.ntmps105 fun M0 W0 l g i b o f hs=>?_
 simp only [Az]
 have d:=Dw (o (.clo fa2 ca2) (by simp))
 refine rg [0,1,2] hs ?_
 apply Am;intro K2 j
 refine rg [0,1,2,14] hs ?_
 refine F6 h hs ?_ ?_<;>intro hs h
 ·refine rg [6] hs ?_
  exact rt h hs b f
 refine sk [0,1,2] hs j ?_
 clear j
 refine AB (fun e st=>Ck e st B Rw L [] [] [] (E1 n  = some r)) ?_ ?_
 ·intro K8 k
  refine rg [1,2,15,16,17] hs ?_
  apply Ar
  refine Ax (fun m e st=>∃ (c:Int),Ck e st B Rw L [(1,true,.list (a1.map B1) .none),(2,true,.clo fa2 ca2),(15,true,.list (a0.map B1) .none),(16,true,Ak (a0.length:Int)),(17,true,Ak c)] [] [] (Bm n a0 a1 a2 m c=some r)) n ⟨0,([]),Rw,ef hs,ef hs,f,h⟩ ?_
  rintro ml10 e st ⟨c,Xl10,Rl10,rfl,rfl,f,h⟩ Ul10 Vl10
  cases ml10 with
  | zero=>cases h
  | succ ml10 =>
  rw [Bm] at h
  refine BW l g i rfl b f (KU d f) (KU d f) ?_
  exact go (tg (a:=([1,2,15,16,17,18],([1,2,15,16,17],[1,2,7,8,15,16,17],[1,2,8,9,15,16,17],[1,2,15,16,17,30],([6],()),[1,2,15,16,17],[1,2,15,16,17],()),[],()))) h hs l g i b f (q1 ha2) (q2 k (fun e s=>Vl10 ml10 e s (Nat.lt_succ_self _)))
 ·clear h;rintro e st ⟨Xk7,Rk7,rfl,rfl,f,h⟩
  rw [E1] at h
  refine BW l g i rfl b f (KU d f) (KU d f) ?_
  refine rg [6] hs ?_
  exact rt h hs b f
def EX (rec:Vl→Vl→Option Int) (n:Nat) (h:ByteArray × Vl) (b:ByteArray × Vl):Option Int :=
 (rec h.2 b.2).bind fun y =>
 (FO n ([Uu h.1 b.1,y])).bind fun q =>
 some (q)
theorem Ro (w0:World) (rec:Vl→Vl→Option Int) (ih:∀ (B:Ao) (Rw:Au) (L:As) (a0:Vl) (a1:Vl) (r:Int) (h:rec a0 a1=some r),ACalls Tryz.prog w0 48 [.agg (a0.cs),.agg (a1.cs)] ⟨B,Rw,L⟩ fun x st=>x=Ak r∧st=⟨B,Rw,L⟩) (n:Nat) (B:Ao) (Rw:Au) (L:As) (a0:ByteArray × Vl) (a1:ByteArray × Vl) (r:Int) (h:EX rec n a0 a1=some r) :
  ACalls Tryz.prog w0 80 [.agg (.val (.string a0.1)::(a0.2.cs)),.agg (.val (.string a1.1)::(a1.2.cs))] ⟨B,Rw,L⟩ fun x st=>x=Ak r∧st=⟨B,Rw,L⟩:=by
 rw [EX] at h
 refine hd [.tmp 4] Tryz.func80 Tryz.ntmps80 fun M0 W0 e c d b g f hs=>?_
 simp only [Az]
 exact go (tg (a:=([2,3],[13,4],()))) h hs e c d b f (q3 (Ks w0) ih (Jr w0 n)) trivial
def Jn (rec:Vl→Vl→Option Int) (n:Nat) (h:Vl) (b:Vl):Option Int :=
 (Dh n h.list b.list (fun (q:Vl) (y:Vl)=>rec q y)).bind fun y3 =>
 (Di n h.fields b.fields (fun (q:ByteArray × Vl) (y:ByteArray × Vl)=>EX rec n q y)).bind fun y4 =>
 (FO n ([if h.kind<b.kind then -1 else if h.kind=b.kind then 0 else 1,if h.int<b.int then -1 else if h.int=b.int then 0 else 1,if h.scale<b.scale then -1 else if h.scale=b.scale then 0 else 1,Uu h.text b.text,y3,y4])).bind fun y5 =>
 some (y5)
def D2:Nat→Vl→Vl→Option Int
 | 0,_,_=>none
 | n+1,h,b=>Jn (D2 n) n h b
def KY (w0:World) (F:Vl→Vl→Option Int):Prop:=∀ (B:Ao) (Rw:Au) (L:As) (h:Vl) (b:Vl) (r:Int),F h b=some r→ACalls Tryz.prog w0 48 [.agg (h.cs),.agg (b.cs)] ⟨B,Rw,L⟩ fun x st=>x=Ak r∧st=⟨B,Rw,L⟩
theorem P8 (w0:World) (rec:Vl→Vl→Option Int) (ih:KY w0 rec) (n:Nat):KY w0 (Jn rec n):=by
 intro B Rw L a0 a1 r h
 rw [Jn] at h
 refine hd [.tmp 4] Tryz.func48 Tryz.ntmps48 fun M0 W0 s e j b v p hs=>?_
 simp only [Az]
 refine rg [2,3] hs ?_
 obtain ⟨w,m,h⟩:=bind_some h
 obtain ⟨u,g,h⟩:=bind_some h
 obtain ⟨t,o,h⟩:=bind_some h
 apply Am;intro K2 l
 refine dk 33 8 1 [4] (al hs) PQ ?_
 refine Aw _ (II w0 _ _ _ a0.kind a1.kind) (hv (al hs)) ?_
 refine nc (al hs) ?_
 refine Aw _ (II w0 _ _ _ a0.int a1.int) (hv (al hs)) ?_
 refine nc (al hs) ?_
 refine Aw _ (II w0 _ _ _ a0.scale a1.scale) (hv (al hs)) ?_
 refine nc (al hs) ?_
 refine Aw _ (Ks w0 _ _ _ a0.text a1.text) (hv (al hs)) ?_
 refine nc (al hs) ?_
 refine Aw _ (JF w0 n _ _ _ a0.list a1.list 48 [] (fun (d:Vl) (c:Vl)=>rec d c) (fun d c r f q rows' k i=>by exact ih _ _ _ d c _ f) _ m) (hv (al hs)) ?_
 refine nc (al hs) ?_
 refine Aw _ (Ju w0 n _ _ _ a0.fields a1.fields 80 [] (fun (d:ByteArray × Vl) (c:ByteArray × Vl)=>EX rec n d c) (fun d c r f q rows' k i=>by exact Ro w0 rec ih n _ _ _ d c _ f) _ g) (hv (al hs)) ?_
 exact go (tg (a:=((),()))) h (al hs) s e j b p (q1 (Jr w0 n)) (q1 l)
theorem KB (w0:World):∀ n:Nat,KY w0 (D2 n)
 | 0=>fun _ _ _ _ _ _ h=>(nomatch h)
 | n+1=>P8 w0 (D2 n) (KB w0 n) n
def Ep (n:Nat) (q:Vl) (b:Vl):Option Bool :=
 (D2 n q b).bind fun h =>
 some (decide (h=0))
theorem HE (w0:World) (n:Nat) (B:Ao) (Rw:Au) (L:As) (a0:Vl) (a1:Vl) (r:Bool) (h:Ep n a0 a1=some r) :
  ACalls Tryz.prog w0 69 [.agg (a0.cs),.agg (a1.cs)] ⟨B,Rw,L⟩ fun x st=>x = .val (.bool r)∧st=⟨B,Rw,L⟩:=by
 rw [Ep] at h
 refine hd [.tmp 4] Tryz.func69 Tryz.ntmps69 fun M0 W0 e c d b g f hs=>?_
 simp only [Az]
 exact go (tg (a:=([2,3],[4],()))) h hs e c d b f (q1 (KB w0 n)) trivial
theorem XN {a b:Nat}:decide ((a:Int)≤(b:Int))=decide (a≤b):=decide_eq_decide.2 ⟨fun h=>by omega,fun h=>by omega⟩
theorem Rb (n:Nat) (a b:List (Vl)) (f:Vl→Vl→Option Int) (hl:a.length≤1000000000)
  (hr:∀ p∈a,∀ q∈b,∃ c,f p q=some c∧(c=0↔p=q)):∀ (k m i:Nat),i+k=a.length→k<m→∃ c,Bh n a b f m i=some c∧(c=0↔a.drop i=b.drop i)
 | k,0,i,_,h=>absurd h (Nat.not_lt_zero _)
 | 0,m+1,i,hi,_=>by
  rw [Bh,AX,Ac]
  simp only [Bool.false_eq_true,if_false]
  rw [CO,AX,List.drop_eq_nil_of_le (show a.length≤i by omega)]
  by_cases h:a.length<b.length
  ·rw [Ag h]
   simp only [if_true]
   exact ⟨-1,rfl,⟨fun h=>absurd h (by decide),fun e=>by have:=List.drop_eq_nil_iff.1 e.symm;omega⟩⟩
  ·rw [Af h]
   simp only [Bool.false_eq_true,if_false]
   exact ⟨0,rfl,⟨fun _=>(List.drop_eq_nil_of_le (by omega)).symm,fun _=>rfl⟩⟩
 | k+1,m+1,i,hi,hm=>by
  have g:i<a.length:=by omega
  rw [Bh,AX,Ag g]
  simp only [if_true,AH g,Ae,XN]
  by_cases d:i<b.length
  ·rw [Af (show ¬ b.length≤i by omega)]
   simp only [Bool.false_eq_true,if_false,AH d,Ae]
   obtain ⟨c,e,j⟩:=hr _ (List.getElem_mem g) _ (List.getElem_mem d)
   rw [e,LD _ _ i g d]
   simp only [Ae]
   by_cases h0:c=0
   ·rw [Ag h0]
    simp only [Bool.not_true,Bool.false_eq_true,if_false]
    rw [Ah (AG (by omega))]
    obtain ⟨o,l,d⟩:=Rb n a b f hl hr k m (i+1) (by omega) (by omega)
    exact ⟨o,l,d.trans ⟨fun h=>⟨j.1 h0,h⟩,fun h=>h.2⟩⟩
   ·rw [Af h0]
    simp only [Bool.not_false,if_true]
    exact ⟨c,rfl,⟨fun h=>absurd h h0,fun h=>absurd (j.2 h.1) h0⟩⟩
  ·rw [Ag (show b.length≤i by omega)]
   simp only [if_true]
   refine ⟨1,rfl,⟨fun h=>absurd h (by decide),fun e=>?_⟩⟩
   rw [List.drop_eq_nil_of_le (show b.length≤i by omega)] at e
   have:=List.drop_eq_nil_iff.1 e
   omega
theorem Xl (n:Nat) (a b:List (Vl)) (f:Vl→Vl→Option Int) (hl:a.length≤1000000000) (hn:a.length<n)
  (hr:∀ p∈a,∀ q∈b,∃ c,f p q=some c∧(c=0↔p=q)):∃ c,Dh n a b f=some c∧(c=0↔a=b) :=
 Rb n a b f hl hr a.length n 0 (by omega) hn
theorem Qi (n:Nat) (a b:List (ByteArray × Vl)) (f:ByteArray × Vl→ByteArray × Vl→Option Int) (hl:a.length≤1000000000)
  (hr:∀ p∈a,∀ q∈b,∃ c,f p q=some c∧(c=0↔p=q)):∀ (k m i:Nat),i+k=a.length→k<m→∃ c,Be n a b f m i=some c∧(c=0↔a.drop i=b.drop i)
 | k,0,i,_,h=>absurd h (Nat.not_lt_zero _)
 | 0,m+1,i,hi,_=>by
  rw [Be,AX,Ac]
  simp only [Bool.false_eq_true,if_false]
  rw [CZ,AX,List.drop_eq_nil_of_le (show a.length≤i by omega)]
  by_cases h:a.length<b.length
  ·rw [Ag h]
   simp only [if_true]
   exact ⟨-1,rfl,⟨fun h=>absurd h (by decide),fun e=>by have:=List.drop_eq_nil_iff.1 e.symm;omega⟩⟩
  ·rw [Af h]
   simp only [Bool.false_eq_true,if_false]
   exact ⟨0,rfl,⟨fun _=>(List.drop_eq_nil_of_le (by omega)).symm,fun _=>rfl⟩⟩
 | k+1,m+1,i,hi,hm=>by
  have g:i<a.length:=by omega
  rw [Be,AX,Ag g]
  simp only [if_true,AH g,Ae,XN]
  by_cases d:i<b.length
  ·rw [Af (show ¬ b.length≤i by omega)]
   simp only [Bool.false_eq_true,if_false,AH d,Ae]
   obtain ⟨c,e,j⟩:=hr _ (List.getElem_mem g) _ (List.getElem_mem d)
   rw [e,LD _ _ i g d]
   simp only [Ae]
   by_cases h0:c=0
   ·rw [Ag h0]
    simp only [Bool.not_true,Bool.false_eq_true,if_false]
    rw [Ah (AG (by omega))]
    obtain ⟨o,l,d⟩:=Qi n a b f hl hr k m (i+1) (by omega) (by omega)
    exact ⟨o,l,d.trans ⟨fun h=>⟨j.1 h0,h⟩,fun h=>h.2⟩⟩
   ·rw [Af h0]
    simp only [Bool.not_false,if_true]
    exact ⟨c,rfl,⟨fun h=>absurd h h0,fun h=>absurd (j.2 h.1) h0⟩⟩
  ·rw [Ag (show b.length≤i by omega)]
   simp only [if_true]
   refine ⟨1,rfl,⟨fun h=>absurd h (by decide),fun e=>?_⟩⟩
   rw [List.drop_eq_nil_of_le (show b.length≤i by omega)] at e
   have:=List.drop_eq_nil_iff.1 e
   omega
theorem X0 (n:Nat) (a b:List (ByteArray × Vl)) (f:ByteArray × Vl→ByteArray × Vl→Option Int) (hl:a.length≤1000000000) (hn:a.length<n)
  (hr:∀ p∈a,∀ q∈b,∃ c,f p q=some c∧(c=0↔p=q)):∃ c,Di n a b f=some c∧(c=0↔a=b) :=
 Qi n a b f hl hr a.length n 0 (by omega) hn
theorem Zhh (n:Nat) (l:List Int) (hl:l.length≤1000000000):∀ (k m i:Nat),i+k=l.length→k<m→∃ c,D9 n l m i=some c∧(c=0↔∀ x∈l.drop i,x=0)
 | k,0,i,_,h=>absurd h (Nat.not_lt_zero _)
 | 0,m+1,i,hi,_=>by
  rw [D9,AX,Ac]
  simp only [Bool.false_eq_true,if_false]
  exact ⟨0,rfl,by rw [List.drop_eq_nil_of_le (by omega)];simp⟩
 | k+1,m+1,i,hi,hm=>by
  have a:i<l.length:=by omega
  rw [D9,AX,Ag a]
  simp only [if_true,AH a,Ae]
  rw [List.drop_eq_getElem_cons a]
  by_cases h0:l[i]=0
  ·rw [Ag h0]
   simp only [Bool.not_true,Bool.false_eq_true,if_false]
   rw [Ah (AG (by omega))]
   obtain ⟨e,b,d⟩:=Zhh n l hl k m (i+1) (by omega) (by omega)
   exact ⟨e,b,d.trans ⟨fun h x hx=>by rcases List.mem_cons.1 hx with rfl | hx;exact h0;exact h x hx,fun h x hx=>h x (List.mem_cons_of_mem _ hx)⟩⟩
  ·rw [Af h0]
   simp only [Bool.not_false,if_true]
   exact ⟨_,rfl,⟨fun h=>absurd h h0,fun h=>absurd (h _ (List.mem_cons_self ..)) h0⟩⟩
theorem Za5 (n:Nat) (l:List Int) (hl:l.length<n) (h2:l.length≤1000000000):∃ c,FO n l=some c∧(c=0↔∀ x∈l,x=0):=Zhh n l h2 l.length n 0 (by omega) hl
theorem O0 (a b:Int):(if a<b then (-1:Int) else if a=b then 0 else 1)=0↔a=b:=by
 by_cases h1:a<b
 ·rw [Ah h1];omega
 ·rw [Ai h1]
  by_cases h2:a=b
  ·simp [h2]
  ·simp [h2]
theorem Vl.lens' (v:Vl):v.list.length<v.size∧v.fields.length<v.size:=by have:=Nl v.list;have:=J2 v.fields;have:=v.size_eq;omega
theorem Ji:∀ (n:Nat) (a b:Vl),a.size+10≤n→a.size≤1000000000→∃ c,D2 n a b=some c∧(c=0↔a=b)
 | 0,a,b,h,_=>by omega
 | n+1,a,b,h,hs=>by
  have v:=a.lens'
  rw [D2,Jn]
  obtain ⟨s,e1,k⟩:=Xl n a.list b.list (fun x y=>D2 n x y) (by omega) (by omega) (fun p d q _=>Ji n p q (by have:=a.list_size p d;omega) (by have:=a.list_size p d;omega))
  obtain ⟨j,g,i⟩:=X0 n a.fields b.fields (fun x y=>EX (D2 n) n x y) (by omega) (by omega) (fun p d q _=>by
   obtain ⟨c,e,f⟩:=Ji n p.2 q.2 (by have:=a.field_size p d;omega) (by have:=a.field_size p d;omega)
   obtain ⟨j,g,i⟩:=Za5 n [Uu p.1 q.1,c] (by simp;omega) (by simp)
   refine ⟨j,by rw [EX,e,Ae,g];rfl,i.trans ?_⟩
   simp only [List.mem_cons,List.not_mem_nil,or_false,forall_eq_or_imp,forall_eq,TI,f]
   exact ⟨fun h=>Prod.ext h.1 h.2,fun h=>by rw [h];exact ⟨rfl,rfl⟩⟩)
  rw [e1,Ae,g,Ae]
  obtain ⟨c,e,f⟩:=Za5 n [if a.kind<b.kind then -1 else if a.kind=b.kind then 0 else 1,if a.int<b.int then -1 else if a.int=b.int then 0 else 1,if a.scale<b.scale then -1 else if a.scale=b.scale then 0 else 1,Uu a.text b.text,s,j] (by simp;omega) (by simp)
  refine ⟨c,by rw [e];rfl,f.trans ?_⟩
  simp only [List.mem_cons,List.not_mem_nil,or_false,forall_eq_or_imp,forall_eq,TI,O0,k,i]
  exact ⟨fun ⟨u,l,t,m,r,o⟩=>Vl.ext' u l t m r o,fun h=>by rw [h];exact ⟨rfl,rfl,rfl,rfl,rfl,rfl⟩⟩
theorem ZaB (n:Nat) (a b:Vl) (h:a.size+10≤n) (hs:a.size≤1000000000):∃ c,Ep n a b=some c∧(c=true↔a=b):=by
 obtain ⟨c,e,d⟩:=Ji n a b h hs
 exact ⟨decide (c=0),by rw [Ep,e];rfl,by rw [decide_eq_true_eq];exact d⟩
@[go_sem] theorem Zl6:BU Tryz.prog 291=none∧BU Tryz.prog 77=none∧BU Tryz.prog 93=none∧Hv Tryz.prog 264=false∧AN Tryz.prog 106 0=some (0,20,true)∧AN Tryz.prog 106 1=some (20,1,false)∧AN Tryz.prog 106 3=some (23,1,false)∧AN Tryz.prog 122 0=some (0,1,false)∧AN Tryz.prog 122 1=some (1,1,false)∧AN Tryz.prog 281 0=some (0,6,true)∧AN Tryz.prog 294 0=some (0,1,false)∧AN Tryz.prog 294 1=some (1,1,false):=by (repeat' apply Ad)<;>kernel_rfl
@[go_sem] theorem Zkr:AN Tryz.prog 34 6=some (6,1,false)∧AN Tryz.prog 53 6=some (16,1,false)∧Ky Tryz.prog 264=some .u64∧A6 Tryz.prog 291=some [(0,1),(1,1)]∧A6 Tryz.prog 77=some [(0,2),(2,1),(3,1),(4,1),(5,6)]∧A6 Tryz.prog 93=some [(0,1),(1,10)]∧B6 Tryz.prog 264=false∧Ez Tryz.prog 264=some (1,false)∧Ez Tryz.prog 292=some (1,false)∧AZ Tryz.prog 264=some [.val (.int .u64 0)]∧AZ Tryz.prog 291=some [.val (.string ⟨#[]⟩),Ak 0]∧AZ Tryz.prog 93=some [Ak 0,Ak 0,.list [] .full,Ak 0,.list [] .full,Ak 0,Ak 0,Ak 0,.val (.string ⟨#[]⟩),.list [] .full,.list [] .full]:=by (repeat' apply Ad)<;>kernel_rfl
def Ff (n:Nat) (h:Vl):Option Int :=
 if B9 h then
  some (0)
 else
  if !(decide (h.kind=9)) then
   some (18)
  else
   (GP n h).bind fun b =>
   some (b)
theorem PR (w0:World) (hT:Lib.Utf8Tabs 1 2 w0) (n:Nat) (B:Ao) (Rw:Au) (L:As) (a0:Vl) (r:Int) (h:Ff n a0=some r) :
  ACalls Tryz.prog w0 128 [.agg (a0.cs)] ⟨B,Rw,L⟩ fun x st=>x=Ak r∧st=⟨B,Rw,L⟩:=by
 rw [Ff] at h
 refine hd [.tmp 2] Tryz.func128 Tryz.ntmps128 fun M0 W0 e c d b g f hs=>?_
 simp only [Az]
 exact go (tg (a:=([1],[1,3],([2],()),[1,6],([2],()),[1],[2],()))) h hs e c d b f (q2 (KC w0) (Nc w0 hT n)) trivial
def Gz (b:Int):Bool :=
 (decide (1≤b))&&(decide (b≤1048576))
theorem OR (w0:World) (B:Ao) (Rw:Au) (L:As) (a0:Int) (r:Bool) (h:Gz a0=r) :
  ACalls Tryz.prog w0 127 [Ak a0] ⟨B,Rw,L⟩ fun x st=>x = .val (.bool r)∧st=⟨B,Rw,L⟩:=by
 rw [Gz] at h
 refine hd [.tmp 2] Tryz.func127 Tryz.ntmps127 fun M0 W0 e b c a f d hs=>?_
 simp only [Az]
 refine rg [0] hs ?_
 refine rg [2] hs ?_
 exact rT h hs a d
theorem N1 (w0:World) (B:Ao) (Rw:Au) (L:As) (a0:Int) :
  ACalls Tryz.prog w0 127 [Ak a0] ⟨B,Rw,L⟩ fun x st=>x = .val (.bool (Gz a0))∧st=⟨B,Rw,L⟩:=OR w0 B Rw L a0 _ rfl
def Gw (b:Int):Bool :=
 (decide (b<0))||(decide (1099511627776<b))
theorem OP (w0:World) (B:Ao) (Rw:Au) (L:As) (a0:Int) (r:Bool) (h:Gw a0=r) :
  ACalls Tryz.prog w0 126 [Ak a0] ⟨B,Rw,L⟩ fun x st=>x = .val (.bool r)∧st=⟨B,Rw,L⟩:=by
 rw [Gw] at h
 refine hd [.tmp 2] Tryz.func126 Tryz.ntmps126 fun M0 W0 e b c a f d hs=>?_
 simp only [Az]
 refine rg [0] hs ?_
 refine rg [2] hs ?_
 exact rT h hs a d
theorem N5 (w0:World) (B:Ao) (Rw:Au) (L:As) (a0:Int) :
  ACalls Tryz.prog w0 126 [Ak a0] ⟨B,Rw,L⟩ fun x st=>x = .val (.bool (Gw a0))∧st=⟨B,Rw,L⟩:=OP w0 B Rw L a0 _ rfl
def Ge (n:Nat)  : Option Int :=
 some ((-1))
def Bt (n:Nat) (h:List Int) (a1:Int→Option Bool):Nat→Int→Option Int
 | 0,_=>none
 | m+1,b =>
  if decide (b<(h.length:Int)) then
   (EA h b).bind fun q =>
   (a1 q).bind fun y =>
   if y then
    some (b)
   else
    if Ba (b+1) then
     (Bt n h a1 m) (b+1)
    else none
  else
   Ge n 
def EI (n:Nat) (h:List Int) (b:Int→Option Bool):Option Int :=
 Bt n h b n 0
theorem MF (w0:World) (n:Nat) (B:Ao) (Rw:Au) (L:As) (a0:List Int) (fa1:FuncId) (ca1:List AV) (a1:Int→Option Bool) (ha1:∀ (x0:Int) r,a1 x0=some r→∀ B' rows,B <+: B'→Rw <+: rows→ACalls Tryz.prog w0 fa1 ([Ak x0]++ca1) ⟨B',rows,L⟩ fun v s=>v = .val (.bool r)∧s=⟨B',rows,L⟩) (r:Int) (h:EI n a0 a1=some r) :
  ACalls Tryz.prog w0 194 [.list (a0.map AU) .none,.clo fa1 ca1] ⟨B,Rw,L⟩ fun x st=>x=Ak r∧st=⟨B,Rw,L⟩:=by
 rw [EI] at h
 refine hd [.tmp 4] Tryz.func194 Tryz.ntmps194 fun M0 W0 k g i b l f hs=>?_
 simp only [Az]
 have c:=Dw (l (.clo fa1 ca1) (by simp))
 refine rg [0,1] hs ?_
 refine AB (fun e st=>Ck e st B Rw L [] [] [] (Ge n  = some r)) ?_ ?_
 ·intro K4 j
  refine rg [0,1,7,8] hs ?_
  apply Ar
  refine Ax (fun m e st=>∃ (d:Int),Ck e st B Rw L [(0,true,.list (a0.map AU) .none),(1,true,.clo fa1 ca1),(7,true,Ak (a0.length:Int)),(8,true,Ak d)] [] [] (Bt n a0 a1 m d=some r)) n ⟨0,([]),Rw,ef hs,ef hs,f,h⟩ ?_
  rintro ml6 e st ⟨d,Xl6,Rl6,rfl,rfl,f,h⟩ Ul6 Vl6
  cases ml6 with
  | zero=>cases h
  | succ ml6 =>
  rw [Bt] at h
  refine BW k g i rfl b f (KU c f) (KU c f) ?_
  exact go (tg (a:=([0,1,7,8,9],([0,1,7,8],[0,1,5,7,8],[0,1,5,7,8,16],([4],()),[0,1,7,8],[0,1,7,8],()),[],()))) h hs k g i b f (q1 ha1) (q2 j (fun e s=>Vl6 ml6 e s (Nat.lt_succ_self _)))
 ·clear h;rintro e st ⟨Xk3,Rk3,rfl,rfl,f,h⟩
  rw [Ge] at h
  refine BW k g i rfl b f (KU c f) (KU c f) ?_
  refine rg [4] hs ?_
  exact rt h hs b f
def Ce (n:Nat) (q:List Int) (b:Int→Option Bool):Option Bool :=
 (EI n q b).bind fun h =>
 some (decide (0≤h))
theorem Kz (w0:World) (n:Nat) (B:Ao) (Rw:Au) (L:As) (a0:List Int) (fa1:FuncId) (ca1:List AV) (a1:Int→Option Bool) (ha1:∀ (x0:Int) r,a1 x0=some r→∀ B' rows,B <+: B'→Rw <+: rows→ACalls Tryz.prog w0 fa1 ([Ak x0]++ca1) ⟨B',rows,L⟩ fun v s=>v = .val (.bool r)∧s=⟨B',rows,L⟩) (r:Bool) (h:Ce n a0 a1=some r) :
  ACalls Tryz.prog w0 161 [.list (a0.map AU) .none,.clo fa1 ca1] ⟨B,Rw,L⟩ fun x st=>x = .val (.bool r)∧st=⟨B,Rw,L⟩:=by
 rw [Ce] at h
 refine hd [.tmp 4] Tryz.func161 Tryz.ntmps161 fun M0 W0 m i j b l g hs=>?_
 simp only [Az]
 have e:=Dw (l (.clo fa1 ca1) (by simp))
 refine rg [0,1] hs ?_
 obtain ⟨o,f,h⟩:=bind_some h
 refine rc 2 [4] hs ?_;intro K2 c
 refine Aw _ (MF w0 n _ _ _ a0 fa1 ca1 a1 (fun x0 r k d a q1 q2=>ha1 x0 r k d a (List.IsPrefix.trans px q1) (g.pre.trans q2)) _ f) (hv hs) ?_
 refine ne hs c ?_
 clear c
 exact rt h hs b g
def DR (b:Int):Bool :=
 (decide (b<0))||(decide (65535<b))
theorem Oz (w0:World) (B:Ao) (Rw:Au) (L:As) (a0:Int) (r:Bool) (h:DR a0=r) :
  ACalls Tryz.prog w0 162 [Ak a0] ⟨B,Rw,L⟩ fun x st=>x = .val (.bool r)∧st=⟨B,Rw,L⟩:=by
 rw [DR] at h
 refine hd [.tmp 2] Tryz.func162 Tryz.ntmps162 fun M0 W0 e b c a f d hs=>?_
 simp only [Az]
 refine rg [0] hs ?_
 refine rg [2] hs ?_
 exact rT h hs a d
theorem NW (w0:World) (B:Ao) (Rw:Au) (L:As) (a0:Int) :
  ACalls Tryz.prog w0 162 [Ak a0] ⟨B,Rw,L⟩ fun x st=>x = .val (.bool (DR a0))∧st=⟨B,Rw,L⟩:=Oz w0 B Rw L a0 _ rfl
def Gf (n:Nat) (b:Int × List Int):Option Int :=
 if (decide (b.1<1))||(decide (1048576<b.1)) then
  some (2)
 else
  if decide ((b.2.length:Int)=0) then
   some (4)
  else
   if decide (512<(b.2.length:Int)) then
    some (9)
   else
    (Ce n b.2 (fun (x0:Int)=>some (DR x0))).bind fun q =>
    if q then
     some (2)
    else
     (EA b.2 0).bind fun h =>
     if decide (1<h) then
      some (11)
     else
      if decide (h=1) then
       some (0)
      else
       if decide ((b.2.length:Int)=1) then
        some (4)
       else
        (EA b.2 1).bind fun y =>
        if decide (128≤y) then
         some (2)
        else
         some (0)
theorem Qx (w0:World) (n:Nat) (B:Ao) (Rw:Au) (L:As) (a0:Int × List Int) (r:Int) (h:Gf n a0=some r) :
  ACalls Tryz.prog w0 125 [.agg (Ak a0.1::([.list (a0.2.map AU) .none]))] ⟨B,Rw,L⟩ fun x st=>x=Ak r∧st=⟨B,Rw,L⟩:=by
 rw [Gf] at h
 refine hd [.tmp 2] Tryz.func125 Tryz.ntmps125 fun M0 W0 k e f b o d hs=>?_
 simp only [Az]
 refine rg [1] hs ?_
 apply Am;intro K2 g
 apply Ar
 refine rg [1,3] hs ?_
 refine F6 h hs ?_ ?_<;>intro hs h
 ·refine rg [2] hs ?_
  exact rt h hs b d
 refine rg [1,12] hs ?_
 refine F6 h hs ?_ ?_<;>intro hs h
 ·refine rg [2] hs ?_
  exact rt h hs b d
 refine rg [1,17] hs ?_
 refine F6 h hs ?_ ?_<;>intro hs h
 ·refine rg [2] hs ?_
  exact rt h hs b d
 obtain ⟨i,hy13,h⟩:=bind_some h
 refine rc 2 [1,22] hs ?_;intro K12 c
 refine Aw _ (Kz w0 n _ _ _ a0.2 162 [] (fun (x0:Int)=>some (DR x0)) (fun x0 r hx m rows' j l=>by cases hx;exact NW w0 _ _ _ x0) _ hy13) (hv hs) ?_
 exact go (tg (a:=(([2],()),[1,26],([2],()),[1,32],([2],()),[1,38],([2],()),[43],([2],()),[],[2],()))) h hs k e f b d trivial (q2 c g)
def E9 (n:Nat) (h:Msg):Option Int :=
 (Ff n h.body).bind fun b =>
 some (b)
def BP (n:Nat) (h:Msg):Nat→Int→Option Int
 | 0,_=>none
 | m+1,b =>
  if decide (b<(h.origins.length:Int)) then
   (EA h.origins b).bind fun q =>
   if !(Gz q) then
    some (2)
   else
    if decide (0<b) then
     if Ba (b-1) then
      (EA h.origins (b-1)).bind fun y =>
      if decide (q≤y) then
       some (24)
      else
       if Ba (b+1) then
        (BP n h m) (b+1)
       else none
     else none
    else
     if Ba (b+1) then
      (BP n h m) (b+1)
     else none
  else
   E9 n h 
def EU (n:Nat) (b:Msg):Option Int :=
 (Gf n b.stamp).bind fun h =>
 if !(decide (h=0)) then
  some (h)
 else
  if Gw b.mass then
   some (38)
  else
   if decide ((b.origins.length:Int)=0) then
    some (4)
   else
    if decide (4096<(b.origins.length:Int)) then
     some (9)
    else
     BP n b n 0
theorem Om (w0:World) (hT:Lib.Utf8Tabs 1 2 w0) (n:Nat) (B:Ao) (Rw:Au) (L:As) (a0:Msg) (r:Int) (h:EU n a0=some r) :
  ACalls Tryz.prog w0 81 [.agg ((Ak a0.stamp.1::([.list (a0.stamp.2.map AU) .none]))++(Ak a0.mass::(.list (a0.origins.map AU) .none::(a0.body.cs))))] ⟨B,Rw,L⟩ fun x st=>x=Ak r∧st=⟨B,Rw,L⟩:=by
 rw [EU] at h
 refine hd [.tmp 2] Tryz.func81 Tryz.ntmps81 fun M0 W0 q g i b t d hs=>?_
 simp only [Az]
 refine rg [1] hs ?_
 apply Am;intro K2 l
 obtain ⟨u,p,h⟩:=bind_some h
 refine rc 2 [1,3] hs ?_;intro K3 f
 refine Aw _ (Qx w0 n _ _ _ a0.stamp _ p) (hv hs) ?_
 refine ne hs f ?_
 clear f
 refine rg [1,3,10] hs ?_
 refine F6 h hs ?_ ?_<;>intro hs h
 ·refine rg [2] hs ?_
  exact rt h hs b d
 refine sk [1] hs l ?_
 clear l
 apply Am;intro K8 j
 apply Ar
 refine rc 2 [1,12] hs ?_;intro K9 o
 refine Aw _ (N5 w0 _ _ _ a0.mass) (hv hs) ?_
 refine ne hs o ?_
 clear o
 refine F6 h hs ?_ ?_<;>intro hs h
 ·refine rg [2] hs ?_
  exact rt h hs b d
 refine rg [1,16] hs ?_
 refine F6 h hs ?_ ?_<;>intro hs h
 ·refine rg [2] hs ?_
  exact rt h hs b d
 refine rg [1,21] hs ?_
 refine F6 h hs ?_ ?_<;>intro hs h
 ·refine rg [2] hs ?_
  exact rt h hs b d
 refine sk [1] hs j ?_
 clear j
 refine AB (fun e st=>Ck e st B Rw L [(1,true,.box B.length 0)] [(Ak a0.stamp.1::([.list (a0.stamp.2.map AU) .none]))++(Ak a0.mass::(.list (a0.origins.map AU) .none::(a0.body.cs)))] [] (E9 n a0  = some r)) ?_ ?_
 ·intro K20 k
  refine rg [1,27,28,29] hs ?_
  apply Ar
  refine Ax (fun m e st=>∃ (c:Int),Ck e st B Rw L [(1,true,.box B.length 0),(27,true,.list (a0.origins.map AU) .none),(28,true,Ak (a0.origins.length:Int)),(29,true,Ak c)] [(Ak a0.stamp.1::([.list (a0.stamp.2.map AU) .none]))++(Ak a0.mass::(.list (a0.origins.map AU) .none::(a0.body.cs)))] [] (BP n a0 m c=some r)) n ⟨0,([]),Rw,ef hs,ef hs,d,h⟩ ?_
  rintro ml22 e st ⟨c,Xl22,Rl22,rfl,rfl,d,h⟩ Ul22 Vl22
  cases ml22 with
  | zero=>cases h
  | succ ml22 =>
  rw [BP] at h
  exact go (tg (a:=([1,27,28,29,30],([1,27,28,29],[1,4,5,27,28,29],[1,4,5,27,28,29,34],([2],()),([1,27,28,29,38],([2],()),[1,27,28,29],[1,27,28,29],()),[1,27,28,29,38],[1,27,28,29],[1,27,28,29],()),[1],()))) h hs q g i b d (q1 (N1 w0)) (q2 k (fun e s=>Vl22 ml22 e s (Nat.lt_succ_self _)))
 ·clear h;rintro e st ⟨Xk19,Rk19,rfl,rfl,d,h⟩
  rw [E9] at h
  exact go (tg (a:=([2],()))) h hs q g i b d (q1 (PR w0 hT n)) trivial
def Em (n:Nat)  : Option Int :=
 some ((-1))
def A5 (n:Nat) (h:List Msg) (a1:Msg→Option Bool):Nat→Int→Option Int
 | 0,_=>none
 | m+1,b =>
  if decide (b<(h.length:Int)) then
   (EA h b).bind fun q =>
   (a1 q).bind fun y =>
   if y then
    some (b)
   else
    if Ba (b+1) then
     (A5 n h a1 m) (b+1)
    else none
  else
   Em n 
def Dj (n:Nat) (h:List Msg) (b:Msg→Option Bool):Option Int :=
 A5 n h b n 0
theorem JV (w0:World) (n:Nat) (B:Ao) (Rw:Au) (L:As) (a0:List Msg) (fa1:FuncId) (ca1:List AV) (a1:Msg→Option Bool) (ha1:∀ (x0:Msg) r,a1 x0=some r→∀ B' rows,B <+: B'→Rw <+: rows→ACalls Tryz.prog w0 fa1 ([.agg ((Ak x0.stamp.1::([.list (x0.stamp.2.map AU) .none]))++(Ak x0.mass::(.list (x0.origins.map AU) .none::(x0.body.cs))))]++ca1) ⟨B',rows,L⟩ fun v s=>v = .val (.bool r)∧s=⟨B',rows,L⟩) (r:Int) (h:Dj n a0 a1=some r) :
  ACalls Tryz.prog w0 129 [.list (a0.map A9) .none,.clo fa1 ca1] ⟨B,Rw,L⟩ fun x st=>x=Ak r∧st=⟨B,Rw,L⟩:=by
 rw [Dj] at h
 refine hd [.tmp 4] Tryz.func129 Tryz.ntmps129 fun M0 W0 k g i b l f hs=>?_
 simp only [Az]
 have c:=Dw (l (.clo fa1 ca1) (by simp))
 refine rg [0,1] hs ?_
 refine AB (fun e st=>Ck e st B Rw L [] [] [] (Em n  = some r)) ?_ ?_
 ·intro K4 j
  refine rg [0,1,7,8] hs ?_
  apply Ar
  refine Ax (fun m e st=>∃ (d:Int),Ck e st B Rw L [(0,true,.list (a0.map A9) .none),(1,true,.clo fa1 ca1),(7,true,Ak (a0.length:Int)),(8,true,Ak d)] [] [] (A5 n a0 a1 m d=some r)) n ⟨0,([]),Rw,ef hs,ef hs,f,h⟩ ?_
  rintro ml6 e st ⟨d,Xl6,Rl6,rfl,rfl,f,h⟩ Ul6 Vl6
  cases ml6 with
  | zero=>cases h
  | succ ml6 =>
  rw [A5] at h
  refine BW k g i rfl b f (KU c f) (KU c f) ?_
  exact go (tg (a:=([0,1,7,8,9],([0,1,7,8],[0,1,5,7,8],[0,1,5,7,8,16],([4],()),[0,1,7,8],[0,1,7,8],()),[],()))) h hs k g i b f (q1 ha1) (q2 j (fun e s=>Vl6 ml6 e s (Nat.lt_succ_self _)))
 ·clear h;rintro e st ⟨Xk3,Rk3,rfl,rfl,f,h⟩
  rw [Em] at h
  refine BW k g i rfl b f (KU c f) (KU c f) ?_
  refine rg [4] hs ?_
  exact rt h hs b f
def BM (n:Nat) (q:List Msg) (b:Msg→Option Bool):Option Bool :=
 (Dj n q b).bind fun h =>
 some (decide (0≤h))
theorem It (w0:World) (n:Nat) (B:Ao) (Rw:Au) (L:As) (a0:List Msg) (fa1:FuncId) (ca1:List AV) (a1:Msg→Option Bool) (ha1:∀ (x0:Msg) r,a1 x0=some r→∀ B' rows,B <+: B'→Rw <+: rows→ACalls Tryz.prog w0 fa1 ([.agg ((Ak x0.stamp.1::([.list (x0.stamp.2.map AU) .none]))++(Ak x0.mass::(.list (x0.origins.map AU) .none::(x0.body.cs))))]++ca1) ⟨B',rows,L⟩ fun v s=>v = .val (.bool r)∧s=⟨B',rows,L⟩) (r:Bool) (h:BM n a0 a1=some r) :
  ACalls Tryz.prog w0 82 [.list (a0.map A9) .none,.clo fa1 ca1] ⟨B,Rw,L⟩ fun x st=>x = .val (.bool r)∧st=⟨B,Rw,L⟩:=by
 rw [BM] at h
 refine hd [.tmp 4] Tryz.func82 Tryz.ntmps82 fun M0 W0 m i j b l g hs=>?_
 simp only [Az]
 have e:=Dw (l (.clo fa1 ca1) (by simp))
 refine rg [0,1] hs ?_
 obtain ⟨o,f,h⟩:=bind_some h
 refine rc 2 [4] hs ?_;intro K2 c
 refine Aw _ (JV w0 n _ _ _ a0 fa1 ca1 a1 (fun x0 r k d a q1 q2=>ha1 x0 r k d a (List.IsPrefix.trans px q1) (g.pre.trans q2)) _ f) (hv hs) ?_
 refine ne hs c ?_
 clear c
 exact rt h hs b g
def DC (n:Nat) (h:List Int) (b:List Int):Option Int :=
 if decide ((h.length:Int)<(b.length:Int)) then
  some ((-1))
 else
  some (0)
def Bc (n:Nat) (y:List Int) (q:List Int) (a2:Int→Int→Option Int):Nat→Int→Option Int
 | 0,_=>none
 | m+1,b =>
  if decide (b<(y.length:Int)) then
   (EA y b).bind fun x12 =>
   if decide ((q.length:Int)≤b) then
    some (1)
   else
    (EA q b).bind fun x18 =>
    (a2 x12 x18).bind fun h =>
    if !(decide (h=0)) then
     some (h)
    else
     if Ba (b+1) then
      (Bc n y q a2 m) (b+1)
     else none
  else
   DC n y q 
def DY (n:Nat) (q:List Int) (h:List Int) (b:Int→Int→Option Int):Option Int :=
 Bc n q h b n 0
theorem KL (w0:World) (n:Nat) (B:Ao) (Rw:Au) (L:As) (a0:List Int) (a1:List Int) (fa2:FuncId) (ca2:List AV) (a2:Int→Int→Option Int) (ha2:∀ (x0:Int) (x1:Int) r,a2 x0 x1=some r→∀ B' rows,B <+: B'→Rw <+: rows→ACalls Tryz.prog w0 fa2 ([Ak x0,Ak x1]++ca2) ⟨B',rows,L⟩ fun v s=>v=Ak r∧s=⟨B',rows,L⟩) (r:Int) (h:DY n a0 a1 a2=some r) :
  ACalls Tryz.prog w0 73 [.list (a0.map AU) .none,.list (a1.map AU) .none,.clo fa2 ca2] ⟨B,Rw,L⟩ fun x st=>x=Ak r∧st=⟨B,Rw,L⟩:=by
 rw [DY] at h
 refine hd [.tmp 6] Tryz.func73 Tryz.ntmps73 fun M0 W0 j g i b l f hs=>?_
 simp only [Az]
 have c:=Dw (l (.clo fa2 ca2) (by simp))
 refine rg [0,1,2] hs ?_
 refine AB (fun e st=>Ck e st B Rw L [(0,true,.list (a0.map AU) .none),(1,true,.list (a1.map AU) .none)] [] [] (DC n a0 a1  = some r)) ?_ ?_
 ·intro K4 k
  refine rg [0,1,2,11,12,13] hs ?_
  apply Ar
  refine Ax (fun m e st=>∃ (d:Int),Ck e st B Rw L [(0,true,.list (a0.map AU) .none),(1,true,.list (a1.map AU) .none),(2,true,.clo fa2 ca2),(11,true,.list (a0.map AU) .none),(12,true,Ak (a0.length:Int)),(13,true,Ak d)] [] [] (Bc n a0 a1 a2 m d=some r)) n ⟨0,([]),Rw,ef hs,ef hs,f,h⟩ ?_
  rintro ml6 e st ⟨d,Xl6,Rl6,rfl,rfl,f,h⟩ Ul6 Vl6
  cases ml6 with
  | zero=>cases h
  | succ ml6 =>
  rw [Bc] at h
  refine BW j g i rfl b f (KU c f) (KU c f) ?_
  exact go (tg (a:=([0,1,2,11,12,13,14],([0,1,2,11,12,13],[0,1,2,7,8,11,12,13],[0,1,2,7,8,11,12,13,21],([6],()),[0,1,2,7,8,11,12,13],[0,1,2,8,9,11,12,13],[0,1,2,10,11,12,13],[0,1,2,10,11,12,13,31],([6],()),[0,1,2,11,12,13],[0,1,2,11,12,13],()),[0,1],()))) h hs j g i b f (q1 ha2) (q2 k (fun e s=>Vl6 ml6 e s (Nat.lt_succ_self _)))
 ·clear h;rintro e st ⟨Xk3,Rk3,rfl,rfl,f,h⟩
  rw [DC] at h
  refine BW j g i rfl b f (KU c f) (KU c f) ?_
  exact go (tg (a:=([38],([6],()),[],[6],()))) h hs j g i b f trivial trivial
def BQ (h:Int) (b:Int):Int :=
 if h<b then -1 else if h=b then 0 else 1
theorem Nn (w0:World) (B:Ao) (Rw:Au) (L:As) (a0:Int) (a1:Int) (r:Int) (h:BQ a0 a1=r) :
  ACalls Tryz.prog w0 74 [Ak a0,Ak a1] ⟨B,Rw,L⟩ fun x st=>x=Ak r∧st=⟨B,Rw,L⟩:=by
 rw [BQ] at h
 refine hd [.tmp 4] Tryz.func74 Tryz.ntmps74 fun M0 W0 e c d b g f hs=>?_
 simp only [Az]
 exact go (tg (a:=([0,1],[4],()))) h hs e c d b f (q1 (II w0)) trivial
theorem MB (w0:World) (B:Ao) (Rw:Au) (L:As) (a0:Int) (a1:Int) :
  ACalls Tryz.prog w0 74 [Ak a0,Ak a1] ⟨B,Rw,L⟩ fun x st=>x=Ak (BQ a0 a1)∧st=⟨B,Rw,L⟩:=Nn w0 B Rw L a0 a1 _ rfl
def Gx (n:Nat) (h:Int × List Int) (b:Int × List Int):Option Int :=
 (DY n h.2 b.2 (fun (x0:Int) (x1:Int)=>some (BQ x0 x1))).bind fun q =>
 (FO n ([if h.1<b.1 then -1 else if h.1=b.1 then 0 else 1,q])).bind fun y =>
 some (y)
theorem Ou (w0:World) (n:Nat) (B:Ao) (Rw:Au) (L:As) (a0:Int × List Int) (a1:Int × List Int) (r:Int) (h:Gx n a0 a1=some r) :
  ACalls Tryz.prog w0 44 [.agg (Ak a0.1::([.list (a0.2.map AU) .none])),.agg (Ak a1.1::([.list (a1.2.map AU) .none]))] ⟨B,Rw,L⟩ fun x st=>x=Ak r∧st=⟨B,Rw,L⟩:=by
 rw [Gx] at h
 refine hd [.tmp 4] Tryz.func44 Tryz.ntmps44 fun M0 W0 i c d b o k hs=>?_
 simp only [Az]
 refine rg [2,3] hs ?_
 obtain ⟨p,hy3,h⟩:=bind_some h
 obtain ⟨m,f,h⟩:=bind_some h
 apply Am;intro K2 e
 refine dk 13 4 1 [4] hs PQ ?_
 refine Aw _ (II w0 _ _ _ a0.1 a1.1) (hv hs) ?_
 refine nc hs ?_
 refine Aw _ (KL w0 n _ _ _ a0.2 a1.2 74 [] (fun (x0:Int) (x1:Int)=>some (BQ x0 x1)) (fun x0 x1 r hx l rows' g j=>by cases hx;exact MB w0 _ _ _ x0 x1) _ hy3) (hv hs) ?_
 exact go (tg (a:=((),()))) h hs i c d b k (q1 (Jr w0 n)) (q1 e)
def B5 (n:Nat) (q:Int × List Int) (b:Int × List Int):Option Bool :=
 (Gx n q b).bind fun h =>
 some (decide (h=0))
theorem Eg (w0:World) (n:Nat) (B:Ao) (Rw:Au) (L:As) (a0:Int × List Int) (a1:Int × List Int) (r:Bool) (h:B5 n a0 a1=some r) :
  ACalls Tryz.prog w0 24 [.agg (Ak a0.1::([.list (a0.2.map AU) .none])),.agg (Ak a1.1::([.list (a1.2.map AU) .none]))] ⟨B,Rw,L⟩ fun x st=>x = .val (.bool r)∧st=⟨B,Rw,L⟩:=by
 rw [B5] at h
 refine hd [.tmp 4] Tryz.func24 Tryz.ntmps24 fun M0 W0 e c d b g f hs=>?_
 simp only [Az]
 exact go (tg (a:=([2,3],[4],()))) h hs e c d b f (q1 (Ou w0 n)) trivial
def BL (n:Nat) (q:Msg) (b:Msg):Option Bool :=
 (B5 n q.stamp b.stamp).bind fun h =>
 some (h)
theorem JI (w0:World) (n:Nat) (B:Ao) (Rw:Au) (L:As) (a0:Msg) (la1:Nat) (a1:Msg) (hla1:B[la1]? = some ((Ak a1.stamp.1::([.list (a1.stamp.2.map AU) .none]))++(Ak a1.mass::(.list (a1.origins.map AU) .none::(a1.body.cs))))) (r:Bool) (h:BL n a0 a1=some r) :
  ACalls Tryz.prog w0 83 [.agg ((Ak a0.stamp.1::([.list (a0.stamp.2.map AU) .none]))++(Ak a0.mass::(.list (a0.origins.map AU) .none::(a0.body.cs)))),.box la1 0] ⟨B,Rw,L⟩ fun x st=>x = .val (.bool r)∧st=⟨B,Rw,L⟩:=by
 rw [BL] at h
 refine hd [.tmp 3] Tryz.func83 Tryz.ntmps83 fun M0 W0 f d e b i g hs=>?_
 simp only [Az]
 have c:=(Aj.1 hla1).1
 have hs:=Ad (BZ hla1) hs
 exact go (tg (a:=([1,2],[3],()))) h hs f d e b g (q1 (Eg w0 n)) trivial
def Bo (h:Int) (b:Int):Int :=
 if (((decide (h<((-999999999999999))))||(decide (999999999999999<h)))||(decide (b<0)))||(decide (17592186044416<b)) then
  2
 else
  0
theorem OH (w0:World) (B:Ao) (Rw:Au) (L:As) (a0:Int) (a1:Int) (r:Int) (h:Bo a0 a1=r) :
  ACalls Tryz.prog w0 45 [Ak a0,Ak a1] ⟨B,Rw,L⟩ fun x st=>x=Ak r∧st=⟨B,Rw,L⟩:=by
 rw [Bo] at h
 refine hd [.tmp 4] Tryz.func45 Tryz.ntmps45 fun M0 W0 e c d b g f hs=>?_
 simp only [Az]
 exact go (tg (a:=([0,1],[18],([4],()),[],[4],()))) h hs e c d b f trivial trivial
theorem Jf (w0:World) (B:Ao) (Rw:Au) (L:As) (a0:Int) (a1:Int) :
  ACalls Tryz.prog w0 45 [Ak a0,Ak a1] ⟨B,Rw,L⟩ fun x st=>x=Ak (Bo a0 a1)∧st=⟨B,Rw,L⟩:=OH w0 B Rw L a0 a1 _ rfl
def B7 (n:Nat)  (pla0_k39_0:List Msg) (pla0_k39_1:Int):Option (Int × Chk) :=
 some ((0,Chk.mk pla0_k39_0 pla0_k39_1))
def A1 (n:Nat) (y:Slt):Nat→Int→(List Msg)→Int→Option (Int × Chk)
 | 0,_,_,_=>none
 | m+1,b,pla0_l42_0,pla0_l42_1 =>
  if decide (b<(y.values.length:Int)) then
   (EA y.values b).bind fun q =>
   if decide (pla0_l42_1=4096) then
    some ((9,Chk.mk pla0_l42_0 pla0_l42_1))
   else
    (GP n q).bind fun h =>
    if !(decide (h=0)) then
     some ((h,Chk.mk pla0_l42_0 pla0_l42_1))
    else
     if Ba (pla0_l42_1+1) then
      if Ba (b+1) then
       (A1 n y m) (b+1) pla0_l42_0 (pla0_l42_1+1)
      else none
     else none
  else
   B7 n pla0_l42_0 pla0_l42_1
def Ci (n:Nat) (h:Chk) (b:Slt) (pla0_k8_0:List Msg):Option (Int × Chk) :=
 A1 n b n 0 pla0_k8_0 h.values
def A2 (n:Nat) (q:Chk) (a1:Slt):Nat→Int→(List Msg)→Option (Int × Chk)
 | 0,_,_=>none
 | m+1,b,pla0_l11_0 =>
  if decide (b<(a1.items.length:Int)) then
   (EA a1.items b).bind fun h =>
   if decide ((pla0_l11_0.length:Int)=256) then
    some ((9,Chk.mk pla0_l11_0 q.values))
   else
    (EU n h).bind fun y =>
    if !(decide (y=0)) then
     some ((y,Chk.mk pla0_l11_0 q.values))
    else
     (BM n pla0_l11_0 (fun (x0:Msg)=>BL n x0 h)).bind fun y30 =>
     if y30 then
      some ((7,Chk.mk pla0_l11_0 q.values))
     else
      if (pla0_l11_0.length+1)*152≤140737488355328∧pla0_l11_0.length+1≤4611686018427387904 then
       if Ba (b+1) then
        (A2 n q a1 m) (b+1) (pla0_l11_0++([h]))
       else none
      else none
  else
   Ci n q a1 pla0_l11_0
def BC (n:Nat) (h:Chk) (b:Slt):Option (Int × Chk) :=
 if !(decide ((Bo b.number b.time)=0)) then
  some ((Bo b.number b.time,h))
 else
  A2 n h b n 0 h.items
theorem KO (w0:World) (hT:Lib.Utf8Tabs 1 2 w0) (n:Nat) (B:Ao) (Rw:Au) (L:As) (la0:Nat) (a0:Chk) (oa0:Ev.Own) (hla0:B[la0]? = some ([.list (a0.items.map A9) oa0,Ak a0.values])) (hGa0:Owns Rw Rw [(10,a0.items.length,oa0)] oa0) (a1:Slt) (r:Int × Chk) (h:BC n a0 a1=some r) :
  ACalls Tryz.prog w0 49 [.box la0 0,.agg ((a1.key.cs)++(Ak a1.number::(Ak a1.time::(.list (a1.items.map A9) .none::([.list (a1.values.map B1) .none])))))] ⟨B,Rw,L⟩ fun x st=>x=Ak r.1∧∃ (R1:Au) (o1:Ev.Own),st=⟨(B.set la0 ([.list (r.2.items.map A9) o1,Ak r.2.values])),R1,L⟩∧Owns Rw R1 [(10,r.2.items.length,o1)] oa0:=by
 rw [BC] at h
 refine ACalls.finG (DO (rs:=[.tmp 4]) Tryz.func49 rfl rfl Tryz.ntmps49 (A0 Tryz.func49 rfl (by decide)) (Nat.le_of_ble_eq_true rfl) ?_)
 intro M0 W0 hN U V k hu
 dsimp only at hN U V k hu
 simp only [Az]
 have j:=hGa0
 have hs:=Zh5
 have a5:=(Aj.1 hla0).1
 have hs:=Ad (BZ hla0) hs
 refine rg [0,3] hs ?_
 apply Am;intro K2 az
 refine rc 2 [0,3,5] hs ?_;intro K3 ax
 refine Aw _ (Jf w0 _ _ _ a1.number a1.time) (hv hs) ?_
 refine ne hs ax ?_
 clear ax
 refine rg [0,3,5,18] hs ?_
 refine F6 h hs ?_ ?_<;>intro hs h
 ·have l:=hs.1
  refine rg [4] hs ?_
  apply BB;simp +decide only [go_sem,Nat.reduceAdd,BZ hla0,l]
  have hgt:=Option.some.inj h;subst hgt
  have O:=j.unders
  simp only [List.mem_cons,List.not_mem_nil,or_false,forall_eq_or_imp,forall_eq] at O
  refine MX j (GU k j.len) rfl ev ⟨?_,_,_,?_,(j.sub (List.sublist_append_left [_] _)).len1 Ey⟩
  all_goals first | rfl | (simp +decide only [go_sem,Nat.reduceAdd,BZ hla0,l];done) | (simp +decide only [go_sem,Nat.reduceAdd,Vl.cs,Ty.cs,BZ hla0,l];done)
 have l:=hs.1
 refine sk [0,3] hs az ?_
 clear az
 refine AB (fun e st=>∃ (p:List Msg) (t:Ev.Own) (Xk8:Ao) (Rk8:Au),e=[(0,true,.box la0 0),(3,true,.box B.length 0)]∧st=⟨(B.set la0 ([.list (p.map A9) t,Ak a0.values]))++([(a1.key.cs)++(Ak a1.number::(Ak a1.time::(.list (a1.items.map A9) .none::([.list (a1.values.map B1) .none]))))]++Xk8),Rk8,L⟩∧Owns Rw Rk8 [(10,p.length,t)] oa0∧Ci n a0 a1 p=some r) ?_ ?_
 ·intro K9 ba
  refine rg [0,3,21,22,23] hs ?_
  apply Ar
  refine Ax (fun m e st=>∃ (F:Int) (b:List Msg) (o:Ev.Own) (Xl11:Ao) (Rl11:Au),e=[(0,true,.box la0 0),(3,true,.box B.length 0),(21,true,.list (a1.items.map A9) .none),(22,true,Ak (a1.items.length:Int)),(23,true,Ak F)]∧st=⟨(B.set la0 ([.list (b.map A9) o,Ak a0.values]))++([(a1.key.cs)++(Ak a1.number::(Ak a1.time::(.list (a1.items.map A9) .none::([.list (a1.values.map B1) .none]))))]++Xl11),Rl11,L⟩∧Owns Rw Rl11 [(10,b.length,o)] oa0∧A2 n a0 a1 m F b=some r) n ⟨0,a0.items,oa0,([]),Rw,ef hs,ef hs,Owns.of_eq (j) Ey,h⟩ ?_
  rintro ml11 e st ⟨F,b,o,Xl11,Rl11,rfl,rfl,j,h⟩ Ul11 Vl11
  cases ml11 with
  | zero=>cases h
  | succ ml11 =>
  rw [A2] at h
  have O:=j.unders
  simp only [List.mem_cons,List.not_mem_nil,or_false,forall_eq_or_imp,forall_eq] at O
  refine L6 hN U V ls_ (ER (GU k j.len) ow) j ow ow ?_
  refine rg [0,3,21,22,23,24] hs ?_
  apply Am;intro K13 ae
  refine F6 h hs ?_ ?_<;>intro hs h
  rotate_left
  ·have v:=hs.1
   refine sx [0,3] hs ba ?_
   exact ⟨b,o,([]),Rl11,ef hs,ef hs,Owns.of_eq (j) Ey,h⟩
  have v:=hs.1
  refine sk [0,3,21,22,23] hs ae ?_
  clear ae
  apply Am;intro K15 ah
  apply Ar
  obtain ⟨G,ay,h⟩:=bind_some h
  obtain ⟨a9,a6,ar⟩:=Fq ay
  have d:=Fe (f:=A9) ar
  have hs:=Ad d hs
  refine rg [0,3,7,21,22,23] hs ?_
  apply Am;intro K18 ap
  refine rg [0,3,7,21,22,23,32] hs ?_
  refine F6 h hs ?_ ?_<;>intro hs h
  ·have w:=hs.1
   refine rg [4] hs ?_
   apply BB;simp +decide only [go_sem,Nat.reduceAdd,BZ hla0,l,v,d,w]
   have hgt:=Option.some.inj h;subst hgt
   have O:=j.unders
   simp only [List.mem_cons,List.not_mem_nil,or_false,forall_eq_or_imp,forall_eq] at O
   refine MX j (ER (GU k j.len) ow) ls_ ev ⟨?_,_,_,?_,(j.sub (List.sublist_append_left [_] _)).len1 Ey⟩
   all_goals first | rfl | (simp +decide only [go_sem,Nat.reduceAdd,BZ hla0,l,v,d,w];done) | (simp +decide only [go_sem,Nat.reduceAdd,Vl.cs,Ty.cs,BZ hla0,l,v,d,w];done)
  have w:=hs.1
  refine sk [0,3,7,21,22,23] hs ap ?_
  clear ap
  apply Am;intro K22 ag
  obtain ⟨bj,aw,h⟩:=bind_some h
  refine rc 2 [0,3,7,8,21,22,23] hs ?_;intro K23 Z
  refine Aw _ (Om w0 hT n _ _ _ G _ aw) (hv hs) ?_
  refine ne hs Z ?_
  clear Z
  refine rg [0,3,7,8,21,22,23,36] hs ?_
  refine F6 h hs ?_ ?_<;>intro hs h
  ·have D:=hs.1
   refine rg [4] hs ?_
   apply BB;simp +decide only [go_sem,Nat.reduceAdd,BZ hla0,l,v,d,w,D]
   have hgt:=Option.some.inj h;subst hgt
   have O:=j.unders
   simp only [List.mem_cons,List.not_mem_nil,or_false,forall_eq_or_imp,forall_eq] at O
   refine MX j (ER (GU k j.len) ow) ls_ ev ⟨?_,_,_,?_,(j.sub (List.sublist_append_left [_] _)).len1 Ey⟩
   all_goals first | rfl | (simp +decide only [go_sem,Nat.reduceAdd,BZ hla0,l,v,d,w,D];done) | (simp +decide only [go_sem,Nat.reduceAdd,Vl.cs,Ty.cs,BZ hla0,l,v,d,w,D];done)
  have D:=hs.1
  refine sk [0,3,7,21,22,23] hs ag ?_
  clear ag
  apply Am;intro K28 am
  obtain ⟨bi,a4,h⟩:=bind_some h
  refine rc 2 [0,3,7,21,22,23,43] hs ?_;intro K29 ab
  refine Aw _ (It w0 n _ _ _ b 83 [.box (B.length+1) 0] (fun (x0:Msg)=>BL n x0 G) (fun x0 r hx B' rows' bc bg=>by exact JI w0 n _ _ _ x0 _ G (Yl bc (ef hs)) _ hx) _ a4) (hv hs) ?_
  refine ne hs ab ?_
  clear ab
  refine F6 h hs ?_ ?_<;>intro hs h
  ·have K:=hs.1
   refine rg [4] hs ?_
   apply BB;simp +decide only [go_sem,Nat.reduceAdd,BZ hla0,l,v,d,w,D,K]
   have hgt:=Option.some.inj h;subst hgt
   have O:=j.unders
   simp only [List.mem_cons,List.not_mem_nil,or_false,forall_eq_or_imp,forall_eq] at O
   refine MX j (ER (GU k j.len) ow) ls_ ev ⟨?_,_,_,?_,(j.sub (List.sublist_append_left [_] _)).len1 Ey⟩
   all_goals first | rfl | (simp +decide only [go_sem,Nat.reduceAdd,BZ hla0,l,v,d,w,D,K];done) | (simp +decide only [go_sem,Nat.reduceAdd,Vl.cs,Ty.cs,BZ hla0,l,v,d,w,D,K];done)
  have K:=hs.1
  refine sk [0,3,7,21,22,23] hs am ?_
  clear am
  obtain ⟨ao,h⟩:=An h
  obtain ⟨a7,Y,j,q⟩:=j.append (P:=Tryz.prog) Yc (by rw [Qd];rfl) (by decide) 1 ao.1 ao.2
  replace q:=fun (ys:List AV) B L o2=>q (b.map A9) ys B L o2 Ey
  replace q:=fun (y:AV) B L o2=>q [y] B L o2 Ey ev
  try simp only [List.mem_singleton,List.mem_cons,List.not_mem_nil,or_false,forall_eq_or_imp,forall_eq,List.map_append,List.map_cons,List.map_nil,IX,Iu,Il,IA,Ip,IR,G8,GX,Ir,EP,ES,Hf,Hk,GV,Iz,Hj,IE] at q
  apply Lj PQ [7,10] [4] [0,3,21,22,23] kr (fun s=>∃ (X:Ao) (rows:Au) (ai:List AV),s=⟨(B.set la0 ai)++([(a1.key.cs)++(Ak a1.number::(Ak a1.time::(.list (a1.items.map A9) .none::([.list (a1.values.map B1) .none])))),(Ak G.stamp.1::([.list (G.stamp.2.map AU) .none]))++(Ak G.mass::(.list (G.origins.map AU) .none::(G.body.cs)))]++X),rows,L⟩) 3 (B.length+2)
  ·simp +decide only [go_sem,Nat.reduceAdd]
  ·refine ⟨1,?_⟩
   rw [Ap];simp +decide only [go_sem,Nat.reduceAdd,Bj,BZ hla0,l,v,d,w,D,K,q]
   (repeat' apply Ad)<;>first | rfl | exact cl
  ·rintro s ⟨X,rows,ai,rfl⟩
   refine ⟨1,?_⟩
   rw [Ap];simp +decide only [go_sem,Nat.reduceAdd,Bj,List.append_eq,List.cons_append,List.nil_append,BZ hla0,l,v,d,w,D,K,q]
   have hs:=Ad q hs
   (repeat' apply Ad)<;>first | rfl | ((repeat (first | exact .nil | refine .cons (ef hs) ?_));done) | exact cl
  ·exact gd (tg (a:=(7,10,[0,3,21,22,23]))) (Ad q (Ad d (Ad (BZ hla0) hs)))
  simp +decide only [go_sem,Nat.reduceAdd,BZ hla0,l,v,d,w,D,K,q]
  (repeat' apply Ad)<;>first | refine ah _ _ ?_ | exact cl
  clear ah
  obtain ⟨be,h⟩:=An h
  have hs:=Ad q hs
  refine rl [0,3,21,22,23] hs (fun e s=>Vl11 ml11 e s (Nat.lt_succ_self _)) ?_
  exact ⟨(F+1),(b++([G])),a7,([(Ak G.stamp.1::([.list (G.stamp.2.map AU) .none]))++(Ak G.mass::(.list (G.origins.map AU) .none::(G.body.cs)))]),Y,ef hs,ef hs,Owns.of_eq (j) Ey,h⟩
 ·clear h;rintro e st ⟨p,t,Xk8,Rk8,rfl,rfl,j,h⟩
  rw [Ci] at h
  have O:=j.unders
  simp only [List.mem_cons,List.not_mem_nil,or_false,forall_eq_or_imp,forall_eq] at O
  refine L6 hN U V ls_ (ER (GU k j.len) ow) j ow ow ?_
  refine AB (fun e st=>∃ (u:List Msg) (C:Int) (z:Ev.Own) (Xk39:Ao) (Rk39:Au),e=[]∧st=⟨(B.set la0 ([.list (u.map A9) z,Ak C]))++([(a1.key.cs)++(Ak a1.number::(Ak a1.time::(.list (a1.items.map A9) .none::([.list (a1.values.map B1) .none]))))]++Xk39),Rk39,L⟩∧Owns Rw Rk39 [(10,u.length,z)] oa0∧B7 n u C=some r) ?_ ?_
  ·intro K40 a3
   refine rg [0,56,57,58] hs ?_
   apply Ar
   refine Ax (fun m e st=>∃ (H:Int) (c:List Msg) (i:Int) (g:Ev.Own) (Xl42:Ao) (Rl42:Au),e=[(0,true,.box la0 0),(56,true,.list (a1.values.map B1) .none),(57,true,Ak (a1.values.length:Int)),(58,true,Ak H)]∧st=⟨(B.set la0 ([.list (c.map A9) g,Ak i]))++([(a1.key.cs)++(Ak a1.number::(Ak a1.time::(.list (a1.items.map A9) .none::([.list (a1.values.map B1) .none]))))]++Xl42),Rl42,L⟩∧Owns Rw Rl42 [(10,c.length,g)] oa0∧A1 n a1 m H c i=some r) n ⟨0,p,a0.values,t,([]),Rk8,ef hs,ef hs,Owns.of_eq (j) Ey,h⟩ ?_
   rintro ml42 e st ⟨H,c,i,g,Xl42,Rl42,rfl,rfl,j,h⟩ Ul42 Vl42
   cases ml42 with
   | zero=>cases h
   | succ ml42 =>
   rw [A1] at h
   have O:=j.unders
   simp only [List.mem_cons,List.not_mem_nil,or_false,forall_eq_or_imp,forall_eq] at O
   refine L6 hN U V ls_ (ER (GU k j.len) ow) j ow ow ?_
   refine rg [0,56,57,58,59] hs ?_
   apply Am;intro K44 af
   refine F6 h hs ?_ ?_<;>intro hs h
   rotate_left
   ·have J:=hs.1
    refine sx [] hs a3 ?_
    exact ⟨c,i,g,([]),Rl42,ef hs,ef hs,Owns.of_eq (j) Ey,h⟩
   have J:=hs.1
   refine sk [0,56,57,58] hs af ?_
   clear af
   apply Am;intro K46 ad
   apply Ar
   obtain ⟨a2,au,h⟩:=bind_some h
   obtain ⟨a8,bb,aq⟩:=Fq au
   have E:=Fe (f:=B1) aq
   have hs:=Ad E hs
   refine rg [0,10,56,57,58] hs ?_
   apply Am;intro K49 aa
   refine rg [0,10,56,57,58,66] hs ?_
   refine F6 h hs ?_ ?_<;>intro hs h
   ·have N:=hs.1
    refine rg [4] hs ?_
    apply BB;simp +decide only [go_sem,Nat.reduceAdd,BZ hla0,l,J,E,N]
    have hgt:=Option.some.inj h;subst hgt
    have O:=j.unders
    simp only [List.mem_cons,List.not_mem_nil,or_false,forall_eq_or_imp,forall_eq] at O
    refine MX j (ER (GU k j.len) ow) ls_ ev ⟨?_,_,_,?_,(j.sub (List.sublist_append_left [_] _)).len1 Ey⟩
    all_goals first | rfl | (simp +decide only [go_sem,Nat.reduceAdd,BZ hla0,l,J,E,N];done) | (simp +decide only [go_sem,Nat.reduceAdd,Vl.cs,Ty.cs,BZ hla0,l,J,E,N];done)
   have N:=hs.1
   refine sk [0,10,56,57,58] hs aa ?_
   clear aa
   apply Am;intro K53 ak
   obtain ⟨bh,av,h⟩:=bind_some h
   refine rc 2 [0,11,56,57,58] hs ?_;intro K54 aj
   refine Aw _ (Nc w0 hT n _ _ _ a2 _ av) (hv hs) ?_
   refine ne hs aj ?_
   clear aj
   refine rg [0,11,56,57,58,70] hs ?_
   refine F6 h hs ?_ ?_<;>intro hs h
   ·have Q:=hs.1
    refine rg [4] hs ?_
    apply BB;simp +decide only [go_sem,Nat.reduceAdd,BZ hla0,l,J,E,N,Q]
    have hgt:=Option.some.inj h;subst hgt
    have O:=j.unders
    simp only [List.mem_cons,List.not_mem_nil,or_false,forall_eq_or_imp,forall_eq] at O
    refine MX j (ER (GU k j.len) ow) ls_ ev ⟨?_,_,_,?_,(j.sub (List.sublist_append_left [_] _)).len1 Ey⟩
    all_goals first | rfl | (simp +decide only [go_sem,Nat.reduceAdd,BZ hla0,l,J,E,N,Q];done) | (simp +decide only [go_sem,Nat.reduceAdd,Vl.cs,Ty.cs,BZ hla0,l,J,E,N,Q];done)
   have Q:=hs.1
   refine sk [0,56,57,58] hs ak ?_
   clear ak
   obtain ⟨bd,h⟩:=An h
   refine rl [0,56,57,58] hs ad ?_
   clear ad
   obtain ⟨bf,h⟩:=An h
   refine rl [0,56,57,58] hs (fun e s=>Vl42 ml42 e s (Nat.lt_succ_self _)) ?_
   exact ⟨(H+1),c,(i+1),g,([a2.cs]),Rl42,ef hs,ef hs,Owns.of_eq (j) Ey,h⟩
  ·clear h;rintro e st ⟨u,C,z,Xk39,Rk39,rfl,rfl,j,h⟩
   rw [B7] at h
   have O:=j.unders
   simp only [List.mem_cons,List.not_mem_nil,or_false,forall_eq_or_imp,forall_eq] at O
   refine L6 hN U V ls_ (ER (GU k j.len) ow) j ow ow ?_
   refine rg [4] hs ?_
   apply BB;simp +decide only [go_sem,Nat.reduceAdd,BZ hla0,l]
   have hgt:=Option.some.inj h;subst hgt
   have O:=j.unders
   simp only [List.mem_cons,List.not_mem_nil,or_false,forall_eq_or_imp,forall_eq] at O
   refine MX j (ER (GU k j.len) ow) ls_ ev ⟨?_,_,_,?_,(j.sub (List.sublist_append_left [_] _)).len1 Ey⟩
   all_goals first | rfl | (simp +decide only [go_sem,Nat.reduceAdd,BZ hla0,l];done) | (simp +decide only [go_sem,Nat.reduceAdd,Vl.cs,Ty.cs,BZ hla0,l];done)
def DL (n:Nat) (h:Int→(List Msg)→Int→Option Int) (b:Int) (b1_l16_1:Int) (y:Slt) (b1_k30_0:List Msg):Option Int :=
 (BC n (Chk.mk b1_k30_0 b1_l16_1) y).bind fun q =>
 if !(decide (q.1=0)) then
  some (q.1)
 else
  if Ba (b+1) then
   h (b+1) q.2.items q.2.values
  else none
def Gu (n:Nat)  (b1_k13_0:List Msg) (b1_k13_1:Int):Option Int :=
 some (0)
def BG (n:Nat) (y:Stt):Nat→Int→(List Msg)→Int→Option Int
 | 0,_,_,_=>none
 | m+1,b,b1_l16_0,b1_l16_1 =>
  if decide (b<(y.slots.length:Int)) then
   (EA y.slots b).bind fun h =>
   (GP n h.key).bind fun y25 =>
   if (!(decide (y25=0)))&&(!(B9 h.key)) then
    some (y25)
   else
    if decide (0<b) then
     if Ba (b-1) then
      (EA y.slots (b-1)).bind fun x36 =>
      (D2 n h.key x36.key).bind fun q =>
      if decide (q=0) then
       some (7)
      else
       if decide (q=((-1))) then
        some (24)
       else
        DL n (BG n y m) b b1_l16_1 h b1_l16_0
     else none
    else
     DL n (BG n y m) b b1_l16_1 h b1_l16_0
  else
   Gu n b1_l16_0 b1_l16_1
def EY (n:Nat) (b:Stt):Option Int :=
 if !(decide ((Bo b.number b.time)=0)) then
  some (Bo b.number b.time)
 else
  if decide (1024<(b.slots.length:Int)) then
   some (9)
  else
   BG n b n 0 ([]) 0
theorem KV (w0:World) (hT:Lib.Utf8Tabs 1 2 w0) (n:Nat) (B:Ao) (Rw:Au) (L:As) (a0:Stt) (r:Int) (h:EY n a0=some r) :
  ACalls Tryz.prog w0 25 [.agg (Ak a0.number::(Ak a0.time::([.list (a0.slots.map A3) .none])))] ⟨B,Rw,L⟩ fun x st=>x=Ak r∧st=⟨B,Rw,L⟩:=by
 rw [EY] at h
 refine hd [.tmp 2] Tryz.func25 Tryz.ntmps25 fun M0 W0 Y u v j hu t hs=>?_
 simp only [Az]
 refine rg [1] hs ?_
 apply Am;intro K2 O
 refine rc 2 [1,3] hs ?_;intro K3 U
 refine Aw _ (Jf w0 _ _ _ a0.number a0.time) (hv hs) ?_
 refine ne hs U ?_
 clear U
 refine rg [1,3,15] hs ?_
 refine F6 h hs ?_ ?_<;>intro hs h
 ·refine rg [2] hs ?_
  exact rt h hs j t
 refine sk [1] hs O ?_
 clear O
 apply Am;intro K7 H
 refine rg [1,20] hs ?_
 refine F6 h hs ?_ ?_<;>intro hs h
 ·refine rg [2] hs ?_
  exact rt h hs j t
 refine sk [1] hs H ?_
 clear H
 refine rg [1,4] hs ?_
 refine AB (fun e st=>∃ (l:List Msg) (p:Int) (o:Ev.Own),Ck e st B Rw L [] [Ak a0.number::(Ak a0.time::([.list (a0.slots.map A3) .none])),[.list (l.map A9) o,Ak p]] [(10,l.length,o)] (Gu n l p=some r)) ?_ ?_
 ·intro K14 K
  refine rg [1,4,22,23,24] hs ?_
  apply Ar
  refine Ax (fun m e st=>∃ (k:Int) (d:List Msg) (b:Int) (g:Ev.Own),Ck e st B Rw L [(1,true,.box B.length 0),(4,true,.box (B.length+1) 0),(22,true,.list (a0.slots.map A3) .none),(23,true,Ak (a0.slots.length:Int)),(24,true,Ak k)] [Ak a0.number::(Ak a0.time::([.list (a0.slots.map A3) .none])),[.list (d.map A9) g,Ak b]] [(10,d.length,g)] (BG n a0 m k d b=some r)) n ⟨0,([]),0,.full,([]),Rw,ef hs,ef hs,Owns.of_eq ((t).full 10 0) Ey,h⟩ ?_
  rintro ml16 e st ⟨k,d,b,g,Xl16,Rl16,rfl,rfl,t,h⟩ Ul16 Vl16
  cases ml16 with
  | zero=>cases h
  | succ ml16 =>
  rw [BG] at h
  have hU:=t.unders
  simp only [List.mem_cons,List.not_mem_nil,or_false,forall_eq_or_imp,forall_eq] at hU
  refine td Y u v j t ?_
  refine rg [1,4,22,23,24,25] hs ?_
  apply Am;intro K18 z
  refine F6 h hs ?_ ?_<;>intro hs h
  rotate_left
  ·refine sx [] hs K ?_
   exact ⟨d,b,g,([]),Rl16,ef hs,ef hs,Owns.of_eq (t) Ey,h⟩
  refine sk [1,4,22,23,24] hs z ?_
  clear z
  apply Am;intro K20 J
  apply Ar
  obtain ⟨q,N,h⟩:=bind_some h
  obtain ⟨aa,ab,E⟩:=Fq N
  have F:=Fe (f:=A3) E
  have hs:=Ad F hs
  refine rg [1,4,5,6,22,23,24] hs ?_
  apply Am;intro K23 y
  obtain ⟨ae,V,h⟩:=bind_some h
  refine rc 2 [1,4,5,6,7,22,23,24] hs ?_;intro K24 D
  refine Aw _ (Nc w0 hT n _ _ _ q.key _ V) (hv hs) ?_
  refine ne hs D ?_
  clear D
  refine rc 2 [1,4,5,6,7,22,23,24,39] hs ?_;intro K26 C
  refine Yq _ (fun _=>KC w0 _ _ _ q.key) (hv hs) ?_
  refine ne hs C ?_
  clear C
  refine F6 h hs ?_ ?_<;>intro hs h
  ·refine rg [2] hs ?_
   exact rt h hs j t
  refine sk [1,4,5,6,22,23,24] hs y ?_
  clear y
  refine AB (fun e st=>∃ (c:List Msg) (i:Ev.Own),Ck e st B Rw L [(1,true,.box B.length 0),(4,true,.box (B.length+1) 0),(6,true,.box (B.length+2) 0),(22,true,.list (a0.slots.map A3) .none),(23,true,Ak (a0.slots.length:Int)),(24,true,Ak k)] [Ak a0.number::(Ak a0.time::([.list (a0.slots.map A3) .none])),[.list (c.map A9) i,Ak b],(q.key.cs)++(Ak q.number::(Ak q.time::(.list (q.items.map A9) .none::([.list (q.values.map B1) .none]))))] [(10,c.length,i)] (DL n (BG n a0 ml16) k b q c=some r)) ?_ ?_
  ·intro K31 G
   exact go (tg (a:=([1,4,5,6,22,23,24,42],([10,1,4,6,22,23,24,52],[1,4,6,22,23,24,52,53],([2],()),[1,4,6,22,23,24,55],([2],()),[1,4,6,22,23,24],()),[1,4,6,22,23,24],()))) h hs Y u v j t (q1 (KB w0 n)) (q1 G)
  ·clear h;rintro e st ⟨c,i,Xk30,Rk30,rfl,rfl,t,h⟩
   rw [DL] at h
   have hU:=t.unders
   simp only [List.mem_cons,List.not_mem_nil,or_false,forall_eq_or_imp,forall_eq] at hU
   refine td Y u v j t ?_
   obtain ⟨af,Q,h⟩:=bind_some h
   refine rc 2 [1,4,8,22,23,24] hs ?_;intro K44 Z
   refine RA _ (KO w0 hT n _ _ _ (B.length+1) (Chk.mk c b) i (ef hs) t.enter q _ Q) (hv hs) ?_;rintro _ _ ⟨rfl,Rg46,ad,rfl,w⟩
   have t:=t.call w
   exact go (tg (a:=([1,4,8,22,23,24,60],([2],()),[1,4,22,23,24],[1,4,22,23,24],()))) h hs Y u v j t trivial (q3 Z J (fun e s=>Vl16 ml16 e s (Nat.lt_succ_self _)))
 ·clear h;rintro e st ⟨l,p,o,Xk13,Rk13,rfl,rfl,t,h⟩
  rw [Gu] at h
  exact go (tg (a:=([2],()))) h hs Y u v j t trivial trivial
def Oo (k:Int):Prop := -999999999999999≤k∧k≤999999999999999
theorem Zdg (n:Nat) (l:List Int) (f:Int→Option Bool) (hf:∀ x∈l,∃ b,f x=some b) (hl:l.length≤1000000000):∀ (k m i:Nat),i+k=l.length→k<m→∃ c,Bt n l f m i=some c
 | k,0,i,_,h=>absurd h (Nat.not_lt_zero _)
 | 0,m+1,i,hi,_=>by
  rw [Bt,AX,Ac]
  exact ⟨_,rfl⟩
 | k+1,m+1,i,hi,hm=>by
  have a:i<l.length:=by omega
  obtain ⟨b,d⟩:=hf _ (List.getElem_mem a)
  rw [Bt,AX,Ag a,Ah rfl,AH a,Ae,d,Ae]
  by_cases h:b=true
  ·rw [Ah h];exact ⟨_,rfl⟩
  ·rw [Ai h,Ah (AG (by omega))]
   exact Zdg n l f hf hl k m (i+1) (by omega) (by omega)
theorem ZfD (n:Nat) (l:List Int) (f:Int→Option Bool) (hf:∀ x∈l,∃ b,f x=some b) (hl:l.length≤1000) (hn:10000≤n):∃ c,Ce n l f=some c:=by
 obtain ⟨c,e⟩:=Zdg n l f hf (by omega) l.length n 0 (by omega) (by omega)
 have e:Bt n l f n 0=some c:=e
 rw [Ce,EI,e]
 exact ⟨_,rfl⟩
theorem Zbf (n:Nat) (l:List Msg) (f:Msg→Option Bool) (hf:∀ x∈l,∃ b,f x=some b) (hl:l.length≤1000000000):∀ (k m i:Nat),i+k=l.length→k<m→∃ c,A5 n l f m i=some c
 | k,0,i,_,h=>absurd h (Nat.not_lt_zero _)
 | 0,m+1,i,hi,_=>by
  rw [A5,AX,Ac]
  exact ⟨_,rfl⟩
 | k+1,m+1,i,hi,hm=>by
  have a:i<l.length:=by omega
  obtain ⟨b,d⟩:=hf _ (List.getElem_mem a)
  rw [A5,AX,Ag a,Ah rfl,AH a,Ae,d,Ae]
  by_cases h:b=true
  ·rw [Ah h];exact ⟨_,rfl⟩
  ·rw [Ai h,Ah (AG (by omega))]
   exact Zbf n l f hf hl k m (i+1) (by omega) (by omega)
theorem Zgu (n:Nat) (l:List Msg) (f:Msg→Option Bool) (hf:∀ x∈l,∃ b,f x=some b) (hl:l.length≤1000) (hn:10000≤n):∃ c,BM n l f=some c:=by
 obtain ⟨c,e⟩:=Zbf n l f hf (by omega) l.length n 0 (by omega) (by omega)
 have e:A5 n l f n 0=some c:=e
 rw [BM,Dj,e]
 exact ⟨_,rfl⟩
theorem Zdp (n:Nat) (a b:List Int) (f:Int→Int→Option Int) (hl:a.length≤1000000000)
  (hr:∀ p q,∃ c,f p q=some c∧(c=0↔p=q)):∀ (k m i:Nat),i+k=a.length→k<m→∃ c,Bc n a b f m i=some c∧(c=0↔a.drop i=b.drop i)
 | k,0,i,_,h=>absurd h (Nat.not_lt_zero _)
 | 0,m+1,i,hi,_=>by
  rw [Bc,AX,Ac]
  simp only [Bool.false_eq_true,if_false]
  rw [DC,AX,List.drop_eq_nil_of_le (show a.length≤i by omega)]
  by_cases h:a.length<b.length
  ·rw [Ag h]
   simp only [if_true]
   exact ⟨-1,rfl,⟨fun h=>absurd h (by decide),fun e=>by have:=List.drop_eq_nil_iff.1 e.symm;omega⟩⟩
  ·rw [Af h]
   simp only [Bool.false_eq_true,if_false]
   exact ⟨0,rfl,⟨fun _=>(List.drop_eq_nil_of_le (by omega)).symm,fun _=>rfl⟩⟩
 | k+1,m+1,i,hi,hm=>by
  have g:i<a.length:=by omega
  rw [Bc,AX,Ag g]
  simp only [if_true,AH g,Ae,XN]
  by_cases d:i<b.length
  ·rw [Af (show ¬ b.length≤i by omega)]
   simp only [Bool.false_eq_true,if_false,AH d,Ae]
   obtain ⟨c,e,j⟩:=hr a[i] b[i]
   rw [e,LD _ _ i g d]
   simp only [Ae]
   by_cases h0:c=0
   ·rw [Ag h0]
    simp only [Bool.not_true,Bool.false_eq_true,if_false]
    rw [Ah (AG (by omega))]
    obtain ⟨o,l,d⟩:=Zdp n a b f hl hr k m (i+1) (by omega) (by omega)
    exact ⟨o,l,d.trans ⟨fun h=>⟨j.1 h0,h⟩,fun h=>h.2⟩⟩
   ·rw [Af h0]
    simp only [Bool.not_false,if_true]
    exact ⟨c,rfl,⟨fun h=>absurd h h0,fun h=>absurd (j.2 h.1) h0⟩⟩
  ·rw [Ag (show b.length≤i by omega)]
   simp only [if_true]
   refine ⟨1,rfl,⟨fun h=>absurd h (by decide),fun e=>?_⟩⟩
   rw [List.drop_eq_nil_of_le (show b.length≤i by omega)] at e
   have:=List.drop_eq_nil_iff.1 e
   omega
theorem Zm (n:Nat) (hn:10000≤n) (a b:Int × List Int) (ha:a.2.length≤1000):B5 n a b=some (decide (a=b)):=by
 obtain ⟨c,e,h⟩:=Zdp n a.2 b.2 (fun (x0:Int) (x1:Int)=>some (BQ x0 x1)) (by omega) (fun p q=>⟨_,rfl,by rw [BQ];exact O0 p q⟩) a.2.length n 0 (by omega) (by omega)
 have e:Bc n a.2 b.2 (fun (x0:Int) (x1:Int)=>some (BQ x0 x1)) n 0=some c:=e
 rw [List.drop_zero,List.drop_zero] at h
 obtain ⟨d,g,f⟩:=Za5 n [if a.1<b.1 then -1 else if a.1=b.1 then 0 else 1,c] (by simp only [List.length_cons,List.length_nil];omega) (by simp only [List.length_cons,List.length_nil];omega)
 rw [B5,Gx,DY,e,Ae,g,Ae,Ae]
 congr 1
 rw [decide_eq_decide,f]
 simp only [List.mem_cons,List.not_mem_nil,or_false,forall_eq_or_imp,forall_eq,O0,h]
 exact ⟨fun q=>Prod.ext q.1 q.2,fun q=>by rw [q];exact ⟨rfl,rfl⟩⟩
theorem ZbP (n:Nat) (hn:10000≤n) (a:Int × List Int) (ha:a.2.length≤1000):∃ c,Gf n a=some c:=by
 obtain ⟨b,e⟩:=ZfD n a.2 (fun (x0:Int)=>some (DR x0)) (fun x _=>⟨_,rfl⟩) ha hn
 rw [Gf]
 split
 ·exact ⟨_,rfl⟩
 split
 ·exact ⟨_,rfl⟩
 split
 ·exact ⟨_,rfl⟩
 rename_i h0 h1
 rw [e,Ae]
 have f:0<a.2.length:=by
  by_cases q:a.2.length=0
  ·exact absurd (Ag (by omega)) h0
  ·omega
 split
 ·exact ⟨_,rfl⟩
 rw [show (0:Int)=((0:Nat):Int) from rfl,AH f,Ae]
 split
 ·exact ⟨_,rfl⟩
 split
 ·exact ⟨_,rfl⟩
 split
 ·exact ⟨_,rfl⟩
 rename_i h3
 have d:1<a.2.length:=by
  by_cases q:a.2.length=1
  ·exact absurd (Ag (by omega)) h3
  ·omega
 rw [show (1:Int)=((1:Nat):Int) from rfl,AH d,Ae]
 split
 ·exact ⟨_,rfl⟩
 ·exact ⟨_,rfl⟩
theorem Zgm (n:Nat) (hn:1000000≤n) (v:Vl) (hv:v.size≤22621∧v.ok):∃ c,Ff n v=some c:=by
 rw [Ff]
 split
 ·exact ⟨_,rfl⟩
 split
 ·exact ⟨_,rfl⟩
 rw [OI n v (by omega) (by omega) hv.2]
 exact ⟨_,rfl⟩
theorem Zt (n:Nat) (hn:1000000≤n) (a:Msg) (ha:DJ a):∀ (k m i:Nat),i+k=a.origins.length→k<m→∃ c,BP n a m i=some c
 | k,0,i,_,h=>absurd h (Nat.not_lt_zero _)
 | 0,m+1,i,hi,_=>by
  obtain ⟨c,e⟩:=Zgm n hn a.body ⟨ha.2.2.1,ha.2.2.2⟩
  rw [BP,AX,Ac,Ai (by decide),E9,e]
  exact ⟨_,rfl⟩
 | k+1,m+1,i,hi,hm=>by
  have b:i<a.origins.length:=by omega
  have d:=ha.2.1
  have ih:=Zt n hn a ha k m (i+1) (by omega) (by omega)
  rw [BP,AX,Ag b,Ah rfl,AH b,Ae]
  split
  ·exact ⟨_,rfl⟩
  cases i with
  | zero=>rw [show decide ((0:Int)<((0:Nat):Int))=false from rfl,Ai (by decide),Ah (AG (by omega))];exact ih
  | succ j =>
   rw [NK,Ah rfl,LG,Ah (Oh (by omega)),AH (by omega),Ae]
   split
   ·exact ⟨_,rfl⟩
   rw [Ah (AG (by omega))];exact ih
theorem Zje (n:Nat) (hn:1000000≤n) (a:Msg) (ha:DJ a):∃ c,EU n a=some c:=by
 obtain ⟨c,e⟩:=ZbP n (by omega) a.stamp (by have:=ha.1;omega)
 rw [EU,e,Ae]
 split
 ·exact ⟨_,rfl⟩
 split
 ·exact ⟨_,rfl⟩
 split
 ·exact ⟨_,rfl⟩
 split
 ·exact ⟨_,rfl⟩
 have b:=ha.2.1
 exact Zt n hn a ha a.origins.length n 0 (by omega) (by omega)
def V8 (i0:Nat) (v0:Int) (P:Prop) (o:Option (Int × Chk)):Prop:=∃ c k,o=some (c,k)∧k.items.length≤i0+4∧v0≤k.values∧k.values≤v0+4∧(c=0→P)
theorem U9 (n:Nat) (hn:1000000≤n) (x:Slt) (hx:HA x) (i0:Nat) (v0:Int) (P:Prop) (hP:P) (b:List Msg) (hb:b.length≤i0+4) (hv0:0≤v0∧v0≤1000):∀ (k m i:Nat) (v:Int),i+k=x.values.length→k<m→v=v0+i→V8 i0 v0 P (A1 n x m (i:Int) b v)
 | k,0,i,_,_,h,_=>absurd h (Nat.not_lt_zero _)
 | 0,m+1,i,v,hi,_,hv=>by
  have g:=hx.2.2.1
  rw [A1,AX,Ac,Ai (by decide),B7]
  exact ⟨_,_,rfl,hb,by simp only;omega,by simp only;omega,fun _=>hP⟩
 | k+1,m+1,i,v,hi,hm,hv=>by
  have g:=hx.2.2.1
  have a:i<x.values.length:=by omega
  obtain ⟨j,f⟩:=hx.2.2.2 _ (List.getElem_mem a)
  have c:∀ e:Int,(e=0→P)→V8 i0 v0 P (some (e,Chk.mk b v)):=fun e d=>⟨_,_,rfl,hb,by simp only;omega,by simp only;omega,d⟩
  rw [A1,AX,Ag a,Ah rfl,AH a,Ae]
  split
  ·exact c 9 (fun h=>absurd h (by decide))
  rw [OI n _ (by omega) (by omega) f,Ae]
  split
  ·exact c _ (fun _=>hP)
  rw [Ah (by unfold Ba;omega),Ah (AG (by omega))]
  exact U9 n hn x hx i0 v0 P hP b hb hv0 k m (i+1) _ (by omega) (by omega) (by omega)
theorem Wl (n:Nat) (hn:1000000≤n) (a:Chk) (x:Slt) (hx:HA x) (P:Prop) (hP:P) (ha:a.items.length≤500) (hv0:0≤a.values∧a.values≤1000) (hms:∀ m∈a.items,DJ m):∀ (k m i:Nat) (b:List Msg),i+k=x.items.length→k<m→b.length≤a.items.length+i→(∀ m∈b,DJ m)→V8 a.items.length a.values P (A2 n a x m (i:Int) b)
 | k,0,i,_,_,h,_,_=>absurd h (Nat.not_lt_zero _)
 | 0,m+1,i,b,hi,_,hb,hbm=>by
  have o:=hx.2.1.1
  have q:=hx.2.2.1
  rw [A2,AX,Ac,Ai (by decide),Ci]
  exact U9 n hn x hx _ _ P hP b (by omega) hv0 x.values.length n 0 _ (by omega) (by omega) (by omega)
 | k+1,m+1,i,b,hi,hm,hb,hbm=>by
  have o:=hx.2.1.1
  have f:i<x.items.length:=by omega
  have j:=hx.2.1.2 _ (List.getElem_mem f)
  have g:∀ e:Int,V8 a.items.length a.values P (some (e,Chk.mk b a.values)):=fun e=>⟨_,_,rfl,by simp only;omega,by simp only;omega,by simp only;omega,fun _=>hP⟩
  rw [A2,AX,Ag f,Ah rfl,AH f,Ae]
  split
  ·exact g _
  obtain ⟨c,e⟩:=Zje n hn _ j
  rw [e,Ae]
  split
  ·exact g _
  obtain ⟨d,l⟩:=Zgu n b (fun (x0:Msg)=>BL n x0 x.items[i]) (fun y p=>by
   rw [BL,Zm n (by omega) y.stamp _ (by have:=(hbm y p).1;omega)];exact ⟨_,rfl⟩) (by omega) (by omega)
  rw [l,Ae]
  split
  ·exact g _
  rw [Ab,Ah (AG (by omega))]
  exact Wl n hn a x hx P hP ha hv0 hms k m (i+1) _ (by omega) (by omega) (by rw [Dz];omega) (Ee hbm j)
theorem Of {a b:Int} (h:Bo a b=0):Oo a∧0≤b∧b≤17592186044416:=by
 rw [Bo] at h
 split at h
 ·cases h
 ·rename_i q
  simp only [Bool.or_eq_true,decide_eq_true_eq,not_or,Int.not_lt] at q
  unfold Oo
  omega
def Xm (x:Slt):Prop:=Oo x.number∧(0≤x.time∧x.time≤17592186044416)∧(x.key.kind=2→Oo x.key.int)
theorem Zf4 (n:Nat) (hn:1000000≤n) (a:Chk) (x:Slt) (hx:HA x) (ha:a.items.length≤500) (hv0:0≤a.values∧a.values≤1000) (hms:∀ m∈a.items,DJ m) (hk:x.key.kind=2→Oo x.key.int) :
  V8 a.items.length a.values (Xm x) (BC n a x):=by
 rw [BC]
 by_cases h:Bo x.number x.time=0
 ·rw [Ag h,Ai (by decide)]
  obtain ⟨b,c⟩:=Of h
  have d:=hx.2.1.1
  exact Wl n hn a x hx _ ⟨b,c,hk⟩ ha hv0 hms x.items.length n 0 _ (by omega) (by omega) (by omega) hms
 ·rw [Af h,Ah (by decide)]
  exact ⟨_,_,rfl,by omega,by omega,by omega,fun q=>absurd q h⟩
theorem Zgp {v:Vl} (h:ZaI v=0) (k:v.kind=2):Oo v.int:=by
 have g:=W8 _ _ h (1,v) (by rw [P3];exact List.mem_cons_self ..)
 simp only at g
 obtain ⟨g1,g2⟩:=ZG g
 rw [Fb] at g
 have a:¬ B9 v=true:=by
  intro q
  rw [B9] at q
  simp only [Bool.and_eq_true,decide_eq_true_eq] at q
  omega
 rw [Ai a,Ai g1,Ai g2,Aa,Ah k] at g
 split at g
 ·cases g
 ·rename_i q
  rw [not_or] at q
  have q:=q.1
  rw [BK] at q
  simp only [Bool.or_eq_true,decide_eq_true_eq,not_or,Int.not_lt] at q
  exact q
theorem Vp {n:Nat} {a:Chk} {x:Slt} {c:Int} {k:Chk} (hx:HA x) (hms:∀ m∈a.items,DJ m) (h:BC n a x=some (c,k)):∀ m∈k.items,DJ m:=by
 have e:∀ (m:Nat) (i:Int) (b:List Msg) (v:Int),(∀ m∈b,DJ m)→A1 n x m i b v=some (c,k)→∀ m∈k.items,DJ m:=by
  intro m
  induction m with
  | zero=>intro i b v hb h;cases h
  | succ m ih =>
   intro i b v hb h
   rw [A1] at h
   split at h
   ·obtain ⟨y,_,h⟩:=bind_some h
    split at h
    ·cases h;exact hb
    obtain ⟨z,_,h⟩:=bind_some h
    split at h
    ·cases h;exact hb
    obtain ⟨_,h⟩:=An h
    obtain ⟨_,h⟩:=An h
    exact ih _ _ _ hb h
   ·rw [B7] at h;cases h;exact hb
 have d:∀ (m:Nat) (i:Int) (b:List Msg),(∀ m∈b,DJ m)→A2 n a x m i b=some (c,k)→∀ m∈k.items,DJ m:=by
  intro m
  induction m with
  | zero=>intro i b hb h;cases h
  | succ m ih =>
   intro i b hb h
   rw [A2] at h
   split at h
   ·obtain ⟨y,g,h⟩:=bind_some h
    split at h
    ·cases h;exact hb
    obtain ⟨z,_,h⟩:=bind_some h
    split at h
    ·cases h;exact hb
    obtain ⟨z,_,h⟩:=bind_some h
    split at h
    ·cases h;exact hb
    obtain ⟨_,h⟩:=An h
    obtain ⟨_,h⟩:=An h
    obtain ⟨_,_,f⟩:=Fq g
    exact ih _ _ (Ee hb (hx.2.1.2 _ (List.mem_of_getElem? f))) h
   ·rw [Ci] at h
    exact e _ _ _ _ hb h
 rw [BC] at h
 split at h
 ·cases h;exact hms
 ·exact d _ _ _ hms h
theorem ZfM (n:Nat) (hn:1000000≤n) (ag:Int→List Msg→Int→Option Int) (x:Slt) (hx:HA x) (i:Nat) (hi:i≤5) (P:Prop) (b:List Msg) (v:Int) (hb:b.length≤4*i) (hbm:∀ m∈b,DJ m) (hv:0≤v∧v≤4*i) (hk:x.key.kind=2→Oo x.key.int)
  (hag:Xm x→∀ b v,b.length≤4*(i+1)→(∀ m∈b,DJ m)→0≤v∧v≤4*((i:Int)+1)→∃ c,ag ((i:Int)+1) b v=some c∧(c=0→P)):∃ c,DL n ag (i:Int) v x b=some c∧(c=0→P):=by
 obtain ⟨c,k,e,d,f,g,a⟩:=Zf4 n hn (Chk.mk b v) x hx (by simp only;omega) (by simp only;omega) hbm hk
 rw [DL,e,Ae]
 simp only at d f g a ⊢
 by_cases q:c=0
 ·rw [Ag q,Ai (by decide),Ah (AG (by omega))]
  exact hag (a q) _ _ (by omega) (Vp hx hbm e) (by omega)
 ·rw [Af q,Ah (by decide)]
  exact ⟨_,rfl,fun z=>absurd z q⟩
theorem YT (n:Nat) (hn:1000000≤n) (a:Stt) (ha:GK a):∀ (k m i:Nat) (b:List Msg) (v:Int),i+k=a.slots.length→k<m→b.length≤4*i→(∀ m∈b,DJ m)→0≤v∧v≤4*(i:Int)→∃ c,BG n a m (i:Int) b v=some c∧(c=0→∀ x∈a.slots.drop i,Xm x)
 | k,0,i,_,_,_,h,_,_,_=>absurd h (Nat.not_lt_zero _)
 | 0,m+1,i,b,v,hi,_,_,_,_=>by
  rw [BG,AX,Ac,Ai (by decide),Gu]
  exact ⟨_,rfl,fun _=>by rw [List.drop_eq_nil_of_le (by omega)];simp⟩
 | k+1,m+1,i,b,v,hi,hm,l,f,hv=>by
  have o:=ha.1
  have d:i<a.slots.length:=by omega
  have hx:=ha.2 _ (List.getElem_mem d)
  rw [BG,AX,Ag d,Ah rfl,AH d,Ae,OI n _ (by have:=hx.1.1;omega) (by have:=hx.1.1;omega) hx.1.2,Ae]
  by_cases q:(!(decide (ZaI a.slots[i].key=0)) && !(B9 a.slots[i].key))=true
  ·rw [Ah q]
   refine ⟨_,rfl,fun z=>?_⟩
   rw [Ag z] at q
   simp at q
  rw [Ai q]
  have g:a.slots[i].key.kind=2→Oo a.slots[i].key.int:=by
   intro g
   refine Zgp ?_ g
   simp only [Bool.and_eq_true,Bool.not_eq_true',decide_eq_false_iff_not,not_and,Bool.not_eq_false] at q
   by_cases z:ZaI a.slots[i].key=0
   ·exact z
   ·have q:=q z
    rw [B9] at q
    simp only [Bool.and_eq_true,decide_eq_true_eq] at q
    omega
  have fin:=ZfM n hn (BG n a m) a.slots[i] hx i (by omega) (∀ x∈a.slots.drop i,Xm x) b v l f hv g (fun hs b v l f hv=>by
   obtain ⟨c,e,h⟩:=YT n hn a ha k m (i+1) b v (by omega) (by omega) l f (by omega)
   refine ⟨c,e,fun z x hx=>?_⟩
   rw [List.drop_eq_getElem_cons d] at hx
   rcases List.mem_cons.1 hx with rfl | hx
   ·exact hs
   ·exact h z x hx)
  cases i with
  | zero=>rw [show decide ((0:Int)<((0:Nat):Int))=false from rfl,Ai (by decide)];exact fin
  | succ j =>
   rw [NK,Ah rfl,LG,Ah (Oh (by omega)),AH (by omega),Ae]
   obtain ⟨c,e,_⟩:=Ji n a.slots[j+1].key a.slots[j].key (by have:=hx.1.1;omega) (by have:=hx.1.1;omega)
   rw [e,Ae]
   split
   ·exact ⟨_,rfl,fun z=>absurd z (by decide)⟩
   split
   ·exact ⟨_,rfl,fun z=>absurd z (by decide)⟩
   exact fin
theorem ZcE (n:Nat) (hn:1000000≤n) (a:Stt) (ha:GK a):∃ c,EY n a=some c∧(c=0→Oo a.number∧∀ x∈a.slots,Xm x):=by
 have i:=ha.1
 rw [EY]
 by_cases h:Bo a.number a.time=0
 ·rw [Ag h,Ai (by decide)]
  obtain ⟨b,g⟩:=Of h
  rw [Ac,Ai (by decide)]
  obtain ⟨c,e,d⟩:=YT n hn a ha a.slots.length n 0 [] 0 (by omega) (by omega) (by simp) (by simp) (by omega)
  exact ⟨c,e,fun z=>⟨b,fun x f=>d z x (by simpa using f)⟩⟩
 ·rw [Af h,Ah (by decide)]
  exact ⟨_,rfl,fun z=>absurd z h⟩
end Go.Proofs.YtcdnijfbfdnjlaaGreatDoor
