/-
  Part 4 of the proof: rules and walks that the claim's last text uses.
-/
import Derived.Carry
import Derived.ChangeOld
import Derived.ChangeSlices
import Derived.Deep.DeepHandedRow
import Derived.Deep.DeepWitnessRowRef
import Derived.Lib.LaidIn
import Derived.Lib.LaidU8T
import Derived.PinnedBridge
import Derived.ProofKit
import Derived.SevenTiedAt
import Derived.SizedLaws
import Derived.Test.YtmcnjijeocmkgaaGreatDoorCards
import Derived.Test.YtmcnjijeocmkgaaGreatDoorTie
import Derived.Test.YtmcnjijeocmkgaaGreatDoorLc3
set_option linter.unusedSimpArgs false
set_option linter.unusedVariables false
set_option maxRecDepth 100000
set_option maxHeartbeats 4000000
namespace Go.Proofs.YtmcnjijeocmkgaaGreatDoor
open Go Go.RowKit Go.Ev
def MM (rec:Vl→Option Vl) (n:Nat) (b:Vl) (b2_k22_4:List Vl) (b2_k22_5:List (ByteArray × Vl)):Option Vl :=
 some (Vl.mk b.kind b.int b.scale b.text b2_k22_4 b2_k22_5)
def Hw (rec:Vl→Option Vl) (n:Nat) (h:Vl):Nat→Int→(List Vl)→(List (ByteArray × Vl))→Option Vl
 | 0,_,_,_=>none
 | m+1,b,b2_l25_4,b2_l25_5 =>
  if decide (b<(h.fields.length:Int)) then
   (B6 h.fields b).bind fun g =>
   (rec g.2).bind fun q =>
   if (b2_l25_5.length+1)*104≤140737488355328∧b2_l25_5.length+1≤4611686018427387904 then
    if Bj (b+1) then
     (Hw rec n h m) (b+1) b2_l25_4 (b2_l25_5++([(g.1,q)]))
    else none
   else none
  else
   MM rec n h b2_l25_4 b2_l25_5
def NY (rec:Vl→Option Vl) (n:Nat) (b:Vl) (b2_k5_4:List Vl):Option Vl :=
 Hw rec n b n 0 b2_k5_4 ([])
def IL (rec:Vl→Option Vl) (n:Nat) (g:Vl):Nat→Int→(List Vl)→Option Vl
 | 0,_,_=>none
 | m+1,b,b2_l8_4 =>
  if decide (b<(g.list.length:Int)) then
   (B6 g.list b).bind fun q =>
   (rec q).bind fun h =>
   if (b2_l8_4.length+1)*88≤140737488355328∧b2_l8_4.length+1≤4611686018427387904 then
    if Bj (b+1) then
     (IL rec n g m) (b+1) (b2_l8_4++([h]))
    else none
   else none
  else
   NY rec n g b2_l8_4
def PQ (rec:Vl→Option Vl) (n:Nat) (b:Vl):Option Vl :=
 IL rec n b n 0 ([])
def D4:Nat→Vl→Option Vl
 | 0,_=>none
 | n+1,b=>PQ (D4 n) n b
def S8 (w0:World) (F:Vl→Option Vl):Prop:=∀ (B:As) (Rw:Ax) (L:Aw) (b:Vl) (r:Vl),F b=some r→ACalls Tryz.prog w0 56 [.agg (b.cs)] ⟨B,Rw,L⟩ fun x st=>x = .agg (r.cs)∧st=⟨B,Rw,L⟩
theorem Yo (w0:World) (rec:Vl→Option Vl) (ih:S8 w0 rec) (n:Nat):S8 w0 (PQ rec n):=by
 intro B Rw L a0 r h
 rw [PQ] at h
 refine hd [.cell 2 34] Tryz.func56 Tryz.ntmps56 fun M0 W0 z x y u J w hs=>?_
 simp only [AB]
 refine rg [1,2] hs ?_
 refine rg [1,2,3] hs ?_
 have hs:=Ae (Vl.cs_eqs a0) hs
 refine rg [1,2,3] hs ?_
 refine AA (fun e st=>∃ (g:List Vl) (i:Ev.Own),Ck e st B Rw L [(1,true,.box B.length 0),(2,true,.box (B.length+1) 0),(3,true,.box (B.length+2) 0)] [a0.cs,MD,[Am a0.kind,Am a0.int,Am a0.scale,.val (.string a0.text),.list (g.map BZ) i,.list ([]) .full]] [(6,g.length,i)] (NY rec n a0 g=some r)) ?_ ?_
 ·intro K6 F
  refine rg [1,2,3,12,13,14] hs ?_
  apply Au
  refine AC (fun m e st=>∃ (v:Int) (p:List Vl) (q:Ev.Own),Ck e st B Rw L [(1,true,.box B.length 0),(2,true,.box (B.length+1) 0),(3,true,.box (B.length+2) 0),(12,true,.list (a0.list.map BZ) .none),(13,true,Am (a0.list.length:Int)),(14,true,Am v)] [a0.cs,MD,[Am a0.kind,Am a0.int,Am a0.scale,.val (.string a0.text),.list (p.map BZ) q,.list ([]) .full]] [(6,p.length,q)] (IL rec n a0 m v p=some r)) n ⟨0,([]),.full,([]),Rw,ef hs,ef hs,Owns.of_eq ((w).full 6 0) E0,h⟩ ?_
  rintro ml8 e st ⟨v,p,q,Xl8,Rl8,rfl,rfl,w,h⟩ Ul8 Vl8
  cases ml8 with
  | zero=>cases h
  | succ ml8 =>
  rw [IL] at h
  exact go (tg (a:=([1,2,3,12,13,14,15],([1,2,3,12,13,14],[1,2,3,5,12,13,14],[5,1,2,3,12,13,14],[1,2,3,12,13,14],()),[1,2,3],()))) h hs z x y u w (q2 (ae M4 Ij) ih) (q2 F (fun e s=>Vl8 ml8 e s (Nat.lt_succ_self _)))
 ·clear h;rintro e st ⟨g,i,Xk5,Rk5,rfl,rfl,w,h⟩
  rw [NY] at h
  have E:=w.unders
  simp only [List.mem_cons,List.not_mem_nil,or_false,forall_eq_or_imp,forall_eq] at E
  refine td z x y u w ?_
  refine AA (fun e st=>∃ (k:List Vl) (j:List (ByteArray × Vl)) (l:Ev.Own) (o:Ev.Own),Ck e st B Rw L [(2,true,.box (B.length+1) 0),(3,true,.box (B.length+2) 0)] [a0.cs,MD,[Am a0.kind,Am a0.int,Am a0.scale,.val (.string a0.text),.list (k.map BZ) l,.list (j.map Qc) o]] [(6,k.length,l),(7,j.length,o)] (MM rec n a0 k j=some r)) ?_ ?_
  ·intro K23 D
   refine rg [2,3,27,28,29] hs ?_
   apply Au
   refine AC (fun m e st=>∃ (t:Int) (c:List Vl) (b:List (ByteArray × Vl)) (d:Ev.Own) (f:Ev.Own),Ck e st B Rw L [(2,true,.box (B.length+1) 0),(3,true,.box (B.length+2) 0),(27,true,.list (a0.fields.map Qc) .none),(28,true,Am (a0.fields.length:Int)),(29,true,Am t)] [a0.cs,MD,[Am a0.kind,Am a0.int,Am a0.scale,.val (.string a0.text),.list (c.map BZ) d,.list (b.map Qc) f]] [(6,c.length,d),(7,b.length,f)] (Hw rec n a0 m t c b=some r)) n ⟨0,g,([]),i,.full,([]),Rk5,ef hs,ef hs,Owns.of_eq (((w).full 7 0).swap (List.Perm.swap _ _ _)) E0,h⟩ ?_
   rintro ml25 e st ⟨t,c,b,d,f,Xl25,Rl25,rfl,rfl,w,h⟩ Ul25 Vl25
   cases ml25 with
   | zero=>cases h
   | succ ml25 =>
   rw [Hw] at h
   have E:=w.unders
   simp only [List.mem_cons,List.not_mem_nil,or_false,forall_eq_or_imp,forall_eq] at E
   obtain ⟨H,G⟩:=E
   refine td z x y u w ?_
   refine rg [2,3,27,28,29,30] hs ?_
   apply Ap;intro K27 C
   refine Cj h hs ?_ ?_<;>intro hs h
   rotate_left
   ·refine sx [2,3] hs D ?_
    exact ⟨c,b,d,f,([]),Rl25,ef hs,ef hs,Owns.of_eq (((w).swap (List.Perm.swap _ _ _)).swap (List.Perm.swap _ _ _)) E0,h⟩
   exact go (tg (a:=([2,3,27,28,29],[2,3,7,27,28,29],[9,2,3,27,28,29],[2,3,27,28,29],()))) h hs z x y u w (q2 (ae Zfi Y5) ih) (q2 C (fun e s=>Vl25 ml25 e s (Nat.lt_succ_self _)))
  ·clear h;rintro e st ⟨k,j,l,o,Xk22,Rk22,rfl,rfl,w,h⟩
   rw [MM] at h
   exact go (tg (a:=([2],()))) h hs z x y u w trivial trivial
theorem JJ (w0:World):∀ n:Nat,S8 w0 (D4 n)
 | 0=>fun _ _ _ _ _ h=>(nomatch h)
 | n+1=>Yo w0 (D4 n) (JJ w0 n) n
def Iu (rec:Ty→Option Ty) (n:Nat) (g:Int × ByteArray × Int × Ty × List Vl) (h:Ty) (b:List Vl):Option ((Int × ByteArray × Int × Ty × List Vl)) :=
 some ((g.1,g.2.1,g.2.2.1,h,b))
def DG (rec:Ty→Option Ty) (n:Nat) (h:Int × ByteArray × Int × Ty × List Vl) (z:Ty):Nat→(List Vl)→Int→Option ((Int × ByteArray × Int × Ty × List Vl))
 | 0,_,_=>none
 | m+1,g,b =>
  if decide (b<(h.2.2.2.2.length:Int)) then
   (B6 h.2.2.2.2 b).bind fun q =>
   (D4 n q).bind fun y =>
   if (g.length+1)*88≤140737488355328∧g.length+1≤4611686018427387904 then
    if Bj (b+1) then
     (DG rec n h z m) (g++([y])) (b+1)
    else none
   else none
  else
   Iu rec n h z g
def DY (rec:Ty→Option Ty) (n:Nat) (b:Int × ByteArray × Int × Ty × List Vl):Option ((Int × ByteArray × Int × Ty × List Vl)) :=
 (rec b.2.2.2.1).bind fun g =>
 if 0≤(b.2.2.2.2.length:Int)∧(b.2.2.2.2.length:Int)*88≤140737488355328∧(b.2.2.2.2.length:Int)≤4611686018427387904 then
  DG rec n b g n ([]) 0
 else none
theorem Ou (w0:World) (rec:Ty→Option Ty) (ih:∀ (B:As) (Rw:Ax) (L:Aw) (a0:Ty) (r:Ty) (h:rec a0=some r),ACalls Tryz.prog w0 321 [.agg (a0.cs)] ⟨B,Rw,L⟩ fun x st=>x = .agg (r.cs)∧st=⟨B,Rw,L⟩) (n:Nat) (B:As) (Rw:Ax) (L:Aw) (a0:Int × ByteArray × Int × Ty × List Vl) (r:(Int × ByteArray × Int × Ty × List Vl)) (h:DY rec n a0=some r) :
  ACalls Tryz.prog w0 278 [.agg (Am a0.1::(.val (.string a0.2.1)::(Am a0.2.2.1::((a0.2.2.2.1.cs)++([.list (a0.2.2.2.2.map BZ) .none])))))] ⟨B,Rw,L⟩ fun x st=>x = .agg (Am r.1::(.val (.string r.2.1)::(Am r.2.2.1::((r.2.2.2.1.cs)++([.list (r.2.2.2.2.map BZ) .none])))))∧st=⟨B,Rw,L⟩:=by
 rw [DY] at h
 refine hd [.cell 2 95] Tryz.func278 Tryz.ntmps278 fun M0 W0 u p l j w k hs=>?_
 simp only [AB]
 refine rg [1,2] hs ?_
 obtain ⟨i,q,h⟩:=bind_some h
 have hs:=Ae (Ty.cs_eqs a0.2.2.2.1) hs
 have hs:=Ae (Ty.cs_eqs i) hs
 refine rc 2 [1,2] hs ?_;intro K2 o
 refine Az _ (ih _ _ _ a0.2.2.2.1 _ q) (hv hs) ?_
 refine ne hs o ?_
 clear o
 obtain ⟨v,h⟩:=Av h
 have k:=k.make 6 0
 refine rg [1,2,3] hs ?_
 refine AA (fun e st=>∃ (f:List Vl) (g:Ev.Own),Ck e st B Rw L [(1,true,.box B.length 0),(2,true,.box (B.length+1) 0),(3,true,.list (f.map BZ) g)] [[Am a0.1,.val (.string a0.2.1),Am a0.2.2.1,Am i.kind,Am i.min,Am i.max,Am i.scale,.list (i.words.map Eo) .none,.list (i.elem.map KF) .none,.list (i.fields.map CW) .none,.list (a0.2.2.2.2.map BZ) .none],[Am 0,.val (.string (⟨#[]⟩:ByteArray)),Am 0,Am 0,Am 0,Am 0,Am 0,.list ([]) .full,.list ([]) .full,.list ([]) .full,.list ([]) .full]] [(6,f.length,g)] (Iu rec n a0 i f=some r)) ?_ ?_
 ·intro K9 t
  refine rg [1,2,3,15,16,17] hs ?_
  apply Au
  refine AC (fun m e st=>∃ (b:List Vl) (d:Int) (c:Ev.Own),Ck e st B Rw L [(1,true,.box B.length 0),(2,true,.box (B.length+1) 0),(3,true,.list (b.map BZ) c),(15,true,.list (a0.2.2.2.2.map BZ) .none),(16,true,Am (a0.2.2.2.2.length:Int)),(17,true,Am d)] [[Am a0.1,.val (.string a0.2.1),Am a0.2.2.1,Am i.kind,Am i.min,Am i.max,Am i.scale,.list (i.words.map Eo) .none,.list (i.elem.map KF) .none,.list (i.fields.map CW) .none,.list (a0.2.2.2.2.map BZ) .none],[Am 0,.val (.string (⟨#[]⟩:ByteArray)),Am 0,Am 0,Am 0,Am 0,Am 0,.list ([]) .full,.list ([]) .full,.list ([]) .full,.list ([]) .full]] [(6,b.length,c)] (DG rec n a0 i m b d=some r)) n ⟨([]),0,((.row Rw.length)),([]),((Rw++[.grow 0 6])),ef hs,ef hs,Owns.of_eq (k) E0,h⟩ ?_
  rintro ml11 e st ⟨b,d,c,Xl11,Rl11,rfl,rfl,k,h⟩ Ul11 Vl11
  cases ml11 with
  | zero=>cases h
  | succ ml11 =>
  rw [DG] at h
  exact go (tg (a:=([1,2,3,15,16,17,18],([1,2,3,15,16,17],[1,2,3,5,15,16,17],[1,2,3,15,16,17],[1,2,3,15,16,17],()),[1,2,3],()))) h hs u p l j k (q2 (ae M4 Ij) (JJ w0 n)) (q2 t (fun e s=>Vl11 ml11 e s (Nat.lt_succ_self _)))
 ·clear h;rintro e st ⟨f,g,Xk8,Rk8,rfl,rfl,k,h⟩
  rw [Iu] at h
  exact go (tg (a:=([1,2],[2],()))) h hs u p l j k trivial trivial
def MP (rec:Ty→Option Ty) (n:Nat) (h:Ty) (g:List Ty) (b:List (Int × ByteArray × Int × Ty × List Vl)):Option Ty :=
 if h.words.length*16≤140737488355328 then
  some (Ty.mk h.kind h.min h.max h.scale h.words g b)
 else none
def HJ (rec:Ty→Option Ty) (n:Nat) (q:Ty):Nat→(List Ty)→(List (Int × ByteArray × Int × Ty × List Vl))→Int→Option Ty
 | 0,_,_,_=>none
 | m+1,h,g,b =>
  if decide (b<(q.fields.length:Int)) then
   (B6 q.fields b).bind fun z =>
   (DY rec n z).bind fun y =>
   if (g.length+1)*160≤140737488355328∧g.length+1≤4611686018427387904 then
    if Bj (b+1) then
     (HJ rec n q m) h (g++([y])) (b+1)
    else none
   else none
  else
   MP rec n q h g
def N4 (rec:Ty→Option Ty) (n:Nat) (g:Ty) (b:List Ty):Option Ty :=
 if 0≤(g.fields.length:Int)∧(g.fields.length:Int)*160≤140737488355328∧(g.fields.length:Int)≤4611686018427387904 then
  HJ rec n g n b ([]) 0
 else none
def IE (rec:Ty→Option Ty) (n:Nat) (h:Ty):Nat→(List Ty)→Int→Option Ty
 | 0,_,_=>none
 | m+1,g,b =>
  if decide (b<(h.elem.length:Int)) then
   (B6 h.elem b).bind fun q =>
   (rec q).bind fun y =>
   if (g.length+1)*104≤140737488355328∧g.length+1≤4611686018427387904 then
    if Bj (b+1) then
     (IE rec n h m) (g++([y])) (b+1)
    else none
   else none
  else
   N4 rec n h g
def PV (rec:Ty→Option Ty) (n:Nat) (b:Ty):Option Ty :=
 if 0≤(b.elem.length:Int)∧(b.elem.length:Int)*104≤140737488355328∧(b.elem.length:Int)≤4611686018427387904 then
  IE rec n b n ([]) 0
 else none
def H4:Nat→Ty→Option Ty
 | 0,_=>none
 | n+1,b=>PV (H4 n) n b
def S1 (w0:World) (F:Ty→Option Ty):Prop:=∀ (B:As) (Rw:Ax) (L:Aw) (b:Ty) (r:Ty),F b=some r→ACalls Tryz.prog w0 321 [.agg (b.cs)] ⟨B,Rw,L⟩ fun x st=>x = .agg (r.cs)∧st=⟨B,Rw,L⟩
theorem Yj (w0:World) (rec:Ty→Option Ty) (ih:S1 w0 rec) (n:Nat):S1 w0 (PV rec n):=by
 intro B Rw L a0 r h
 rw [PV] at h
 refine hd [.cell 2 26] Tryz.func321 Tryz.ntmps321 fun M0 W0 z x y l N w hs=>?_
 simp only [AB]
 refine rg [1,2] hs ?_
 obtain ⟨J,h⟩:=Av h
 have w:=w.make 7 0
 refine rg [1,2,3] hs ?_
 refine AA (fun e st=>∃ (p:List Ty) (i:Ev.Own),Ck e st B Rw L [(1,true,.box B.length 0),(2,true,.box (B.length+1) 0),(3,true,.list (p.map KF) i)] [a0.cs,[Am 0,Am 0,Am 0,Am 0,.list ([]) .full,.list ([]) .full,.list ([]) .full]] [(7,p.length,i)] (N4 rec n a0 p=some r)) ?_ ?_
 ·intro K7 F
  refine rg [1,2,3,14,15,16] hs ?_
  apply Au
  refine AC (fun m e st=>∃ (t:List Ty) (u:Int) (v:Ev.Own),Ck e st B Rw L [(1,true,.box B.length 0),(2,true,.box (B.length+1) 0),(3,true,.list (t.map KF) v),(14,true,.list (a0.elem.map KF) .none),(15,true,Am (a0.elem.length:Int)),(16,true,Am u)] [a0.cs,[Am 0,Am 0,Am 0,Am 0,.list ([]) .full,.list ([]) .full,.list ([]) .full]] [(7,t.length,v)] (IE rec n a0 m t u=some r)) n ⟨([]),0,((.row Rw.length)),([]),((Rw++[.grow 0 7])),ef hs,ef hs,Owns.of_eq (w) E0,h⟩ ?_
  rintro ml9 e st ⟨t,u,v,Xl9,Rl9,rfl,rfl,w,h⟩ Ul9 Vl9
  cases ml9 with
  | zero=>cases h
  | succ ml9 =>
  rw [IE] at h
  exact go (tg (a:=([1,2,3,14,15,16,17],([1,2,3,14,15,16],[1,2,3,5,14,15,16],[1,2,3,14,15,16],[1,2,3,14,15,16],()),[1,2,3],()))) h hs z x y l w (q2 (ae ZaF VG) ih) (q2 F (fun e s=>Vl9 ml9 e s (Nat.lt_succ_self _)))
 ·clear h;rintro e st ⟨p,i,Xk6,Rk6,rfl,rfl,w,h⟩
  rw [N4] at h
  have E:=w.unders
  simp only [List.mem_cons,List.not_mem_nil,or_false,forall_eq_or_imp,forall_eq] at E
  refine td z x y l w ?_
  obtain ⟨G,h⟩:=Av h
  have w:=w.make 11 0
  refine rg [1,2,3,6] hs ?_
  refine AA (fun e st=>∃ (j:List Ty) (g:List (Int × ByteArray × Int × Ty × List Vl)) (k:Ev.Own) (q:Ev.Own),Ck e st B Rw L [(1,true,.box B.length 0),(2,true,.box (B.length+1) 0),(3,true,.list (j.map KF) k),(6,true,.list (g.map CW) q)] [a0.cs,[Am 0,Am 0,Am 0,Am 0,.list ([]) .full,.list ([]) .full,.list ([]) .full]] [(7,j.length,k),(11,g.length,q)] (MP rec n a0 j g=some r)) ?_ ?_
  ·intro K27 C
   refine rg [1,2,3,6,31,32,33] hs ?_
   apply Au
   refine AC (fun m e st=>∃ (d:List Ty) (b:List (Int × ByteArray × Int × Ty × List Vl)) (o:Int) (f:Ev.Own) (c:Ev.Own),Ck e st B Rw L [(1,true,.box B.length 0),(2,true,.box (B.length+1) 0),(3,true,.list (d.map KF) f),(6,true,.list (b.map CW) c),(31,true,.list (a0.fields.map CW) .none),(32,true,Am (a0.fields.length:Int)),(33,true,Am o)] [a0.cs,[Am 0,Am 0,Am 0,Am 0,.list ([]) .full,.list ([]) .full,.list ([]) .full]] [(7,d.length,f),(11,b.length,c)] (HJ rec n a0 m d b o=some r)) n ⟨p,([]),0,i,((.row Rk6.length)),([]),((Rk6++[.grow 0 11])),ef hs,ef hs,Owns.of_eq ((w).swap (List.Perm.swap _ _ _)) E0,h⟩ ?_
   rintro ml29 e st ⟨d,b,o,f,c,Xl29,Rl29,rfl,rfl,w,h⟩ Ul29 Vl29
   cases ml29 with
   | zero=>cases h
   | succ ml29 =>
   rw [HJ] at h
   have E:=w.unders
   simp only [List.mem_cons,List.not_mem_nil,or_false,forall_eq_or_imp,forall_eq] at E
   obtain ⟨K,H⟩:=E
   refine td z x y l w ?_
   refine rg [1,2,3,6,31,32,33,34] hs ?_
   apply Ap;intro K31 D
   refine Cj h hs ?_ ?_<;>intro hs h
   rotate_left
   ·refine sx [1,2,3,6] hs C ?_
    exact ⟨d,b,f,c,([]),Rl29,ef hs,ef hs,Owns.of_eq (((w).swap (List.Perm.swap _ _ _)).swap (List.Perm.swap _ _ _)) E0,h⟩
   exact go (tg (a:=([1,2,3,6,31,32,33],[1,2,3,6,8,31,32,33],[1,2,3,6,31,32,33],[1,2,3,6,31,32,33],()))) h hs z x y l w (q2 (ae Vj O3) (Ou w0 rec ih n)) (q2 D (fun e s=>Vl29 ml29 e s (Nat.lt_succ_self _)))
  ·clear h;rintro e st ⟨j,g,k,q,Xk26,Rk26,rfl,rfl,w,h⟩
   rw [MP] at h
   exact go (tg (a:=([1,2],[2],()))) h (Ae (Ty.cs_eqs a0) hs) z x y l w (q1 (Qw w0)) trivial
theorem V1 (w0:World):∀ n:Nat,S1 w0 (H4 n)
 | 0=>fun _ _ _ _ _ h=>(nomatch h)
 | n+1=>Yj w0 (H4 n) (V1 w0 n) n
def E4 (n:Nat)  : Option Int :=
 some ((-1))
def A0 (n:Nat) (h:List (Int × ByteArray × Int × Ty × List Vl)) (y:(Int × ByteArray × Int × Ty × List Vl)→Option Bool):Nat→Int→Option Int
 | 0,_=>none
 | m+1,b =>
  if decide (b<(h.length:Int)) then
   (B6 h b).bind fun g =>
   (y g).bind fun q =>
   if q then
    some (b)
   else
    if Bj (b+1) then
     (A0 n h y m) (b+1)
    else none
  else
   E4 n 
def Bz (n:Nat) (b:List (Int × ByteArray × Int × Ty × List Vl)) (g:(Int × ByteArray × Int × Ty × List Vl)→Option Bool):Option Int :=
 A0 n b g n 0
theorem Ic (w0:World) (n:Nat) (B:As) (Rw:Ax) (L:Aw) (a0:List (Int × ByteArray × Int × Ty × List Vl)) (fa1:FuncId) (ca1:List AV) (a1:(Int × ByteArray × Int × Ty × List Vl)→Option Bool) (ha1:∀ (x0:Int × ByteArray × Int × Ty × List Vl) r,a1 x0=some r→∀ B' rows,B <+: B'→Rw <+: rows→ACalls Tryz.prog w0 fa1 ([.agg (Am x0.1::(.val (.string x0.2.1)::(Am x0.2.2.1::((x0.2.2.2.1.cs)++([.list (x0.2.2.2.2.map BZ) .none])))))]++ca1) ⟨B',rows,L⟩ fun v s=>v = .val (.bool r)∧s=⟨B',rows,L⟩) (r:Int) (h:Bz n a0 a1=some r) :
  ACalls Tryz.prog w0 191 [.list (a0.map CW) .none,.clo fa1 ca1] ⟨B,Rw,L⟩ fun x st=>x=Am r∧st=⟨B,Rw,L⟩:=by
 rw [Bz] at h
 refine hd [.tmp 4] Tryz.func191 Tryz.ntmps191 fun M0 W0 j i g b l f hs=>?_
 simp only [AB]
 have c:=BN (l (.clo fa1 ca1) (by simp))
 refine rg [0,1] hs ?_
 refine AA (fun e st=>Ck e st B Rw L [] [] [] (E4 n  = some r)) ?_ ?_
 ·intro K4 k
  refine rg [0,1,7,8] hs ?_
  apply Au
  refine AC (fun m e st=>∃ (d:Int),Ck e st B Rw L [(0,true,.list (a0.map CW) .none),(1,true,.clo fa1 ca1),(7,true,Am (a0.length:Int)),(8,true,Am d)] [] [] (A0 n a0 a1 m d=some r)) n ⟨0,([]),Rw,ef hs,ef hs,f,h⟩ ?_
  rintro ml6 e st ⟨d,Xl6,Rl6,rfl,rfl,f,h⟩ Ul6 Vl6
  cases ml6 with
  | zero=>cases h
  | succ ml6 =>
  rw [A0] at h
  refine A4 j i g rfl b f (Ln c f) (Ln c f) ?_
  exact go (tg (a:=([0,1,7,8,9],([0,1,7,8],[0,1,5,7,8],[0,1,5,7,8,16],([4],()),[0,1,7,8],[0,1,7,8],()),[],()))) h hs j i g b f (q1 ha1) (q2 k (fun e s=>Vl6 ml6 e s (Nat.lt_succ_self _)))
 ·clear h;rintro e st ⟨Xk3,Rk3,rfl,rfl,f,h⟩
  rw [E4] at h
  refine A4 j i g rfl b f (Ln c f) (Ln c f) ?_
  refine rg [4] hs ?_
  exact rt h hs b f
def Ku (n:Nat) (b:Ty) (y:(Int × ByteArray × Int × Ty × List Vl)→Option Bool):Option ((Int × ByteArray × Int × Ty × List Vl) × Bool) :=
 if (!(decide (b.kind=9)))&&(!(decide (b.kind=10))) then
  some (((0,(⟨#[]⟩:ByteArray),0,Ty.mk 0 0 0 0 ([]) ([]) ([]),[]),false))
 else
  (Bz n b.fields y).bind fun q =>
  if decide (q<0) then
   some (((0,(⟨#[]⟩:ByteArray),0,Ty.mk 0 0 0 0 ([]) ([]) ([]),[]),false))
  else
   (B6 b.fields q).bind fun g =>
   (DY (H4 n) n g).bind fun h =>
   some ((h,true))
theorem ZcT (w0:World) (n:Nat) (B:As) (Rw:Ax) (L:Aw) (a0:Ty) (fa1:FuncId) (ca1:List AV) (a1:(Int × ByteArray × Int × Ty × List Vl)→Option Bool) (ha1:∀ (x0:Int × ByteArray × Int × Ty × List Vl) r,a1 x0=some r→∀ B' rows,B <+: B'→Rw <+: rows→ACalls Tryz.prog w0 fa1 ([.agg (Am x0.1::(.val (.string x0.2.1)::(Am x0.2.2.1::((x0.2.2.2.1.cs)++([.list (x0.2.2.2.2.map BZ) .none])))))]++ca1) ⟨B',rows,L⟩ fun v s=>v = .val (.bool r)∧s=⟨B',rows,L⟩) (r:(Int × ByteArray × Int × Ty × List Vl) × Bool) (h:Ku n a0 a1=some r) :
  ACalls Tryz.prog w0 213 [.agg (a0.cs),.clo fa1 ca1] ⟨B,Rw,L⟩ fun x st=>x = .tup [.agg (Am r.1.1::(.val (.string r.1.2.1)::(Am r.1.2.2.1::((r.1.2.2.2.1.cs)++([.list (r.1.2.2.2.2.map BZ) .none]))))),.val (.bool r.2)]∧st=⟨B,Rw,L⟩:=by
 rw [Ku] at h
 refine hd [.cell 4 95,.tmp 5] Tryz.func213 Tryz.ntmps213 fun M0 W0 o l f b p i hs=>?_
 simp only [AB]
 have k:=BN (p (.clo fa1 ca1) (by simp))
 refine rg [1,2,4] hs ?_
 apply Ap;intro K2 d
 refine rg [1,2,4,14] hs ?_
 refine Cj h hs ?_ ?_<;>intro hs h
 ·refine rg [4,5] hs ?_
  exact rt h hs b i
 refine sk [1,2,4] hs d ?_
 clear d
 obtain ⟨q,g,h⟩:=bind_some h
 refine rc 2 [2,4,6] hs ?_;intro K6 e
 refine Az _ (Ic w0 n _ _ _ a0.fields fa1 ca1 a1 (fun x0 r m j c q1 q2=>ha1 x0 r m j c (List.IsPrefix.trans px q1) (i.pre.trans q2)) _ g) (hv hs) ?_
 exact go (tg (a:=([2,4,6,21],([4,5],()),[2,4,6],[4,5],()))) h hs o l f b i (q1 (Ou w0 (H4 n) (V1 w0 n) n)) (q1 e)
def JK (n:Nat) (h:Ty) (q:ByteArray):Option ((Int × ByteArray × Int × Ty × List Vl) × Bool) :=
 (Ku n h (fun (g:Int × ByteArray × Int × Ty × List Vl)=>some (J1 g q))).bind fun b =>
 some ((b.1,b.2))
theorem QZ (w0:World) (n:Nat) (B:As) (Rw:Ax) (L:Aw) (a0:Ty) (a1:ByteArray) (r:(Int × ByteArray × Int × Ty × List Vl) × Bool) (h:JK n a0 a1=some r) :
  ACalls Tryz.prog w0 144 [.agg (a0.cs),.val (.string a1)] ⟨B,Rw,L⟩ fun x st=>x = .tup [.agg (Am r.1.1::(.val (.string r.1.2.1)::(Am r.1.2.2.1::((r.1.2.2.2.1.cs)++([.list (r.1.2.2.2.2.map BZ) .none]))))),.val (.bool r.2)]∧st=⟨B,Rw,L⟩:=by
 rw [JK] at h
 refine hd [.cell 4 95,.tmp 5] Tryz.func144 Tryz.ntmps144 fun M0 W0 i f c a k d hs=>?_
 simp only [AB]
 refine rg [2,3,4] hs ?_
 obtain ⟨j,hy3,h⟩:=bind_some h
 refine rc 2 [4,5] hs ?_;intro K2 b
 refine Az _ (ZcT w0 n _ _ _ a0 214 [.box (B.length+1) 0] (fun (x0:Int × ByteArray × Int × Ty × List Vl)=>some (J1 x0 a1)) (fun x0 r hx g rows' hB' e=>by cases hx;exact V8 w0 _ _ _ x0 _ a1 (EV hB' ev)) _ hy3) (hv hs) ?_
 refine ne hs b ?_
 clear b
 exact rt h hs a d
end Go.Proofs.YtmcnjijeocmkgaaGreatDoor
namespace Go.Ev
open Go Go.RowKit
def Mem.start:Mem:=⟨0,0,fun _=>0,fun _=>0,fun _=>0,fun _=>0,fun _=>0,fun _=>0,0,fun _=>0⟩
theorem Zc7 (W:World):RelSt W Mem.start ⟨[],[],[]⟩ W where
 below := .refl _ _
 N:=rfl
 NR:=rfl
 top:=fun _ _=>rfl
 inj:=fun _ _ h=>absurd h (Nat.not_lt_zero _)
 box:=fun _ _ h=>by simp at h
 row:=fun _ _ h=>by simp at h
 rowinj:=fun _ _ h=>absurd h (Nat.not_lt_zero _)
 loop:=⟨rfl,fun _ _ h=>absurd h (Nat.not_lt_zero _),fun _ _ h=>by simp at h⟩
theorem TU {P:Program} {f:FuncId} {W:World} {vals:Array Value} {args:List AV} {r:Value} (h:ACalls P W f args ⟨[],[],[]⟩ fun v st=>v = .val r∧st=⟨[],[],[]⟩) (hr:RowR W Mem.start W vals args) :
  Calls P f vals W fun e w'=>e = .returned r∧Below W.heap.size W w' :=
 (h.2 Mem.start W vals (Zc7 W) hr).mono fun en w' ⟨v,M',a,st,h1,⟨h2,_⟩,_,h4,h5⟩=>by
  subst h2
  have:=h5.val_inv.1
  subst this
  exact ⟨h1,h4.below⟩
theorem Zbn {W:World} {v u t:Value} {x y z:AV} (h:R W Mem.start W v x) (k:R W Mem.start W u y) (l:R W Mem.start W t z):RowR W Mem.start W #[v,u,t] [x,y,z]:=⟨rfl,fun i b a=>by
 have:i=0∨i=1∨i=2:=by simp at a;omega
 rcases this with rfl | rfl | rfl
 ·exact h
 ·exact k
 ·exact l⟩
end Go.Ev
namespace Go.Proofs.YtmcnjijeocmkgaaGreatDoor
open Go Go.Shelf Go.ChangeShapes Go.WideShapes Go.ChangeAt Go.RowKit Go.Lib Go.Ev
open Go.ChangeMaps (open_string shut_string)
set_option maxRecDepth 100000
theorem ZgC:ownKnob Tryz.prog.godebug=none:=by kernel_rfl
def ZkR:DataW Unit→List Value
 | .lit (.int k z)=>[.int k z]
 | .agg l=>l.flatMap fun | .lit (.int k z)=>[.int k z] | _=>[]
 | _=>[]
def ZkK:DataW Unit→List Value
 | .agg l=>l.flatMap ZkR
 | _=>[]
theorem UU {W:World} (h:Lib.VarReads Tryz.prog W PS Rows.laid_internal_strconv_uint64pow10):Pow10 W:=by
 obtain ⟨g,t,cs,b,p,c,d,f,a⟩:=h
 obtain rfl:=Option.some.inj ((show Tryz.prog.globalNamed PS=some 4 by kernel_rfl).symm.trans c)
 obtain rfl:=Option.some.inj ((show (Tryz.prog.globals[4]?).map (·.type)=some 339 by kernel_rfl).symm.trans d)
 have e:(Rows.laid_internal_strconv_uint64pow10:DataW Unit)=Lib.tabData .u64 Lib.pow10Tab:=by kernel_rfl
 rw [e] at a
 unfold Pow10 Lib.TabIs
 rw [f,←Lib.cells_of_tab (n:=20) (k := .u64) (zs:=Lib.pow10Tab) Tryz.underlying339 Tryz.underlying301 (by kernel_rfl) (by kernel_rfl) a]
set_option maxRecDepth 100000
mutual
def Vl.wf:Vl→Prop
 | .mk k i s t l f=>Bj k∧Bj i∧Bj s∧t.size≤maxLen∧l.length≤maxLen∧f.length≤maxLen∧Zei l∧Zd5 f
def Zei:List Vl→Prop
 | []=>True
 | v::r=>v.wf∧Zei r
def Zd5:List (ByteArray × Vl)→Prop
 | []=>True
 | (n,v)::r=>n.size≤maxLen∧v.wf∧Zd5 r
end
theorem ZQ:∀ l,Zei l↔∀ v∈l,v.wf
 | []=>by simp [Zei]
 | v::r=>by simp [Zei,ZQ r]
theorem YK:∀ l,Zd5 l↔∀ p∈l,p.1.size≤maxLen∧p.2.wf
 | []=>by simp [Zd5]
 | (n,v)::r=>by simp [Zd5,YK r,and_assoc]
mutual
def Ty.wf:Ty→Prop
 | .mk k lo hi s w e f=>Bj k∧Bj lo∧Bj hi∧Bj s∧(∀ x∈w,x.size≤maxLen)∧w.length≤maxLen∧e.length≤maxLen∧f.length≤maxLen∧ZdB e∧Y8 f
def ZdB:List Ty→Prop
 | []=>True
 | v::r=>v.wf∧ZdB r
def Y8:List (Int × ByteArray × Int × Ty × List Vl)→Prop
 | []=>True
 | (n,s,d,t,l)::r=>(Bj n∧s.size≤maxLen∧Bj d∧t.wf∧l.length≤maxLen∧∀ v∈l,v.wf)∧Y8 r
end
theorem ZN:∀ l,ZdB l↔∀ v∈l,v.wf
 | []=>by simp [ZdB]
 | v::r=>by simp [ZdB,ZN r]
theorem W9:∀ l,Y8 l↔∀ p∈l,Bj p.1∧p.2.1.size≤maxLen∧Bj p.2.2.1∧p.2.2.2.1.wf∧p.2.2.2.2.length≤maxLen∧∀ v∈p.2.2.2.2,v.wf
 | []=>by simp [Y8]
 | (n,s,d,t,l)::r=>by simp [Y8,W9 r]
mutual
def Vl.bulk:Vl→Nat
 | .mk _ _ _ t l f=>1+t.size+QS l+X4 f
def QS:List Vl→Nat
 | []=>0
 | v::r=>v.bulk+QS r
def X4:List (ByteArray × Vl)→Nat
 | []=>0
 | (n,v)::r=>n.size+v.bulk+X4 r
end
def Yl:List ByteArray→Nat
 | []=>0
 | w::r=>w.size+1+Yl r
mutual
def Ty.bulk:Ty→Nat
 | .mk _ _ _ _ w e f=>1+Yl w+Yc e+Ug f
def Yc:List Ty→Nat
 | []=>0
 | v::r=>v.bulk+Yc r
def Ug:List (Int × ByteArray × Int × Ty × List Vl)→Nat
 | []=>0
 | (_,n,_,t,l)::r=>n.size+t.bulk+QS l+Ug r
end
theorem Qu:∀ l,QS l=(l.map Vl.bulk).sum
 | []=>rfl
 | v::r=>by rw [QS,Qu r];rfl
theorem Us:∀ l,X4 l=(l.map fun p=>p.1.size+p.2.bulk).sum
 | []=>rfl
 | (n,v)::r=>by rw [X4,Us r];rfl
theorem Uo:∀ l,Yl l=(l.map fun w=>w.size+1).sum
 | []=>rfl
 | v::r=>by rw [Yl,Uo r];rfl
theorem U3:∀ l,Yc l=(l.map Ty.bulk).sum
 | []=>rfl
 | v::r=>by rw [Yc,U3 r];rfl
theorem Tm:∀ l,Ug l=(l.map fun p=>p.2.1.size+p.2.2.2.1.bulk+QS p.2.2.2.2).sum
 | []=>rfl
 | (a,n,b,t,l)::r=>by rw [Ug,Tm r];rfl
def Part.wf (p:Part):Prop:=Bj p.kind∧Bj p.index∧p.name.size≤maxLen
def Sch.wf (s:Sch):Prop:=s.name.size≤maxLen∧Bj s.version∧s.type.wf
section
variable {H:Type} {enc:TypeId × Value→H} {W:World}
def RC (W:World) (cs:List Value) (xs:List AV):Prop:=cs.length=xs.length∧∀ i (h1:i<cs.length) (h2:i<xs.length),R W Mem.start W cs[i] xs[i]
theorem RC.nil:RC W [] []:=⟨rfl,fun i a=>absurd a (by simp)⟩
theorem RC.cons {v:Value} {x:AV} {cs:List Value} {xs:List AV} (h:R W Mem.start W v x) (k:RC W cs xs):RC W (v::cs) (x::xs):=⟨by simp [k.1],fun i b a=>by
 cases i with
 | zero=>exact h
 | succ i=>simpa using k.2 i (by simpa using b) (by simpa using a)⟩
theorem RC.app {cs ds:List Value} {xs ys:List AV} (h:RC W cs xs) (k:RC W ds ys):RC W (cs++ds) (xs++ys):=by
 refine ⟨by simp [h.1,k.1],fun i b a=>?_⟩
 by_cases c:i<cs.length
 ·rw [List.getElem_append_left c,List.getElem_append_left (h.1▸c)];exact h.2 i c _
 ·rw [List.getElem_append_right (Nat.le_of_not_lt c),List.getElem_append_right (h.1▸Nat.le_of_not_lt c)]
  simp only [h.1]
  exact k.2 _ (by have:=h.1;rw [List.length_append] at b;omega) (by have:=h.1;rw [List.length_append] at a;omega)
theorem RC.agg {cs:List Value} {xs:List AV} (h:RC W cs xs) (h1:∀ x∈xs,x.one=true):R W Mem.start W (.agg cs.toArray) (.agg xs) := .agg (by simpa using h.1) h1 (fun i a b=>by simpa using h.2 i (by simpa using a) b)
noncomputable abbrev Td (enc:TypeId × Value→H) (W:World) (n:Nat) (t:TypeId) (cs:List Value):Option (DataW H × List MemPlace):=DataW.trod enc Tryz.prog W 0 (fun _=>true) true n t cs
theorem Si (d:DataW H):1≤Rows.uptoBulk d:=by
 cases d with
 | lit l=>cases l<;>simp [Rows.uptoBulk]
 | _=>simp [Rows.uptoBulk]
theorem Xe {α:Type} (m:α→Nat):∀ (l:List α) (es:List (DataW H × List MemPlace)),l.length=es.length→(∀ i (h1:i<l.length) (h2:i<es.length),m l[i]≤Rows.uptoBulk es[i].1)→(l.map m).sum≤Rows.uptoBulkAll (es.map (·.1))
 | [],_,_,_=>by simp
 | y::r,[],h,_=>by simp at h
 | y::r,e::es,h,k=>by
  have a:=k 0 (by simp) (by simp)
  have:=Xe m r es (by simpa using h) (fun i h1 h2=>by have:=k (i+1) (by simpa using h1) (by simpa using h2);simpa using this)
  simp only [List.map_cons,List.sum_cons,Rows.uptoBulkAll,List.getElem_cons_zero] at a ⊢
  omega
theorem L1 {n:Nat} {cs:List Value} {x:DataW H × List MemPlace} (h:Td enc W n 3 cs=some x):∃ z,Bj z∧cs=[.int .i64 z]:=by
 obtain ⟨z,rfl,_,a⟩:=DataW.trod_int Tryz.underlying3 h
 refine ⟨z,?_,rfl⟩
 simp [Lit.wf,IntKind.min,IntKind.max,IntKind.signed,IntKind.bits] at a
 unfold Bj
 omega
theorem SZ {n:Nat} {cs:List Value} {x:DataW H × List MemPlace} (h:Td enc W n 9 cs=some x):∃ s:ByteArray,s.size≤maxLen∧cs=[.string s]∧s.size+1≤Rows.uptoBulk x.1:=by
 obtain ⟨s,rfl,rfl,a⟩:=DataW.trod_string Tryz.underlying9 h
 exact ⟨s,a,rfl,by simp [Rows.uptoBulk]⟩
theorem Jt {α:Type} (f:α→AV) (p:α→Prop) (m:α→Nat) {t e:TypeId} {sz:Nat} (ht:Tryz.prog.underlying t=some (.slice e)) (hc:Tryz.prog.cellsOf e=sz) (hsz:0<sz) {n:Nat}
  (H0:∀ cs x,Td enc W n e cs=some x→∃ y u,p y∧u.cells.toList=cs∧R W Mem.start W u (f y)∧m y≤Rows.uptoBulk x.1) {cs:List Value} {x:DataW H × List MemPlace} (h:Td enc W (n+1) t cs=some x) :
  ∃ (l:List α) (v:Value),(∀ y∈l,p y)∧l.length≤maxLen∧cs=[v]∧R W Mem.start W v (.list (l.map f) .none)∧(l.map m).sum+1≤Rows.uptoBulk x.1:=by
 rcases DataW.trod_slice ht h with ⟨rfl,_⟩ | ⟨a,len,cap,elems,rest,n',hn,rfl,rfl,hb,hl,hm,hlen,hel,hsp,_⟩
 ·exact ⟨[],_,by simp,by simp,rfl,.nil (fun id=>by simp),by simpa using Si x.1⟩
 ·cases hn
  by_cases hcap:cap=0
  ·subst hcap
   obtain rfl:len=0:=by omega
   exact ⟨[],_,by simp,by simp,rfl,.emp (fun id=>by simp),by simpa using Si _⟩
  have hspot:a.spot=none:=by
   have get:∀ (c:DataW H × List MemPlace) (r:List Value→Option (DataW H × List MemPlace)),(W.cells? 0 (a.add (0*Tryz.prog.cellsOf e)) (Tryz.prog.cellsOf e)).bind r=some c→a.spot=none:=fun c r hr=>by
    obtain ⟨cs',E,_⟩:=Option.bind_eq_some_iff.1 hr
    obtain ⟨_,F,D⟩:=World.cells?_some E
    have h4:=D 0 (by omega)
    rw [List.getElem?_eq_getElem (by omega)] at h4
    have e0:(a.add (0*Tryz.prog.cellsOf e)).add 0=a:=by simp [Addr.add]
    rw [e0] at h4
    unfold World.cell? at h4
    split at h4
    ·split at h4
     ·cases h4
     ·rename_i q;simpa using q
    ·cases h4
   by_cases h0:0<len
   ·have:=hel 0 h0
    rw [List.getElem?_eq_getElem (by omega)] at this
    exact get _ _ this
   ·obtain ⟨E,F⟩:=hsp rfl
    have:=F 0 (by omega)
    rw [List.getElem?_eq_getElem (by omega)] at this
    obtain rfl:len=0:=by omega
    exact get _ _ this
  obtain ⟨b,off,sp⟩:=a
  simp only at hspot
  subst hspot
  have C:∀ i,i<len→∃ y u,p y∧R W Mem.start W u (f y)∧(∀ h:i<elems.length,m y≤Rows.uptoBulk elems[i].1)∧u.cells.size=sz∧∀ j,j<sz→W.cell? ⟨b,off+i*sz+j,none⟩=u.cells[j]? := fun i k=>by
   have E:=hel i k
   rw [List.getElem?_eq_getElem (by omega)] at E
   obtain ⟨cs',F,D⟩:=Option.bind_eq_some_iff.1 E
   obtain ⟨y,u,h4,Q,Y,K⟩:=H0 _ _ D
   obtain ⟨_,O,V⟩:=World.cells?_some F
   rw [hc] at O V
   refine ⟨y,u,h4,Y,fun _=>K,by rw [←O,←Q,Array.length_toList],fun j G=>?_⟩
   have:=V j G
   rw [←Q,Array.getElem?_toList] at this
   rw [←this]
   congr 1
   have U:∀ (o m:Nat),(⟨b,o,none⟩:Addr).add m=⟨b,o+m,none⟩:=fun o m=>by unfold Addr.add;split<;>simp_all
   rw [U,U]
  classical
  let y:Nat→Option (α × Value):=fun i=>if k:i<len then some (Classical.choose (C i k),Classical.choose (Classical.choose_spec (C i k))) else none
  have N:len=0∨Nonempty (α × Value):=by
   by_cases h0:0<len
   ·obtain ⟨z,u,_⟩:=C 0 h0;exact .inr ⟨(z,u)⟩
   ·exact .inl (by omega)
  rcases N with h0 | ⟨⟨d⟩⟩
  ·subst h0
   exact ⟨[],_,by simp,by simp,rfl,.list (xs:=[]) 0 (fun _=>undef) (Nat.zero_le _) hm (fun i k=>absurd k (by simp)) (fun i k=>absurd k (by simp)) trivial,by simpa using Si _⟩
  ·let g:Nat→α × Value:=fun i=>if k:i<len then (Classical.choose (C i k),Classical.choose (Classical.choose_spec (C i k))) else d
   have J:∀ i,i<len→p (g i).1∧R W Mem.start W (g i).2 (f (g i).1)∧(∀ h:i<elems.length,m (g i).1≤Rows.uptoBulk elems[i].1)∧(g i).2.cells.size=sz∧∀ j,j<sz→W.cell? ⟨b,off+i*sz+j,none⟩=(g i).2.cells[j]? := fun i k=>by
    have:=Classical.choose_spec (Classical.choose_spec (C i k))
    simp only [g,dif_pos k]
    exact this
   have s:(((List.range len).map fun i=>(g i).1).map f).length=len:=by simp
   refine ⟨(List.range len).map fun i=>(g i).1,.slice (some ⟨b,off,none⟩) len cap,fun z Z=>?_,by simp;omega,rfl,?_,?_⟩
   ·obtain ⟨i,k,rfl⟩:=List.mem_map.1 Z
    exact (J i (by simpa using k)).1
   ·have:=Ev.R.list (w0:=W) (M:=Ev.Mem.start) (w:=W) (b:=b) (off:=off) (cap:=cap) (xs:=((List.range len).map fun i=>(g i).1).map f) (o := .none) sz (fun i=>(g i).2) (by rw [s];exact hl) hm
     (fun i k=>by
      rw [s] at k
      obtain ⟨_,_,_,D,h4⟩:=J i k
      refine ⟨D,fun j G=>⟨.inl ?_,h4 j G⟩⟩
      have:=h4 j G
      rw [Array.getElem?_eq_getElem (by rw [D];exact G)] at this
      exact World.block_lt_of_cell? W _ this) (fun i k=>by
      rw [s] at k
      simp only [List.getElem_map,List.getElem_range]
      exact (J i k).2.1) trivial
    rw [s] at this
    exact this
   ·have:=Xe m ((List.range len).map fun i=>(g i).1) elems (by simp;omega) (fun i E F=>by
     simp only [List.getElem_map,List.getElem_range]
     exact (J i (by omega)).2.2.1 F)
    simp only [Rows.uptoBulk]
    omega
theorem Vl.ones (v:Vl):∀ x∈v.cs,x.one=true:=by
 cases v;intro x hx
 simp only [Vl.cs,List.mem_cons,List.not_mem_nil,or_false] at hx
 rcases hx with rfl | rfl | rfl | rfl | rfl | rfl<;>rfl
theorem Ty.ones (v:Ty):∀ x∈v.cs,x.one=true:=by
 cases v;intro x hx
 simp only [Ty.cs,List.mem_cons,List.not_mem_nil,or_false] at hx
 rcases hx with rfl | rfl | rfl | rfl | rfl | rfl | rfl<;>rfl
theorem XW:∀ (n:Nat) (cs:List Value) (x:DataW H × List MemPlace),Td enc W n 34 cs=some x→∃ v:Vl,v.wf∧RC W cs v.cs∧v.bulk≤Rows.uptoBulk x.1
 | 0,cs,x,h=>by simp [Td,DataW.trod] at h
 | n+1,cs,x,h=>by
  obtain ⟨xs,V,hn,rfl,E,hx,a⟩:=DataW.trod_struct Tryz.underlying34 h
  cases hn
  have f:cs.length=6:=E.trans (by kernel_rfl)
  have q:xs.length=6:=hx
  match cs,f,xs,q,a with
  | [c0,c1,c2,c3,c4,c5],_,[y0,y1,y2,y3,y4,y5],_,a =>
  have O:_=some y0:=a 0 _ rfl;have f1:_=some y1:=a 1 _ rfl;have Y:_=some y2:=a 2 _ rfl;have f3:_=some y3:=a 3 _ rfl;have N:_=some y4:=a 4 _ rfl;have f5:_=some y5:=a 5 _ rfl
  obtain ⟨k,U,ek⟩:=L1 O
  obtain ⟨i,Z,ei⟩:=L1 f1
  obtain ⟨s,hs,es⟩:=L1 Y
  obtain ⟨t,K,et,bt⟩:=SZ f3
  cases n with
  | zero=>simp [DataW.trod] at N
  | succ n =>
  obtain ⟨l,vl,d,D,el,w,bl⟩:=Jt BZ Vl.wf Vl.bulk Tryz.underlying31 (sz:=6) (by kernel_rfl) (by omega) (fun cs x h=>by
   obtain ⟨v,hv,c,J⟩:=XW n cs x h
   exact ⟨v,.agg cs.toArray,hv,by simp [Value.cells],c.agg v.ones,J⟩) N
  obtain ⟨F,vf,o,z,ef,j,bf⟩:=Jt Qc (fun p=>p.1.size≤maxLen∧p.2.wf) (fun p=>p.1.size+p.2.bulk) Tryz.underlying32 (sz:=7) (by kernel_rfl) (by omega) (fun cs x h=>by
   cases n with
   | zero=>simp [DataW.trod] at h
   | succ n =>
   obtain ⟨G,V,hn,rfl,E,hx,a⟩:=DataW.trod_struct Tryz.underlying81 h
   cases hn
   have r:cs.length=7:=E.trans (by kernel_rfl)
   have y:G.length=2:=hx
   match G,y,a with
   | [w0,w1],_,a =>
   have Q:_=some w0:=a 0 _ rfl;have q1:_=some w1:=a 1 _ rfl
   obtain ⟨e,b,en,bn⟩:=SZ Q
   obtain ⟨v,hv,c,J⟩:=XW n _ _ q1
   have e2:Tryz.prog.cellsOf 34=6:=by kernel_rfl
   have e3:Tryz.prog.cellsOf 9=1:=by kernel_rfl
   simp only [List.getElem_toArray,List.getElem_cons_zero,List.getElem_cons_succ,e2,e3] at en c
   match cs,r with
   | [c0,c1,c2,c3,c4,c5,c6],_ =>
   simp only [List.drop_zero,List.take_succ_cons,List.take_zero,List.cons.injEq,and_true,List.drop_succ_cons] at en c
   subst en
   refine ⟨(e,v),.agg #[.string e,c1,c2,c3,c4,c5,c6],⟨b,hv⟩,rfl,?_,by simp only [List.map_cons,List.map_nil,Rows.uptoBulk,Rows.uptoBulkAll];omega⟩
   exact RC.agg (cs:=[.string e,c1,c2,c3,c4,c5,c6]) (.cons (.flat (Ah b)) c) (fun x hx=>by
    rcases List.mem_cons.1 hx with rfl | hx
    ·rfl
    ·exact v.ones x hx)) f5
  have m:Tryz.prog.cellsOf 3=1:=by kernel_rfl
  have g:Tryz.prog.cellsOf 9=1:=by kernel_rfl
  have u:Tryz.prog.cellsOf 31=1:=by kernel_rfl
  have C:Tryz.prog.cellsOf 32=1:=by kernel_rfl
  simp only [List.getElem_toArray,List.getElem_cons_zero,List.getElem_cons_succ,m,g,u,C,List.drop_zero,List.take_succ_cons,List.take_zero,List.cons.injEq,and_true,List.drop_succ_cons] at ek ei es et el ef
  subst ek ei es et el ef
  refine ⟨.mk k i s t l F,?_,?_,by simp only [List.map_cons,List.map_nil,Rows.uptoBulk,Rows.uptoBulkAll,Vl.bulk,Qu,Us];omega⟩
  ·unfold Vl.wf
   exact ⟨U,Z,hs,K,D,z,(ZQ l).2 d,(YK F).2 o⟩
  ·rw [Vl.cs,RF,Y9]
   exact .cons (.flat rfl) (.cons (.flat rfl) (.cons (.flat rfl) (.cons (.flat (Ah K)) (.cons w (.cons j .nil)))))
theorem Za2:∀ (n:Nat) (cs:List Value) (x:DataW H × List MemPlace),Td enc W n 26 cs=some x→∃ v:Ty,v.wf∧RC W cs v.cs∧v.bulk≤Rows.uptoBulk x.1
 | 0,cs,x,h=>by simp [Td,DataW.trod] at h
 | n+1,cs,x,h=>by
  obtain ⟨xs,n',hn,rfl,Y,hx,a⟩:=DataW.trod_struct Tryz.underlying26 h
  cases hn
  have F:cs.length=7:=Y.trans (by kernel_rfl)
  have V:xs.length=7:=hx
  match cs,F,xs,V,a with
  | [c0,c1,c2,c3,c4,c5,c6],_,[y0,y1,y2,y3,y4,y5,y6],_,a =>
  have f0:_=some y0:=a 0 _ rfl;have f1:_=some y1:=a 1 _ rfl;have f2:_=some y2:=a 2 _ rfl;have f3:_=some y3:=a 3 _ rfl;have f4:_=some y4:=a 4 _ rfl;have f5:_=some y5:=a 5 _ rfl;have f6:_=some y6:=a 6 _ rfl
  obtain ⟨k,hk,ek⟩:=L1 f0
  obtain ⟨lo,C,elo⟩:=L1 f1
  obtain ⟨hi,z,ehi⟩:=L1 f2
  obtain ⟨s,hs,es⟩:=L1 f3
  cases n with
  | zero=>simp [DataW.trod] at f4
  | succ n =>
  obtain ⟨w,vw,u,j,ew,m,bw⟩:=Jt Eo (fun s=>s.size≤maxLen) (fun w=>w.size+1) Tryz.underlying22 (sz:=1) (by kernel_rfl) (by omega) (fun cs x h=>by
   obtain ⟨s,hs,rfl,e⟩:=SZ h
   exact ⟨s,.string s,hs,rfl,.flat (Ah hs),e⟩) f4
  obtain ⟨el,ve,O,Z,ee,J,be⟩:=Jt KF Ty.wf Ty.bulk Tryz.underlying23 (sz:=7) (by kernel_rfl) (by omega) (fun cs x h=>by
   obtain ⟨v,hv,b,e⟩:=Za2 n cs x h
   exact ⟨v,.agg cs.toArray,hv,by simp [Value.cells],b.agg v.ones,e⟩) f5
  obtain ⟨fl,vf,y,Q,ef,q,bf⟩:=Jt CW (fun p=>Bj p.1∧p.2.1.size≤maxLen∧Bj p.2.2.1∧p.2.2.2.1.wf∧p.2.2.2.2.length≤maxLen∧∀ v∈p.2.2.2.2,v.wf) (fun p=>p.2.1.size+p.2.2.2.1.bulk+QS p.2.2.2.2) Tryz.underlying24 (sz:=11) (by kernel_rfl) (by omega) (fun cs x h=>by
   cases n with
   | zero=>simp [DataW.trod] at h
   | succ n =>
   obtain ⟨ys,n',hn,rfl,Y,hx,a⟩:=DataW.trod_struct Tryz.underlying95 h
   cases hn
   have d:cs.length=11:=Y.trans (by kernel_rfl)
   have o:ys.length=5:=hx
   match ys,o,a with
   | [w0,w1,w2,w3,w4],_,a =>
   have q0:_=some w0:=a 0 _ rfl;have q1:_=some w1:=a 1 _ rfl;have q2:_=some w2:=a 2 _ rfl;have q3:_=some w3:=a 3 _ rfl;have q4:_=some w4:=a 4 _ rfl
   obtain ⟨r,K,enu⟩:=L1 q0
   obtain ⟨f,c,en,bn⟩:=SZ q1
   obtain ⟨D,g,end'⟩:=L1 q2
   obtain ⟨v,hv,b,aa⟩:=Za2 n _ _ q3
   cases n with
   | zero=>simp [DataW.trod] at q4
   | succ n =>
   obtain ⟨dl,vd,i,E,ed,N,bd⟩:=Jt BZ Vl.wf Vl.bulk Tryz.underlying31 (sz:=6) (by kernel_rfl) (by omega) (fun cs x h=>by
    obtain ⟨v,hv,b,e⟩:=XW n cs x h
    exact ⟨v,.agg cs.toArray,hv,by simp [Value.cells],b.agg v.ones,e⟩) q4
   have e1:Tryz.prog.cellsOf 3=1:=by kernel_rfl
   have e2:Tryz.prog.cellsOf 26=7:=by kernel_rfl
   have e3:Tryz.prog.cellsOf 9=1:=by kernel_rfl
   have e4:Tryz.prog.cellsOf 31=1:=by kernel_rfl
   simp only [List.getElem_toArray,List.getElem_cons_zero,List.getElem_cons_succ,e1,e2,e3,e4] at enu en end' b ed
   match cs,d with
   | [c0,c1,c2,c3,c4,c5,c6,c7,c8,c9,c10],_ =>
   simp only [List.drop_zero,List.take_succ_cons,List.take_zero,List.cons.injEq,and_true,List.drop_succ_cons] at enu en end' b ed
   subst enu en end' ed
   refine ⟨(r,f,D,v,dl),.agg #[.int .i64 r,.string f,.int .i64 D,c3,c4,c5,c6,c7,c8,c9,c10],⟨K,c,g,hv,E,i⟩,rfl,?_,by simp only [List.map_cons,List.map_nil,Rows.uptoBulk,Rows.uptoBulkAll,Qu];omega⟩
   exact RC.agg (cs:=[.int .i64 r,.string f,.int .i64 D]++([c3,c4,c5,c6,c7,c8,c9]++[c10])) (.cons (.flat rfl) (.cons (.flat (show G8 (.string f)=true from Ah c)) (.cons (.flat rfl) (b.app (.cons N .nil))))) (fun x hx=>by
    simp only [List.mem_cons,List.mem_append,List.not_mem_nil,or_false] at hx
    rcases hx with rfl | rfl | rfl | hx | rfl
    ·rfl
    ·rfl
    ·rfl
    ·exact v.ones x hx
    ·rfl)) f6
  have t:Tryz.prog.cellsOf 3=1:=by kernel_rfl
  have l:Tryz.prog.cellsOf 22=1:=by kernel_rfl
  have G:Tryz.prog.cellsOf 23=1:=by kernel_rfl
  have U:Tryz.prog.cellsOf 24=1:=by kernel_rfl
  simp only [List.getElem_toArray,List.getElem_cons_zero,List.getElem_cons_succ,t,l,G,U,List.drop_zero,List.take_succ_cons,List.take_zero,List.cons.injEq,and_true,List.drop_succ_cons] at ek elo ehi es ew ee ef
  subst ek elo ehi es ew ee ef
  refine ⟨.mk k lo hi s w el fl,?_,?_,by simp only [List.map_cons,List.map_nil,Rows.uptoBulk,Rows.uptoBulkAll,Ty.bulk,Uo,U3,Tm];omega⟩
  ·unfold Ty.wf
   exact ⟨hk,C,z,hs,u,j,Z,Q,(ZN el).2 O,(W9 fl).2 y⟩
  ·rw [Ty.cs,Zac,W5,Zej]
   exact .cons (.flat rfl) (.cons (.flat rfl) (.cons (.flat rfl) (.cons (.flat rfl) (.cons m (.cons J (.cons q .nil))))))
end
section
variable {H:Type} {enc:TypeId × Value→H} {W:World} {base:Nat} {v:Value} {d:DataW H} {p:List MemPlace}
theorem ZdO {t:TypeId} {fs:Array Field} (ht:Tryz.prog.underlying t=some (.struct fs)) (hv:Value.okWide Tryz.prog W .any base t v):∃ cs,v = .agg cs:=by
 unfold Value.okWide at hv
 rw [ht] at hv
 obtain ⟨cs,h,_⟩:=hv
 exact ⟨cs,h⟩
theorem ZiL (hv:Value.okWide Tryz.prog W .any base 26 v) (h:DataW.Trod enc Tryz.prog W 0 (fun _=>true) true 26 v d p):∃ t:Ty,t.wf∧R W Mem.start W v (.agg t.cs)∧t.bulk≤Rows.uptoBulk d:=by
 obtain ⟨cs,rfl⟩:=ZdO Tryz.underlying26 hv
 obtain ⟨n,c⟩:=h
 obtain ⟨t,b,a,e⟩:=Za2 n _ _ c
 exact ⟨t,b,by simpa [Value.cells] using a.agg t.ones,e⟩
end
end Go.Proofs.YtmcnjijeocmkgaaGreatDoor
namespace Go.Proofs.YtmcnjijeocmkgaaGreatDoor
open Go Go.RowKit Go.Ev
theorem AK {α:Type} {l:List α} {k:Nat} (h:k<l.length):B6 l (k:Int)=some l[k]:=ZiH h
theorem AH {a b:Nat}:decide ((a:Int)<(b:Int))=decide (a<b):=by simp
theorem AG {k:Nat} (h:k<1000000000000):Bj ((k:Int)+1):=by unfold Bj;omega
theorem Ty.size_pos (t:Ty):0<t.size:=by cases t;simp [Ty.size];omega
theorem Ty.size_eq (t:Ty):t.size=1+Ig t.elem+GB t.fields:=by cases t;simp [Ty.size,Ty.elem,Ty.fields]
theorem VA:∀ (l:List Ty) (v:Ty),v∈l→v.size≤Ig l
 | [],_,h=>by simp at h
 | a::r,v,h=>by
  rcases List.mem_cons.1 h with rfl | h
  ·simp [Ig]
  ·have:=VA r v h
   simp [Ig];omega
theorem TJ:∀ (l:List (Int × ByteArray × Int × Ty × List Vl)) (p:Int × ByteArray × Int × Ty × List Vl),p∈l→p.2.2.2.1.size≤GB l
 | [],_,h=>by simp at h
 | (a,b,c,t,d)::r,p,h=>by
  rcases List.mem_cons.1 h with rfl | h
  ·simp [GB]
  ·have:=TJ r p h
   simp [GB];omega
theorem VY:∀ l:List Ty,l.length≤Ig l
 | []=>Nat.le_refl _
 | v::r=>by have:=VY r;have:=v.size_pos;simp [Ig];omega
theorem TN:∀ l:List (Int × ByteArray × Int × Ty × List Vl),l.length≤GB l
 | []=>Nat.le_refl _
 | (_,_,_,t,_)::r=>by have:=TN r;have:=t.size_pos;simp [GB];omega
theorem Ty.elem_size (t x:Ty) (h:x∈t.elem):x.size<t.size:=by have:=VA _ _ h;have:=t.size_eq;omega
theorem Ty.field_size (t:Ty) (p) (h:p∈t.fields):p.2.2.2.1.size<t.size:=by have:=TJ _ _ h;have:=t.size_eq;omega
theorem Ty.lens (t:Ty):t.elem.length<t.size∧t.fields.length<t.size:=by have:=VY t.elem;have:=TN t.fields;have:=t.size_eq;omega
theorem Vl.list_size (v x:Vl) (h:x∈v.list):x.size<v.size:=by have:=JE _ _ h;have:=v.size_eq;omega
theorem Vl.field_size (v:Vl) (p) (h:p∈v.fields):p.2.size<v.size:=by have:=NV _ _ h;have:=v.size_eq;omega
mutual
def Ty.depth:Ty→Nat
 | .mk _ _ _ _ _ e f=>1+max (Ji e) (Hr f)
def Ji:List Ty→Nat
 | []=>0
 | t::r=>max t.depth (Ji r)
def Hr:List (Int × ByteArray × Int × Ty × List Vl)→Nat
 | []=>0
 | (_,_,_,t,_)::r=>max t.depth (Hr r)
end
mutual
def Vl.ok:Vl→Prop
 | .mk _ _ _ t l f=>t.size≤1048576∧ZcF l∧Zcn f
def ZcF:List Vl→Prop
 | []=>True
 | v::r=>v.ok∧ZcF r
def Zcn:List (ByteArray × Vl)→Prop
 | []=>True
 | (n,v)::r=>n.size≤1048576∧v.ok∧Zcn r
end
theorem YR:∀ l,ZcF l↔∀ v∈l,v.ok
 | []=>by simp [ZcF]
 | v::r=>by simp [ZcF,YR r]
theorem Zad:∀ l,Zcn l↔∀ p∈l,p.1.size≤1048576∧p.2.ok
 | []=>by simp [Zcn]
 | (n,v)::r=>by simp [Zcn,Zad r,and_assoc]
def Vl.small (v:Vl):Prop:=v.size≤1048575∧v.depth≤1048576∧v.ok
mutual
def Ty.ok:Ty→Prop
 | .mk _ _ _ _ w e f=>w.length≤1048576∧(∀ x∈w,x.size≤1048576)∧Zfn e∧ZY f
def Zfn:List Ty→Prop
 | []=>True
 | v::r=>v.ok∧Zfn r
def ZY:List (Int × ByteArray × Int × Ty × List Vl)→Prop
 | []=>True
 | (_,n,_,t,d)::r=>(n.size≤1048576∧t.ok∧d.length≤1048576∧∀ v∈d,v.small)∧ZY r
end
theorem Zh:∀ l,Zfn l↔∀ v∈l,v.ok
 | []=>by simp [Zfn]
 | v::r=>by simp [Zfn,Zh r]
theorem Xp:∀ l,ZY l↔∀ p∈l,p.2.1.size≤1048576∧p.2.2.2.1.ok∧p.2.2.2.2.length≤1048576∧∀ v∈p.2.2.2.2,v.small
 | []=>by simp [ZY]
 | (_,n,_,t,d)::r=>by simp [ZY,Xp r]
theorem Ty.ok_eq (t:Ty):t.ok↔t.words.length≤1048576∧(∀ x∈t.words,x.size≤1048576)∧(∀ v∈t.elem,v.ok)∧∀ p∈t.fields,p.2.1.size≤1048576∧p.2.2.2.1.ok∧p.2.2.2.2.length≤1048576∧∀ v∈p.2.2.2.2,v.small:=by
 cases t;simp only [Ty.ok,Ty.words,Ty.elem,Ty.fields,Zh,Xp]
theorem Vl.ok_eq (v:Vl):v.ok↔v.text.size≤1048576∧(∀ x∈v.list,x.ok)∧∀ p∈v.fields,p.1.size≤1048576∧p.2.ok:=by
 cases v;simp only [Vl.ok,Vl.text,Vl.list,Vl.fields,YR,Zad]
theorem LO:∀ (l:List Ty) (d:Nat),Ji l≤d↔∀ v∈l,v.depth≤d
 | [],d=>by simp [Ji]
 | v::r,d=>by simp [Ji,Nat.max_le,LO r d]
theorem J4:∀ (l:List (Int × ByteArray × Int × Ty × List Vl)) (d:Nat),Hr l≤d↔∀ v∈l,v.2.2.2.1.depth≤d
 | [],d=>by simp [Hr]
 | (_,_,_,t,_)::r,d=>by simp [Hr,Nat.max_le,J4 r d]
theorem Ty.depth_eq (t:Ty):t.depth=1+Max.max (Ji t.elem) (Hr t.fields):=by cases t;simp [Ty.depth,Ty.elem,Ty.fields]
theorem Vl.eta (v:Vl):Vl.mk v.kind v.int v.scale v.text v.list v.fields=v:=by cases v;rfl
theorem Ty.eta (v:Ty):Ty.mk v.kind v.min v.max v.scale v.words v.elem v.fields=v:=by cases v;rfl
theorem Ur (rec:Vl→Option Vl) (n:Nat) (v:Vl) (hs:v.fields.length≤1000000000000) (hr:∀ p∈v.fields,rec p.2=some p.2) (b:List Vl):∀ (k m i:Nat),i+k=v.fields.length→k<m→Hw rec n v m i b (v.fields.take i)=some (Vl.mk v.kind v.int v.scale v.text b v.fields)
 | k,0,i,_,h=>absurd h (Nat.not_lt_zero _)
 | 0,m+1,i,hi,_=>by
  rw [Hw,AH,Ac]
  simp only [Bool.false_eq_true,if_false,MM]
  rw [List.take_of_length_le (by omega)]
 | k+1,m+1,i,hi,hm=>by
  have a:i<v.fields.length:=by omega
  rw [Hw,AH,Ah a]
  simp only [if_true,AK a,Af,hr _ (List.getElem_mem a)]
  rw [Ai (by rw [List.length_take];omega),Ai (AG (by omega))]
  have e:v.fields.take i++[(v.fields[i].1,v.fields[i].2)]=v.fields.take (i+1):=by rw [List.take_succ_eq_append_getElem a]
  rw [e]
  exact Ur rec n v hs hr b k m (i+1) (by omega) (by omega)
theorem Xo (rec:Vl→Option Vl) (n:Nat) (v:Vl) (hs:v.fields.length≤1000000000000∧v.list.length≤1000000000000) (hn:v.fields.length<n) (hr:(∀ x∈v.list,rec x=some x)∧∀ p∈v.fields,rec p.2=some p.2):∀ (k m i:Nat),i+k=v.list.length→k<m→IL rec n v m i (v.list.take i)=some v
 | k,0,i,_,h=>absurd h (Nat.not_lt_zero _)
 | 0,m+1,i,hi,_=>by
  rw [IL,AH,Ac]
  simp only [Bool.false_eq_true,if_false,NY]
  rw [List.take_of_length_le (by omega)]
  have:=Ur rec n v hs.1 hr.2 v.list v.fields.length n 0 (by omega) hn
  rw [List.take_zero] at this
  exact this.trans (by rw [Vl.eta])
 | k+1,m+1,i,hi,hm=>by
  have a:i<v.list.length:=by omega
  rw [IL,AH,Ah a]
  simp only [if_true,AK a,Af,hr.1 _ (List.getElem_mem a)]
  rw [Ai (by rw [List.length_take];omega),Ai (AG (by omega))]
  have e:v.list.take i++[v.list[i]]=v.list.take (i+1):=by rw [List.take_succ_eq_append_getElem a]
  rw [e]
  exact Xo rec n v hs hn hr k m (i+1) (by omega) (by omega)
theorem QD:∀ (n:Nat) (v:Vl),v.size<n→v.wide=true→D4 n v=some v
 | 0,v,h,_=>absurd h (Nat.not_lt_zero _)
 | n+1,v,h,hs=>by
  have g:=PD v
  obtain ⟨e,f,c,d⟩:=v.wide_iff.1 hs
  rw [D4,PQ]
  have:=Xo (D4 n) n v ⟨by omega,by omega⟩ (by omega) ⟨fun x a=>QD n x (by have:=v.list_size x a;omega) (c x a),fun p b=>QD n p.2 (by have:=v.field_size p b;omega) (d p b)⟩ v.list.length n 0 (by omega) (by omega)
  rw [List.take_zero] at this
  exact this
theorem Nx (n:Nat) (v:Vl) (h:v.size<n) (hs:v.size≤1000000000):D4 n v=some v:=QD n v h (H7 _ v (Nat.le_refl _) (by omega))
abbrev TF:=Int × ByteArray × Int × Ty × List Vl
theorem Zb7 (rec:Ty→Option Ty) (n:Nat) (p:TF) (y:Ty) (hs:p.2.2.2.2.length≤1000000000) (hr:∀ v∈p.2.2.2.2,D4 n v=some v):∀ (k m i:Nat),i+k=p.2.2.2.2.length→k<m→DG rec n p y m (p.2.2.2.2.take i) i=some (p.1,p.2.1,p.2.2.1,y,p.2.2.2.2)
 | k,0,i,_,h=>absurd h (Nat.not_lt_zero _)
 | 0,m+1,i,hi,_=>by
  rw [DG,AH,Ac]
  simp only [Bool.false_eq_true,if_false,Iu]
  rw [List.take_of_length_le (by omega)]
 | k+1,m+1,i,hi,hm=>by
  have a:i<p.2.2.2.2.length:=by omega
  rw [DG,AH,Ah a]
  simp only [if_true,AK a,Af,hr _ (List.getElem_mem a)]
  rw [Ai (by rw [List.length_take];omega),Ai (AG (by omega))]
  have e:p.2.2.2.2.take i++[p.2.2.2.2[i]]=p.2.2.2.2.take (i+1):=by rw [List.take_succ_eq_append_getElem a]
  rw [e]
  exact Zb7 rec n p y hs hr k m (i+1) (by omega) (by omega)
theorem Zd0 (rec:Ty→Option Ty) (n:Nat) (p:TF) (hs:p.2.2.2.2.length≤1000000000) (hn:p.2.2.2.2.length<n) (hr:∀ v∈p.2.2.2.2,D4 n v=some v) (ht:rec p.2.2.2.1=some p.2.2.2.1):DY rec n p=some p:=by
 rw [DY,ht]
 simp only [Af]
 rw [Ab]
 have:=Zb7 rec n p p.2.2.2.1 hs hr p.2.2.2.2.length n 0 (by omega) hn
 rw [List.take_zero] at this
 exact this
theorem UK (rec:Ty→Option Ty) (n:Nat) (t:Ty) (hw:t.words.length≤1000000000) (hs:t.fields.length≤1000000000) (hr:∀ p∈t.fields,DY rec n p=some p) (e:List Ty):∀ (k m i:Nat),i+k=t.fields.length→k<m→HJ rec n t m e (t.fields.take i) i=some (Ty.mk t.kind t.min t.max t.scale t.words e t.fields)
 | k,0,i,_,h=>absurd h (Nat.not_lt_zero _)
 | 0,m+1,i,hi,_=>by
  rw [HJ,AH,Ac]
  simp only [Bool.false_eq_true,if_false,MP]
  rw [List.take_of_length_le (by omega),Ab]
 | k+1,m+1,i,hi,hm=>by
  have a:i<t.fields.length:=by omega
  rw [HJ,AH,Ah a]
  simp only [if_true,AK a,Af,hr _ (List.getElem_mem a)]
  rw [Ai (by rw [List.length_take];omega),Ai (AG (by omega))]
  have b:t.fields.take i++[t.fields[i]]=t.fields.take (i+1):=by rw [List.take_succ_eq_append_getElem a]
  rw [b]
  exact UK rec n t hw hs hr e k m (i+1) (by omega) (by omega)
theorem WR (rec:Ty→Option Ty) (n:Nat) (t:Ty) (hw:t.words.length≤1000000000) (hs:t.fields.length≤1000000000∧t.elem.length≤1000000000) (hn:t.fields.length<n) (hr:(∀ x∈t.elem,rec x=some x)∧∀ p∈t.fields,DY rec n p=some p):∀ (k m i:Nat),i+k=t.elem.length→k<m→IE rec n t m (t.elem.take i) i=some t
 | k,0,i,_,h=>absurd h (Nat.not_lt_zero _)
 | 0,m+1,i,hi,_=>by
  rw [IE,AH,Ac]
  simp only [Bool.false_eq_true,if_false,N4]
  rw [List.take_of_length_le (by omega),Ab]
  have:=UK rec n t hw hs.1 hr.2 t.elem t.fields.length n 0 (by omega) hn
  rw [List.take_zero] at this
  exact this.trans (by rw [Ty.eta])
 | k+1,m+1,i,hi,hm=>by
  have a:i<t.elem.length:=by omega
  rw [IE,AH,Ah a]
  simp only [if_true,AK a,Af,hr.1 _ (List.getElem_mem a)]
  rw [Ai (by rw [List.length_take];omega),Ai (AG (by omega))]
  have e:t.elem.take i++[t.elem[i]]=t.elem.take (i+1):=by rw [List.take_succ_eq_append_getElem a]
  rw [e]
  exact WR rec n t hw hs hn hr k m (i+1) (by omega) (by omega)
theorem SC:∀ (n:Nat) (t:Ty),t.size+1400000<n→t.size≤1000000000→t.ok→H4 n t=some t
 | 0,t,h,_,_=>absurd h (Nat.not_lt_zero _)
 | n+1,t,h,hs,hok=>by
  have i:=t.lens
  obtain ⟨g,f,e,d⟩:=t.ok_eq.1 hok
  rw [H4,PV,Ab]
  have:=WR (H4 n) n t (by omega) ⟨by omega,by omega⟩ (by omega) ⟨fun x a=>SC n x (by have:=t.elem_size x a;omega) (by have:=t.elem_size x a;omega) (e x a),fun p c=>by
   obtain ⟨_,q2,q3,b⟩:=d p c
   have:=t.field_size p c
   exact Zd0 _ n p (by omega) (by omega) (fun v hv=>Nx n v (by have:=(b v hv).1;omega) (by have:=(b v hv).1;omega)) (SC n _ (by omega) (by omega) q2)⟩ t.elem.length n 0 (by omega) (by omega)
  rw [List.take_zero] at this
  exact this
theorem ZA (l:List Vl) (i:Nat) (h:i<l.length):Bm (l.drop i)=l[i].size+Bm (l.drop (i+1)):=by rw [List.drop_eq_getElem_cons h,Bm]
def Ty.small (t:Ty):Prop:=t.size≤600∧t.depth≤12∧t.ok
def Hf (rec:Vl→Int→Option Vl) (n:Nat) (h:Vl) (b:List Vl) (g:List (ByteArray × Vl)):Option Vl :=
 some (Vl.mk h.kind h.int h.scale (h.text.extract 0 ((if 40<(h.text.size:Int) then 40 else (h.text.size:Int))).toNat) b g)
def Eg (rec:Vl→Int→Option Vl) (n:Nat) (y:Vl) (z:Int):Nat→(List Vl)→(List (ByteArray × Vl))→Int→Option Vl
 | 0,_,_,_=>none
 | m+1,q,g,b =>
  if ((decide (b<(y.fields.length:Int)))&&(decide (b<6)))&&(decide (1<z)) then
   (B6 y.fields b).bind fun h =>
   if 0≤0∧0≤(if 40<(h.1.size:Int) then 40 else (h.1.size:Int))∧(if 40<(h.1.size:Int) then 40 else (h.1.size:Int))≤(h.1.size:Int) then
    if Bj (z-1) then
     (rec h.2 (z-1)).bind fun y35 =>
     if (g.length+1)*104≤140737488355328∧g.length+1≤4611686018427387904 then
      if Bj (b+1) then
       (Eg rec n y z m) q (g++([(h.1.extract 0 ((if 40<(h.1.size:Int) then 40 else (h.1.size:Int))).toNat,y35)])) (b+1)
      else none
     else none
    else none
   else none
  else
   Hf rec n y q g
def H9 (rec:Vl→Int→Option Vl) (n:Nat) (h:Vl) (g:Int) (b:List Vl):Option Vl :=
 Eg rec n h g n b ([]) 0
def D8 (rec:Vl→Int→Option Vl) (n:Nat) (q:Vl) (h:Int):Nat→(List Vl)→Int→Option Vl
 | 0,_,_=>none
 | m+1,g,b =>
  if ((decide (b<(q.list.length:Int)))&&(decide (b<6)))&&(decide (1<h)) then
   (B6 q.list b).bind fun y =>
   if Bj (h-1) then
    (rec y (h-1)).bind fun z =>
    if (g.length+1)*88≤140737488355328∧g.length+1≤4611686018427387904 then
     if Bj (b+1) then
      (D8 rec n q h m) (g++([z])) (b+1)
     else none
    else none
   else none
  else
   H9 rec n q h g
def GO (rec:Vl→Int→Option Vl) (n:Nat) (b:Vl) (g:Int):Option Vl :=
 if 0≤0∧0≤(if 40<(b.text.size:Int) then 40 else (b.text.size:Int))∧(if 40<(b.text.size:Int) then 40 else (b.text.size:Int))≤(b.text.size:Int) then
  D8 rec n b g n ([]) 0
 else none
def BF:Nat→Vl→Int→Option Vl
 | 0,_,_=>none
 | n+1,b,g=>GO (BF n) n b g
def KE (w0:World) (F:Vl→Int→Option Vl):Prop:=∀ (B:As) (Rw:Ax) (L:Aw) (b:Vl) (g:Int) (r:Vl),F b g=some r→ACalls Tryz.prog w0 149 [.agg (b.cs),Am g] ⟨B,Rw,L⟩ fun x st=>x = .agg (r.cs)∧st=⟨B,Rw,L⟩
theorem Qs (w0:World) (rec:Vl→Int→Option Vl) (ih:KE w0 rec) (n:Nat):KE w0 (GO rec n):=by
 intro B Rw L a0 a1 r h
 rw [GO] at h
 refine hd [.cell 4 34] Tryz.func149 Tryz.ntmps149 fun M0 W0 z x y t K w hs=>?_
 simp only [AB]
 refine rg [1,2,4] hs ?_
 obtain ⟨H,h⟩:=Av h
 have hs:=Ae (Vl.cs_eqs a0) hs
 refine rg [1,2,4] hs ?_
 refine rg [1,2,4,5] hs ?_
 refine rg [1,2,4,5,6] hs ?_
 refine AA (fun e st=>∃ (o:List Vl) (i:Ev.Own),Ck e st B Rw L [(1,true,Am a1),(2,true,.box B.length 0),(4,true,.box (B.length+1) 0),(5,true,.list (o.map BZ) i),(6,true,.list ([]) .full)] [[Am a0.kind,Am a0.int,Am a0.scale,.val (.string (a0.text.extract 0 ((if 40<(a0.text.size:Int) then 40 else (a0.text.size:Int))).toNat)),.list (a0.list.map BZ) .none,.list (a0.fields.map Qc) .none],MD] [(6,o.length,i)] (H9 rec n a0 a1 o=some r)) ?_ ?_
 ·intro K8 F
  refine rg [1,2,4,5,6,7] hs ?_
  apply Au
  refine AC (fun m e st=>∃ (j:List Vl) (v:Int) (l:Ev.Own),Ck e st B Rw L [(1,true,Am a1),(2,true,.box B.length 0),(4,true,.box (B.length+1) 0),(5,true,.list (j.map BZ) l),(6,true,.list ([]) .full),(7,true,Am v)] [[Am a0.kind,Am a0.int,Am a0.scale,.val (.string (a0.text.extract 0 ((if 40<(a0.text.size:Int) then 40 else (a0.text.size:Int))).toNat)),.list (a0.list.map BZ) .none,.list (a0.fields.map Qc) .none],MD] [(6,j.length,l)] (D8 rec n a0 a1 m j v=some r)) n ⟨([]),0,.full,([]),Rw,ef hs,ef hs,Owns.of_eq ((w).full 6 0) E0,h⟩ ?_
  rintro ml10 e st ⟨j,v,l,Xl10,Rl10,rfl,rfl,w,h⟩ Ul10 Vl10
  cases ml10 with
  | zero=>cases h
  | succ ml10 =>
  rw [D8] at h
  exact go (tg (a:=([1,2,4,5,6,7,29],([1,2,4,5,6,7],[1,2,4,5,6,7],[1,2,4,5,6,7],()),[1,2,4,5,6],()))) h hs z x y t w (q2 (ae M4 Ij) ih) (q2 F (fun e s=>Vl10 ml10 e s (Nat.lt_succ_self _)))
 ·clear h;rintro e st ⟨o,i,Xk7,Rk7,rfl,rfl,w,h⟩
  rw [H9] at h
  have E:=w.unders
  simp only [List.mem_cons,List.not_mem_nil,or_false,forall_eq_or_imp,forall_eq] at E
  refine td z x y t w ?_
  refine AA (fun e st=>∃ (g:List Vl) (k:List (ByteArray × Vl)) (q:Ev.Own) (p:Ev.Own),Ck e st B Rw L [(2,true,.box B.length 0),(4,true,.box (B.length+1) 0),(5,true,.list (g.map BZ) q),(6,true,.list (k.map Qc) p)] [[Am a0.kind,Am a0.int,Am a0.scale,.val (.string (a0.text.extract 0 ((if 40<(a0.text.size:Int) then 40 else (a0.text.size:Int))).toNat)),.list (a0.list.map BZ) .none,.list (a0.fields.map Qc) .none],MD] [(6,g.length,q),(7,k.length,p)] (Hf rec n a0 g k=some r)) ?_ ?_
  ·intro K25 D
   refine rg [1,2,4,5,6,8] hs ?_
   apply Au
   refine AC (fun m e st=>∃ (c:List Vl) (d:List (ByteArray × Vl)) (u:Int) (f:Ev.Own) (b:Ev.Own),Ck e st B Rw L [(1,true,Am a1),(2,true,.box B.length 0),(4,true,.box (B.length+1) 0),(5,true,.list (c.map BZ) f),(6,true,.list (d.map Qc) b),(8,true,Am u)] [[Am a0.kind,Am a0.int,Am a0.scale,.val (.string (a0.text.extract 0 ((if 40<(a0.text.size:Int) then 40 else (a0.text.size:Int))).toNat)),.list (a0.list.map BZ) .none,.list (a0.fields.map Qc) .none],MD] [(6,c.length,f),(7,d.length,b)] (Eg rec n a0 a1 m c d u=some r)) n ⟨o,([]),0,i,.full,([]),Rk7,ef hs,ef hs,Owns.of_eq (((w).full 7 0).swap (List.Perm.swap _ _ _)) E0,h⟩ ?_
   rintro ml27 e st ⟨c,d,u,f,b,Xl27,Rl27,rfl,rfl,w,h⟩ Ul27 Vl27
   cases ml27 with
   | zero=>cases h
   | succ ml27 =>
   rw [Eg] at h
   have E:=w.unders
   simp only [List.mem_cons,List.not_mem_nil,or_false,forall_eq_or_imp,forall_eq] at E
   obtain ⟨J,G⟩:=E
   refine td z x y t w ?_
   apply Ap;intro K28 C
   refine rg [1,2,4,5,6,8,55] hs ?_
   refine Cj h hs ?_ ?_<;>intro hs h
   rotate_left
   ·refine sx [2,4,5,6] hs D ?_
    exact ⟨c,d,f,b,([]),Rl27,ef hs,ef hs,Owns.of_eq (((w).swap (List.Perm.swap _ _ _)).swap (List.Perm.swap _ _ _)) E0,h⟩
   exact go (tg (a:=([1,2,4,5,6,8],[27,1,2,4,5,6,8],[1,2,4,5,6,8],()))) h hs z x y t w (q2 (ae Zfi Y5) ih) (q2 C (fun e s=>Vl27 ml27 e s (Nat.lt_succ_self _)))
  ·clear h;rintro e st ⟨g,k,q,p,Xk24,Rk24,rfl,rfl,w,h⟩
   rw [Hf] at h
   exact go (tg (a:=([2,4],[4],()))) h hs z x y t w trivial trivial
theorem JC (w0:World):∀ n:Nat,KE w0 (BF n)
 | 0=>fun _ _ _ _ _ _ h=>(nomatch h)
 | n+1=>Qs w0 (BF n) (JC w0 n) n
def G9 (rec:Ex→Int→Option Ex) (n:Nat) (h:Ex) (b:List Vl) (g:List Ex):Option Ex :=
 some (Ex.mk h.op h.int (h.text.extract 0 ((if 60<(h.text.size:Int) then 60 else (h.text.size:Int))).toNat) b g)
def Ea (rec:Ex→Int→Option Ex) (n:Nat) (q:Ex) (y:Int):Nat→(List Vl)→(List Ex)→Int→Option Ex
 | 0,_,_,_=>none
 | m+1,h,g,b =>
  if ((decide (b<(q.args.length:Int)))&&(decide (b<4)))&&(decide (1<y)) then
   (B6 q.args b).bind fun x31 =>
   if Bj (y-1) then
    (rec x31 (y-1)).bind fun z =>
    if (g.length+1)*80≤140737488355328∧g.length+1≤4611686018427387904 then
     if Bj (b+1) then
      (Ea rec n q y m) h (g++([z])) (b+1)
     else none
    else none
   else none
  else
   G9 rec n q h g
def HT (rec:Ex→Int→Option Ex) (n:Nat) (g:Ex) (h:Int) (b:List Vl):Option Ex :=
 Ea rec n g h n b ([]) 0
def EM (rec:Ex→Int→Option Ex) (n:Nat) (h:Ex) (z:Int):Nat→(List Vl)→Int→Option Ex
 | 0,_,_=>none
 | m+1,g,b =>
  if (decide (b<(h.value.length:Int)))&&(decide (b<2)) then
   (B6 h.value b).bind fun q =>
   (BF n q 2).bind fun y =>
   if (g.length+1)*88≤140737488355328∧g.length+1≤4611686018427387904 then
    if Bj (b+1) then
     (EM rec n h z m) (g++([y])) (b+1)
    else none
   else none
  else
   HT rec n h z g
def GP (rec:Ex→Int→Option Ex) (n:Nat) (b:Ex) (g:Int):Option Ex :=
 if 0≤0∧0≤(if 60<(b.text.size:Int) then 60 else (b.text.size:Int))∧(if 60<(b.text.size:Int) then 60 else (b.text.size:Int))≤(b.text.size:Int) then
  EM rec n b g n ([]) 0
 else none
def B9:Nat→Ex→Int→Option Ex
 | 0,_,_=>none
 | n+1,b,g=>GP (B9 n) n b g
def KG (w0:World) (F:Ex→Int→Option Ex):Prop:=∀ (B:As) (Rw:Ax) (L:Aw) (b:Ex) (g:Int) (r:Ex),F b g=some r→ACalls Tryz.prog w0 61 [.agg (b.cs),Am g] ⟨B,Rw,L⟩ fun x st=>x = .agg (r.cs)∧st=⟨B,Rw,L⟩
theorem Qx (w0:World) (rec:Ex→Int→Option Ex) (ih:KG w0 rec) (n:Nat):KG w0 (GP rec n):=by
 intro B Rw L a0 a1 r h
 rw [GP] at h
 refine hd [.cell 4 65] Tryz.func61 Tryz.ntmps61 fun M0 W0 z x y k K w hs=>?_
 simp only [AB]
 refine rg [1,2,4] hs ?_
 obtain ⟨H,h⟩:=Av h
 have hs:=Ae (Ex.cs_eqs a0) hs
 refine rg [1,2,4] hs ?_
 refine rg [1,2,4,5] hs ?_
 refine AA (fun e st=>∃ (l:List Vl) (i:Ev.Own),Ck e st B Rw L [(1,true,Am a1),(2,true,.box B.length 0),(4,true,.box (B.length+1) 0),(5,true,.list (l.map BZ) i)] [[Am a0.op,Am a0.int,.val (.string (a0.text.extract 0 ((if 60<(a0.text.size:Int) then 60 else (a0.text.size:Int))).toNat)),.list (a0.value.map BZ) .none,.list (a0.args.map NE) .none],[Am 0,Am 0,.val (.string (⟨#[]⟩:ByteArray)),.list ([]) .full,.list ([]) .full]] [(6,l.length,i)] (HT rec n a0 a1 l=some r)) ?_ ?_
 ·intro K7 F
  refine rg [1,2,4,5,6] hs ?_
  apply Au
  refine AC (fun m e st=>∃ (u:List Vl) (v:Int) (q:Ev.Own),Ck e st B Rw L [(1,true,Am a1),(2,true,.box B.length 0),(4,true,.box (B.length+1) 0),(5,true,.list (u.map BZ) q),(6,true,Am v)] [[Am a0.op,Am a0.int,.val (.string (a0.text.extract 0 ((if 60<(a0.text.size:Int) then 60 else (a0.text.size:Int))).toNat)),.list (a0.value.map BZ) .none,.list (a0.args.map NE) .none],[Am 0,Am 0,.val (.string (⟨#[]⟩:ByteArray)),.list ([]) .full,.list ([]) .full]] [(6,u.length,q)] (EM rec n a0 a1 m u v=some r)) n ⟨([]),0,.full,([]),Rw,ef hs,ef hs,Owns.of_eq ((w).full 6 0) E0,h⟩ ?_
  rintro ml9 e st ⟨u,v,q,Xl9,Rl9,rfl,rfl,w,h⟩ Ul9 Vl9
  cases ml9 with
  | zero=>cases h
  | succ ml9 =>
  rw [EM] at h
  exact go (tg (a:=([1,2,4,5,6,25],([1,2,4,5,6],[1,2,4,5,6],[1,2,4,5,6],()),[1,2,4,5],()))) h hs z x y k w (q2 (ae M4 Ij) (JC w0 n)) (q2 F (fun e s=>Vl9 ml9 e s (Nat.lt_succ_self _)))
 ·clear h;rintro e st ⟨l,i,Xk6,Rk6,rfl,rfl,w,h⟩
  rw [HT] at h
  have E:=w.unders
  simp only [List.mem_cons,List.not_mem_nil,or_false,forall_eq_or_imp,forall_eq] at E
  refine td z x y k w ?_
  refine rg [1,2,4,5,7] hs ?_
  refine AA (fun e st=>∃ (g:List Vl) (j:List Ex) (p:Ev.Own) (o:Ev.Own),Ck e st B Rw L [(2,true,.box B.length 0),(4,true,.box (B.length+1) 0),(5,true,.list (g.map BZ) p),(7,true,.list (j.map NE) o)] [[Am a0.op,Am a0.int,.val (.string (a0.text.extract 0 ((if 60<(a0.text.size:Int) then 60 else (a0.text.size:Int))).toNat)),.list (a0.value.map BZ) .none,.list (a0.args.map NE) .none],[Am 0,Am 0,.val (.string (⟨#[]⟩:ByteArray)),.list ([]) .full,.list ([]) .full]] [(6,g.length,p),(5,j.length,o)] (G9 rec n a0 g j=some r)) ?_ ?_
  ·intro K24 D
   refine rg [1,2,4,5,7,8] hs ?_
   apply Au
   refine AC (fun m e st=>∃ (f:List Vl) (b:List Ex) (t:Int) (d:Ev.Own) (c:Ev.Own),Ck e st B Rw L [(1,true,Am a1),(2,true,.box B.length 0),(4,true,.box (B.length+1) 0),(5,true,.list (f.map BZ) d),(7,true,.list (b.map NE) c),(8,true,Am t)] [[Am a0.op,Am a0.int,.val (.string (a0.text.extract 0 ((if 60<(a0.text.size:Int) then 60 else (a0.text.size:Int))).toNat)),.list (a0.value.map BZ) .none,.list (a0.args.map NE) .none],[Am 0,Am 0,.val (.string (⟨#[]⟩:ByteArray)),.list ([]) .full,.list ([]) .full]] [(6,f.length,d),(5,b.length,c)] (Ea rec n a0 a1 m f b t=some r)) n ⟨l,([]),0,i,.full,([]),Rk6,ef hs,ef hs,Owns.of_eq (((w).full 5 0).swap (List.Perm.swap _ _ _)) E0,h⟩ ?_
   rintro ml26 e st ⟨f,b,t,d,c,Xl26,Rl26,rfl,rfl,w,h⟩ Ul26 Vl26
   cases ml26 with
   | zero=>cases h
   | succ ml26 =>
   rw [Ea] at h
   have E:=w.unders
   simp only [List.mem_cons,List.not_mem_nil,or_false,forall_eq_or_imp,forall_eq] at E
   obtain ⟨J,G⟩:=E
   refine td z x y k w ?_
   apply Ap;intro K27 C
   refine rg [1,2,4,5,7,8,49] hs ?_
   refine Cj h hs ?_ ?_<;>intro hs h
   rotate_left
   ·refine sx [2,4,5,7] hs D ?_
    exact ⟨f,b,d,c,([]),Rl26,ef hs,ef hs,Owns.of_eq (((w).swap (List.Perm.swap _ _ _)).swap (List.Perm.swap _ _ _)) E0,h⟩
   exact go (tg (a:=([1,2,4,5,7,8],[1,2,4,5,7,8],[1,2,4,5,7,8],()))) h hs z x y k w (q2 (ae XM RE) ih) (q2 C (fun e s=>Vl26 ml26 e s (Nat.lt_succ_self _)))
  ·clear h;rintro e st ⟨g,j,p,o,Xk23,Rk23,rfl,rfl,w,h⟩
   rw [G9] at h
   exact go (tg (a:=([2,4],[4],()))) h hs z x y k w trivial trivial
theorem Np (w0:World):∀ n:Nat,KG w0 (B9 n)
 | 0=>fun _ _ _ _ _ _ h=>(nomatch h)
 | n+1=>Qx w0 (B9 n) (Np w0 n) n
def Ld (n:Nat)  (b2_k4_0:List (ByteArray × Ex)):Option ((List (ByteArray × Ex))) :=
 some (b2_k4_0)
def HQ (n:Nat) (q:List (ByteArray × Ex)):Nat→Int→(List (ByteArray × Ex))→Option ((List (ByteArray × Ex)))
 | 0,_,_=>none
 | m+1,b,b2_l7_0 =>
  if (decide (b<(q.length:Int)))&&(decide (b<8)) then
   (B6 q b).bind fun g =>
   if 0≤0∧0≤(if 60<(g.1.size:Int) then 60 else (g.1.size:Int))∧(if 60<(g.1.size:Int) then 60 else (g.1.size:Int))≤(g.1.size:Int) then
    (B9 n g.2 4).bind fun h =>
    if (b2_l7_0.length+1)*96≤140737488355328∧b2_l7_0.length+1≤4611686018427387904 then
     if Bj (b+1) then
      (HQ n q m) (b+1) (b2_l7_0++([(g.1.extract 0 ((if 60<(g.1.size:Int) then 60 else (g.1.size:Int))).toNat,h)]))
     else none
    else none
   else none
  else
   Ld n b2_l7_0
def Ks (n:Nat) (b:List (ByteArray × Ex)):Option ((List (ByteArray × Ex))) :=
 HQ n b n 0 ([])
theorem RP (w0:World) (n:Nat) (B:As) (Rw:Ax) (L:Aw) (a0:List (ByteArray × Ex)) (r:(List (ByteArray × Ex))) (h:Ks n a0=some r) :
  ACalls Tryz.prog w0 19 [.agg ([.list (a0.map AP) .none])] ⟨B,Rw,L⟩ fun x st=>x = .agg ([.list (r.map AP) .none])∧st=⟨B,Rw,L⟩:=by
 rw [Ks] at h
 refine hd [.cell 2 49] Tryz.func19 Tryz.ntmps19 fun M0 W0 p l j i q k hs=>?_
 simp only [AB]
 refine rg [1,2] hs ?_
 refine rg [1,2,3] hs ?_
 refine AA (fun e st=>∃ (c:List (ByteArray × Ex)) (f:Ev.Own),Ck e st B Rw L [(2,true,.box (B.length+1) 0),(3,true,.box (B.length+2) 0)] [[.list (a0.map AP) .none],[.list ([]) .full],[.list (c.map AP) f]] [(6,c.length,f)] (Ld n c=some r)) ?_ ?_
 ·intro K5 o
  refine rg [1,2,3,4] hs ?_
  apply Au
  refine AC (fun m e st=>∃ (g:Int) (b:List (ByteArray × Ex)) (d:Ev.Own),Ck e st B Rw L [(1,true,.box B.length 0),(2,true,.box (B.length+1) 0),(3,true,.box (B.length+2) 0),(4,true,Am g)] [[.list (a0.map AP) .none],[.list ([]) .full],[.list (b.map AP) d]] [(6,b.length,d)] (HQ n a0 m g b=some r)) n ⟨0,([]),.full,([]),Rw,ef hs,ef hs,Owns.of_eq ((k).full 6 0) E0,h⟩ ?_
  rintro ml7 e st ⟨g,b,d,Xl7,Rl7,rfl,rfl,k,h⟩ Ul7 Vl7
  cases ml7 with
  | zero=>cases h
  | succ ml7 =>
  rw [HQ] at h
  exact go (tg (a:=([1,2,3,4,13],([1,2,3,4],[26,1,2,3,4],[1,2,3,4],()),[2,3],()))) h hs p l j i k (q2 (ae YC Rh) (Np w0 n)) (q2 o (fun e s=>Vl7 ml7 e s (Nat.lt_succ_self _)))
 ·clear h;rintro e st ⟨c,f,Xk4,Rk4,rfl,rfl,k,h⟩
  rw [Ld] at h
  exact go (tg (a:=([2],()))) h hs p l j i k trivial trivial
section
variable {P:Program} {w0:World} {n:Nat} {l:List Oper} {ef dn:List Nat} {F:St→Prop} {T:Env→St→Prop} {k:Nat} {ev:Env} {s:St}
theorem gm1 {i:Nat} (_:Tg i) (hr:Zal l ef dn=[i]) (hn:(ef.all fun i=>dn.contains i)=false) (hF:F s) (h:∃ o,l[i]? = some o∧o.guard=none∧KT n o.dst∧∃ Post:AV→St→Prop,Xk P w0 (CO true l o ev) s o Post∧∀ v s',Post v s'→Ev.Good P w0 n l ef F T k (i::dn) (KZ ev o.dst true v) s'):Ev.Good P w0 n l ef F T (k+1) dn ev s :=
 Ev.Good.mk [i] hr hF (fun q=>by rw [hn] at q;cases q) (fun j hj=>by obtain rfl:=List.mem_singleton.1 hj;exact h)
theorem gm0 {L:List Nat} {nb:Nat} {e2:Env} (_:Tg L) (hr:Zal l ef dn=[]) (hF:F s) (hT:Fv L ev=e2):Ev.Good P w0 n l ef F (fun ev s'=>Conv w0 n nb ev s' e2 s) (k+1) dn ev s :=
 Ev.Good.mk [] hr hF (fun _=>SX L hT) (fun i hi=>by cases hi)
theorem stI {o:Oper} {v:AV} {s':St} (h:DW P w0 ev s o v s'):DW P w0 ev s o v s':=h
theorem kpI {L:List Nat} {e e':Env} (h:Fv L e=e'):Fv L e=e':=h
end
theorem gd {T F p:Prop} (tL:T) (hs:F) (k:T→F→p:=by
  intro tL hs
  repeat' first
    | ((with_reducible refine gm1 (tgh tL) kr rfl ?_ ?_)<;>replace tL:=tgt tL)
    | (with_reducible apply gm0 tL kr)
    | (apply Cc rfl rfl ev
       case' hs=>((simp +decide only [go_sem,Nat.reduceAdd,DW,hs]);(repeat' apply Ae)<;>first | rfl | exact cl)
       case' hk=>simp +decide only [go_sem,Nat.reduceAdd,hs])
    | ((with_reducible refine stI ?_);simp +decide only [go_sem,Nat.reduceAdd,DW,hs];(repeat' apply Ae)<;>first | rfl | exact cl)
    | ((with_reducible apply kpI);first | (simp +decide only [go_sem,Nat.reduceAdd,hs];done) | (simp +decide only [go_sem,Nat.reduceAdd,hs];rfl) | (simp +decide only [go_sem,Nat.reduceAdd,and_self,imp_self,hs];done) | (simp +decide only [go_sem,Nat.reduceAdd,and_self,imp_self,hs];rfl))
    | exact ⟨[],_,rfl⟩
    | exact ⟨[],_,_,rfl⟩
    | exact ⟨[],_,_,_,rfl⟩
    | exact ⟨_,_,rfl⟩
    | exact ⟨_,_,_,rfl⟩
    | exact ⟨[],_,by simp only [List.append_nil,List.nil_append]⟩
    | exact ⟨[],_,_,by simp only [List.append_nil,List.nil_append]⟩
    | exact ⟨_,_,by simp only [List.append_nil,List.nil_append]⟩):p:=k tL hs
def H5 (rec:Ty→Int→Option Ty) (n:Nat) (g:(List ByteArray)→(List Ty)→(List (Int × ByteArray × Int × Ty × List Vl))→Int→Option Ty) (b:Int) (h:List ByteArray) (y:List Ty) (q:List (Int × ByteArray × Int × Ty × List Vl)):Option Ty :=
 if Bj (b+1) then
  g h y q (b+1)
 else none
def Ib (rec:Ty→Int→Option Ty) (n:Nat) (q:Ty) (g:List ByteArray) (b:List Ty) (h:List (Int × ByteArray × Int × Ty × List Vl)):Option Ty :=
 some (Ty.mk q.kind q.min q.max q.scale g b h)
def F5 (rec:Ty→Int→Option Ty) (n:Nat) (h:(List ByteArray)→(List Ty)→(List (Int × ByteArray × Int × Ty × List Vl))→Int→Option Ty) (a1:Int) (y:Int) (b:Int × ByteArray × Int × Ty × List Vl) (x5_k53:List ByteArray) (z:List Ty) (g:List (Int × ByteArray × Int × Ty × List Vl)) (q:List Vl):Option Ty :=
 if 0≤0∧0≤(if 40<(b.2.1.size:Int) then 40 else (b.2.1.size:Int))∧(if 40<(b.2.1.size:Int) then 40 else (b.2.1.size:Int))≤(b.2.1.size:Int) then
  if Bj (a1-1) then
   (rec b.2.2.2.1 (a1-1)).bind fun y71 =>
   if (g.length+1)*160≤140737488355328∧g.length+1≤4611686018427387904 then
    H5 rec n h y x5_k53 z (g++([(b.1,b.2.1.extract 0 ((if 40<(b.2.1.size:Int) then 40 else (b.2.1.size:Int))).toNat,b.2.2.1,y71,q)]))
   else none
  else none
 else none
def DN (rec:Ty→Int→Option Ty) (n:Nat) (h:(List ByteArray)→(List Ty)→(List (Int × ByteArray × Int × Ty × List Vl))→Int→Option Ty) (a1:Int) (q:Int) (x50:Int × ByteArray × Int × Ty × List Vl):Nat→(List ByteArray)→(List Ty)→(List (Int × ByteArray × Int × Ty × List Vl))→(List Vl)→Int→Option Ty
 | 0,_,_,_,_,_=>none
 | m+1,z,x6_l56,y,g,b =>
  if (decide (b<(x50.2.2.2.2.length:Int)))&&(decide (b<2)) then
   (B6 x50.2.2.2.2 b).bind fun x61 =>
   (BF n x61 3).bind fun y62 =>
   if (g.length+1)*88≤140737488355328∧g.length+1≤4611686018427387904 then
    if Bj (b+1) then
     (DN rec n h a1 q x50 m) z x6_l56 y (g++([y62])) (b+1)
    else none
   else none
  else
   F5 rec n h a1 q x50 z x6_l56 y g
def BG (rec:Ty→Int→Option Ty) (n:Nat) (y:Ty) (a1:Int):Nat→(List ByteArray)→(List Ty)→(List (Int × ByteArray × Int × Ty × List Vl))→Int→Option Ty
 | 0,_,_,_,_=>none
 | m+1,h,q,g,b =>
  if ((decide (b<(y.fields.length:Int)))&&(decide (b<6)))&&(decide (1<a1)) then
   (B6 y.fields b).bind fun z =>
   DN rec n (BG rec n y a1 m) a1 b z n h q g ([]) 0
  else
   Ib rec n y h q g
def H6 (rec:Ty→Int→Option Ty) (n:Nat) (h:Ty) (q:Int) (b:List ByteArray) (g:List Ty):Option Ty :=
 BG rec n h q n b g ([]) 0
def EN (rec:Ty→Int→Option Ty) (n:Nat) (y:Ty) (q:Int):Nat→(List ByteArray)→(List Ty)→Int→Option Ty
 | 0,_,_,_=>none
 | m+1,h,g,b =>
  if ((decide (b<(y.elem.length:Int)))&&(decide (b<2)))&&(decide (1<q)) then
   (B6 y.elem b).bind fun x30 =>
   if Bj (q-1) then
    (rec x30 (q-1)).bind fun z =>
    if (g.length+1)*104≤140737488355328∧g.length+1≤4611686018427387904 then
     if Bj (b+1) then
      (EN rec n y q m) h (g++([z])) (b+1)
     else none
    else none
   else none
  else
   H6 rec n y q h g
def Is (rec:Ty→Int→Option Ty) (n:Nat) (g:Ty) (h:Int) (b:List ByteArray):Option Ty :=
 EN rec n g h n b ([]) 0
def E7 (rec:Ty→Int→Option Ty) (n:Nat) (q:Ty) (y:Int):Nat→(List ByteArray)→Int→Option Ty
 | 0,_,_=>none
 | m+1,g,b =>
  if (decide (b<(q.words.length:Int)))&&(decide (b<6)) then
   (B6 q.words b).bind fun h =>
   if 0≤0∧0≤(if 40<(h.size:Int) then 40 else (h.size:Int))∧(if 40<(h.size:Int) then 40 else (h.size:Int))≤(h.size:Int) then
    if (g.length+1)*16≤140737488355328∧g.length+1≤4611686018427387904 then
     if Bj (b+1) then
      (E7 rec n q y m) (g++([h.extract 0 ((if 40<(h.size:Int) then 40 else (h.size:Int))).toNat])) (b+1)
     else none
    else none
   else none
  else
   Is rec n q y g
def Hy (rec:Ty→Int→Option Ty) (n:Nat) (b:Ty) (g:Int):Option Ty :=
 E7 rec n b g n ([]) 0
def CQ:Nat→Ty→Int→Option Ty
 | 0,_,_=>none
 | n+1,b,g=>Hy (CQ n) n b g
def LE (w0:World) (F:Ty→Int→Option Ty):Prop:=∀ (B:As) (Rw:Ax) (L:Aw) (b:Ty) (g:Int) (r:Ty),F b g=some r→ACalls Tryz.prog w0 62 [.agg (b.cs),Am g] ⟨B,Rw,L⟩ fun x st=>x = .agg (r.cs)∧st=⟨B,Rw,L⟩
theorem Q2 (w0:World) (rec:Ty→Int→Option Ty) (ih:LE w0 rec) (n:Nat):LE w0 (Hy rec n):=by
 intro B Rw L a0 a1 r h
 rw [Hy] at h
 refine hd [.cell 4 26] Tryz.func62 Tryz.ntmps62 fun M0 W0 hN a4 a3 j hu i hs=>?_
 simp only [AB]
 refine rg [1,2,4] hs ?_
 refine rg [1,2,4,5] hs ?_
 refine rg [1,2,4,5,6] hs ?_
 refine rg [1,2,4,5,6,7] hs ?_
 refine AA (fun e st=>∃ (az:List ByteArray) (ar:Ev.Own),Ck e st B Rw L [(1,true,Am a1),(2,true,.box B.length 0),(4,true,.box (B.length+1) 0),(5,true,.list (az.map Eo) ar),(6,true,.list ([]) .full),(7,true,.list ([]) .full)] [a0.cs,[Am 0,Am 0,Am 0,Am 0,.list ([]) .full,.list ([]) .full,.list ([]) .full]] [(1,az.length,ar)] (Is rec n a0 a1 az=some r)) ?_ ?_
 ·intro K7 b3
  refine rg [1,2,4,5,6,7,8] hs ?_
  apply Au
  refine AC (fun m e st=>∃ (a7:List ByteArray) (a9:Int) (a6:Ev.Own),Ck e st B Rw L [(1,true,Am a1),(2,true,.box B.length 0),(4,true,.box (B.length+1) 0),(5,true,.list (a7.map Eo) a6),(6,true,.list ([]) .full),(7,true,.list ([]) .full),(8,true,Am a9)] [a0.cs,[Am 0,Am 0,Am 0,Am 0,.list ([]) .full,.list ([]) .full,.list ([]) .full]] [(1,a7.length,a6)] (E7 rec n a0 a1 m a7 a9=some r)) n ⟨([]),0,.full,([]),Rw,ef hs,ef hs,Owns.of_eq ((i).full 1 0) E0,h⟩ ?_
  rintro ml9 e st ⟨a7,a9,a6,Xl9,Rl9,rfl,rfl,i,h⟩ Ul9 Vl9
  cases ml9 with
  | zero=>cases h
  | succ ml9 =>
  rw [E7] at h
  exact go (tg (a:=([1,2,4,5,6,7,8,22],([1,2,4,5,6,7,8],[15,1,2,4,5,6,7,8],[1,2,4,5,6,7,8],()),[1,2,4,5,6,7],()))) h hs hN a4 a3 j i (q1 (ae Vb Rq)) (q2 b3 (fun e s=>Vl9 ml9 e s (Nat.lt_succ_self _)))
 ·clear h;rintro e st ⟨az,ar,Xk6,Rk6,rfl,rfl,i,h⟩
  rw [Is] at h
  have hU:=i.unders
  simp only [List.mem_cons,List.not_mem_nil,or_false,forall_eq_or_imp,forall_eq] at hU
  refine td hN a4 a3 j i ?_
  refine AA (fun e st=>∃ (ah:List ByteArray) (aa:List Ty) (Y:Ev.Own) (U:Ev.Own),Ck e st B Rw L [(1,true,Am a1),(2,true,.box B.length 0),(4,true,.box (B.length+1) 0),(5,true,.list (ah.map Eo) Y),(6,true,.list (aa.map KF) U),(7,true,.list ([]) .full)] [a0.cs,[Am 0,Am 0,Am 0,Am 0,.list ([]) .full,.list ([]) .full,.list ([]) .full]] [(1,ah.length,Y),(7,aa.length,U)] (H6 rec n a0 a1 ah aa=some r)) ?_ ?_
  ·intro K23 bq
   refine rg [1,2,4,5,6,7,9] hs ?_
   apply Au
   refine AC (fun m e st=>∃ (aj:List ByteArray) (ak:List Ty) (a8:Int) (Z:Ev.Own) (ag:Ev.Own),Ck e st B Rw L [(1,true,Am a1),(2,true,.box B.length 0),(4,true,.box (B.length+1) 0),(5,true,.list (aj.map Eo) Z),(6,true,.list (ak.map KF) ag),(7,true,.list ([]) .full),(9,true,Am a8)] [a0.cs,[Am 0,Am 0,Am 0,Am 0,.list ([]) .full,.list ([]) .full,.list ([]) .full]] [(1,aj.length,Z),(7,ak.length,ag)] (EN rec n a0 a1 m aj ak a8=some r)) n ⟨az,([]),0,ar,.full,([]),Rk6,ef hs,ef hs,Owns.of_eq (((i).full 7 0).swap (List.Perm.swap _ _ _)) E0,h⟩ ?_
   rintro ml25 e st ⟨aj,ak,a8,Z,ag,Xl25,Rl25,rfl,rfl,i,h⟩ Ul25 Vl25
   cases ml25 with
   | zero=>cases h
   | succ ml25 =>
   rw [EN] at h
   have hU:=i.unders
   simp only [List.mem_cons,List.not_mem_nil,or_false,forall_eq_or_imp,forall_eq] at hU
   obtain ⟨ba,bb⟩:=hU
   refine td hN a4 a3 j i ?_
   apply Ap;intro K26 bu
   refine rg [1,2,4,5,6,7,9,53] hs ?_
   refine Cj h hs ?_ ?_<;>intro hs h
   rotate_left
   ·refine sx [1,2,4,5,6,7] hs bq ?_
    exact ⟨aj,ak,Z,ag,([]),Rl25,ef hs,ef hs,Owns.of_eq (((i).swap (List.Perm.swap _ _ _)).swap (List.Perm.swap _ _ _)) E0,h⟩
   exact go (tg (a:=([1,2,4,5,6,7,9],[1,2,4,5,6,7,9],[1,2,4,5,6,7,9],()))) h hs hN a4 a3 j i (q2 (ae ZaF VG) ih) (q2 bu (fun e s=>Vl25 ml25 e s (Nat.lt_succ_self _)))
  ·clear h;rintro e st ⟨ah,aa,Y,U,Xk22,Rk22,rfl,rfl,i,h⟩
   rw [H6] at h
   have hU:=i.unders
   simp only [List.mem_cons,List.not_mem_nil,or_false,forall_eq_or_imp,forall_eq] at hU
   obtain ⟨ba,bb⟩:=hU
   refine td hN a4 a3 j i ?_
   refine AA (fun e st=>∃ (av:List ByteArray) (aq:List Ty) (au:List (Int × ByteArray × Int × Ty × List Vl)) (a2:Ev.Own) (ax:Ev.Own) (ay:Ev.Own),Ck e st B Rw L [(2,true,.box B.length 0),(4,true,.box (B.length+1) 0),(5,true,.list (av.map Eo) a2),(6,true,.list (aq.map KF) ax),(7,true,.list (au.map CW) ay)] [a0.cs,[Am 0,Am 0,Am 0,Am 0,.list ([]) .full,.list ([]) .full,.list ([]) .full]] [(1,av.length,a2),(7,aq.length,ax),(11,au.length,ay)] (Ib rec n a0 av aq au=some r)) ?_ ?_
   ·intro K40 bo
    refine rg [1,2,4,5,6,7,10] hs ?_
    apply Au
    refine AC (fun m e st=>∃ (K:List ByteArray) (E:List Ty) (J:List (Int × ByteArray × Int × Ty × List Vl)) (c:Int) (z:Ev.Own) (w:Ev.Own) (p:Ev.Own),Ck e st B Rw L [(1,true,Am a1),(2,true,.box B.length 0),(4,true,.box (B.length+1) 0),(5,true,.list (K.map Eo) z),(6,true,.list (E.map KF) w),(7,true,.list (J.map CW) p),(10,true,Am c)] [a0.cs,[Am 0,Am 0,Am 0,Am 0,.list ([]) .full,.list ([]) .full,.list ([]) .full]] [(1,K.length,z),(7,E.length,w),(11,J.length,p)] (BG rec n a0 a1 m K E J c=some r)) n ⟨ah,aa,([]),0,Y,U,.full,([]),Rk22,ef hs,ef hs,Owns.of_eq ((((i).full 11 0).swap ((List.Perm.cons _ (List.Perm.swap _ _ _)).trans (List.Perm.swap _ _ _))).swap ((List.Perm.cons _ (List.Perm.swap _ _ _)).trans (List.Perm.swap _ _ _))) E0,h⟩ ?_
    rintro ml42 e st ⟨K,E,J,c,z,w,p,Xl42,Rl42,rfl,rfl,i,h⟩ Ul42 Vl42
    cases ml42 with
    | zero=>cases h
    | succ ml42 =>
    rw [BG] at h
    have hU:=i.unders
    simp only [List.mem_cons,List.not_mem_nil,or_false,forall_eq_or_imp,forall_eq] at hU
    obtain ⟨ba,bb,bm⟩:=hU
    refine td hN a4 a3 j i ?_
    apply Ap;intro K43 bj
    refine rg [1,2,4,5,6,7,10,79] hs ?_
    refine Cj h hs ?_ ?_<;>intro hs h
    rotate_left
    ·have a5:=hs.1
     refine sx [2,4,5,6,7] hs bo ?_
     exact ⟨K,E,J,z,w,p,([]),Rl42,ef hs,ef hs,Owns.of_eq ((((i).swap ((List.Perm.cons _ (List.Perm.swap _ _ _)).trans (List.Perm.swap _ _ _))).swap ((List.Perm.cons _ (List.Perm.swap _ _ _)).trans (List.Perm.swap _ _ _))).swap ((List.Perm.cons _ (List.Perm.swap _ _ _)).trans (List.Perm.swap _ _ _))) E0,h⟩
    have a5:=hs.1
    refine sk [1,2,4,5,6,7,10] hs bj ?_
    clear bj
    refine AA (fun e st=>∃ (V:List ByteArray) (Q:List Ty) (am:List (Int × ByteArray × Int × Ty × List Vl)) (ab:Ev.Own) (af:Ev.Own) (ad:Ev.Own),Ck e st B Rw L [(1,true,Am a1),(2,true,.box B.length 0),(4,true,.box (B.length+1) 0),(5,true,.list (V.map Eo) ab),(6,true,.list (Q.map KF) af),(7,true,.list (am.map CW) ad),(10,true,Am c)] [a0.cs,[Am 0,Am 0,Am 0,Am 0,.list ([]) .full,.list ([]) .full,.list ([]) .full]] [(1,V.length,ab),(7,Q.length,af),(11,am.length,ad)] (H5 rec n (BG rec n a0 a1 ml42) c V Q am=some r)) ?_ ?_
    ·intro K48 br
     apply Au
     obtain ⟨b,bt,h⟩:=bind_some h
     obtain ⟨b2,bw,bl⟩:=Bt bt
     have O:=Bv (f:=CW) bl
     have hs:=Ae O hs
     refine rg [1,2,4,5,6,7,10,11] hs ?_
     refine rg [1,2,4,5,6,7,10,11,12] hs ?_
     refine AA (fun e st=>∃ (D:List ByteArray) (F:List Ty) (l:List (Int × ByteArray × Int × Ty × List Vl)) (d:List Vl) (v:Ev.Own) (x:Ev.Own) (aw:Ev.Own) (k:Ev.Own),Ck e st B Rw L [(1,true,Am a1),(2,true,.box B.length 0),(4,true,.box (B.length+1) 0),(5,true,.list (D.map Eo) v),(6,true,.list (F.map KF) x),(7,true,.list (l.map CW) aw),(10,true,Am c),(11,true,.box (B.length+2) 0),(12,true,.list (d.map BZ) k)] [a0.cs,[Am 0,Am 0,Am 0,Am 0,.list ([]) .full,.list ([]) .full,.list ([]) .full],Am b.1::(.val (.string b.2.1)::(Am b.2.2.1::((b.2.2.2.1.cs)++([.list (b.2.2.2.2.map BZ) .none]))))] [(1,D.length,v),(7,F.length,x),(11,l.length,aw),(6,d.length,k)] (F5 rec n (BG rec n a0 a1 ml42) a1 c b D F l d=some r)) ?_ ?_
     ·intro K54 bv
      refine rg [1,2,4,5,6,7,10,11,12,13] hs ?_
      apply Au
      refine AC (fun m e st=>∃ (C:List ByteArray) (N:List Ty) (H:List (Int × ByteArray × Int × Ty × List Vl)) (g:List Vl) (ai:Int) (o:Ev.Own) (t:Ev.Own) (q:Ev.Own) (G:Ev.Own),Ck e st B Rw L [(1,true,Am a1),(2,true,.box B.length 0),(4,true,.box (B.length+1) 0),(5,true,.list (C.map Eo) o),(6,true,.list (N.map KF) t),(7,true,.list (H.map CW) q),(10,true,Am c),(11,true,.box (B.length+2) 0),(12,true,.list (g.map BZ) G),(13,true,Am ai)] [a0.cs,[Am 0,Am 0,Am 0,Am 0,.list ([]) .full,.list ([]) .full,.list ([]) .full],Am b.1::(.val (.string b.2.1)::(Am b.2.2.1::((b.2.2.2.1.cs)++([.list (b.2.2.2.2.map BZ) .none]))))] [(1,C.length,o),(7,N.length,t),(11,H.length,q),(6,g.length,G)] (DN rec n (BG rec n a0 a1 ml42) a1 c b m C N H g ai=some r)) n ⟨K,E,J,([]),0,z,w,p,.full,([]),Rl42,ef hs,ef hs,Owns.of_eq (((((i).full 6 0).swap ((List.Perm.cons _ ((List.Perm.cons _ (List.Perm.swap _ _ _)).trans (List.Perm.swap _ _ _))).trans (List.Perm.swap _ _ _))).swap ((List.Perm.cons _ ((List.Perm.cons _ (List.Perm.swap _ _ _)).trans (List.Perm.swap _ _ _))).trans (List.Perm.swap _ _ _))).swap ((List.Perm.cons _ ((List.Perm.cons _ (List.Perm.swap _ _ _)).trans (List.Perm.swap _ _ _))).trans (List.Perm.swap _ _ _))) E0,h⟩ ?_
      rintro ml56 e st ⟨C,N,H,g,ai,o,t,q,G,Xl56,Rl56,rfl,rfl,i,h⟩ Ul56 Vl56
      cases ml56 with
      | zero=>cases h
      | succ ml56 =>
      rw [DN] at h
      have hU:=i.unders
      simp only [List.mem_cons,List.not_mem_nil,or_false,forall_eq_or_imp,forall_eq] at hU
      obtain ⟨ba,bb,bm,b4⟩:=hU
      refine td hN a4 a3 j i ?_
      apply Ap;intro K57 bf
      refine rg [1,2,4,5,6,7,10,11,12,13,95] hs ?_
      refine Cj h hs ?_ ?_<;>intro hs h
      rotate_left
      ·refine sx [1,2,4,5,6,7,10,11,12] hs bv ?_
       exact ⟨C,N,H,g,o,t,q,G,([]),Rl56,ef hs,ef hs,Owns.of_eq (((((i).swap ((List.Perm.cons _ ((List.Perm.cons _ (List.Perm.swap _ _ _)).trans (List.Perm.swap _ _ _))).trans (List.Perm.swap _ _ _))).swap ((List.Perm.cons _ ((List.Perm.cons _ (List.Perm.swap _ _ _)).trans (List.Perm.swap _ _ _))).trans (List.Perm.swap _ _ _))).swap ((List.Perm.cons _ ((List.Perm.cons _ (List.Perm.swap _ _ _)).trans (List.Perm.swap _ _ _))).trans (List.Perm.swap _ _ _))).swap ((List.Perm.cons _ ((List.Perm.cons _ (List.Perm.swap _ _ _)).trans (List.Perm.swap _ _ _))).trans (List.Perm.swap _ _ _))) E0,h⟩
      refine sk [1,2,4,5,6,7,10,11,12,13] hs bf ?_
      clear bf
      apply Ap;intro K60 bi
      apply Au
      obtain ⟨b0,b5,bz,bn,h⟩:=ix BZ h
      obtain ⟨bx,bs,h⟩:=bind_some h
      obtain ⟨bg,h⟩:=Av h
      have i:=i.swap ((List.Perm.cons _ ((List.Perm.cons _ (List.Perm.swap _ _ _)).trans (List.Perm.swap _ _ _))).trans (List.Perm.swap _ _ _))
      obtain ⟨b1,bd,i,ap⟩:=i.append (P:=Tryz.prog) M4 (by rw [Ij];rfl) (by decide) 1 bg.1 bg.2
      replace ap:=fun (ys:List AV) B L o2=>ap (g.map BZ) ys B L o2 E0
      replace ap:=fun (y:AV) B L o2=>ap [y] B L o2 E0 ev
      try simp only [List.mem_singleton,List.mem_cons,List.not_mem_nil,or_false,forall_eq_or_imp,forall_eq,List.map_append,List.map_cons,List.map_nil,Ge,Gi,F3,ES,EY,F7,Dn,D5,F2,CN,CM,Ej,D7,Ef,F4,Ee,FZ] at ap
      have hs:=Ae bn hs
      have hs:=Ae ap hs
      refine rk 2 [1,2,4,5,6,7,10,11,12,13] hs ?_
      refine Az _ (JC w0 n _ _ _ b0 3 _ bs) (hv hs) ?_
      refine ne hs bi ?_
      clear bi
      obtain ⟨b8,h⟩:=Av h
      refine rl [1,2,4,5,6,7,10,11,12,13] hs (fun e s=>Vl56 ml56 e s (Nat.lt_succ_self _)) ?_
      exact ⟨C,N,H,(g++([bx])),(ai+1),o,t,q,b1,([]),bd,ef hs,ef hs,Owns.of_eq ((((i).swap ((List.Perm.cons _ ((List.Perm.cons _ (List.Perm.swap _ _ _)).trans (List.Perm.swap _ _ _))).trans (List.Perm.swap _ _ _))).swap ((List.Perm.cons _ ((List.Perm.cons _ (List.Perm.swap _ _ _)).trans (List.Perm.swap _ _ _))).trans (List.Perm.swap _ _ _))).swap ((List.Perm.cons _ ((List.Perm.cons _ (List.Perm.swap _ _ _)).trans (List.Perm.swap _ _ _))).trans (List.Perm.swap _ _ _))) E0,h⟩
     ·clear h;rintro e st ⟨D,F,l,d,v,x,aw,k,Xk53,Rk53,rfl,rfl,i,h⟩
      rw [F5] at h
      have hU:=i.unders
      simp only [List.mem_cons,List.not_mem_nil,or_false,forall_eq_or_imp,forall_eq] at hU
      obtain ⟨ba,bb,bm,b4⟩:=hU
      refine td hN a4 a3 j i ?_
      apply Ap;intro K68 bk
      obtain ⟨b7,h⟩:=Av h
      obtain ⟨b6,h⟩:=Av h
      obtain ⟨u,bh,h⟩:=bind_some h
      apply Zj OJ [14,16,18] [1,3,8] [1,2,4,5,6,7,10,11] kr (fun s=>∃ (X:As) (rows:Ax) (c2:List AV),s=⟨B++([a0.cs,[Am 0,Am 0,Am 0,Am 0,.list ([]) .full,.list ([]) .full,.list ([]) .full],c2]++X),rows,L⟩) 4 (B.length+3)
      ·simp +decide only [go_sem,Nat.reduceAdd]
      ·refine ⟨2,?_⟩
       rw [Aq];simp +decide only [go_sem,Nat.reduceAdd,Dw,a5,O,Ty.cs_eqs b.2.2.2.1,Ty.cs_eqs u]
       have hs:=Ae (Ty.cs_eqs b.2.2.2.1) hs
       have hs:=Ae (Ty.cs_eqs u) hs
       (repeat' apply Ae)<;>first | refine Az _ (ih _ _ _ b.2.2.2.1 (a1-1) _ bh) (hv hs) ?_ | exact cl
       rw [Aq];simp +decide only [go_sem,Nat.reduceAdd,a5,O,Ty.cs_eqs b.2.2.2.1,Ty.cs_eqs u]
       (repeat' apply Ae)<;>first | rfl | exact cl
      ·rintro s ⟨X,rows,c2,rfl⟩
       refine ⟨2,?_⟩
       rw [Aq];simp +decide only [go_sem,Nat.reduceAdd,Dw,List.append_eq,List.cons_append,List.nil_append,a5,O,Ty.cs_eqs b.2.2.2.1,Ty.cs_eqs u]
       have hs:=Ae (Ty.cs_eqs b.2.2.2.1) hs
       have hs:=Ae (Ty.cs_eqs u) hs
       (repeat' apply Ae)<;>first | refine Az _ (ih _ _ _ b.2.2.2.1 (a1-1) _ bh) (hv hs) ?_ | exact cl
       rw [Aq];simp +decide only [go_sem,Nat.reduceAdd,a5,O,Ty.cs_eqs b.2.2.2.1,Ty.cs_eqs u]
       (repeat' apply Ae)<;>first | rfl | ((repeat (first | exact .nil | refine .cons (ef hs) ?_));done) | exact cl
      ·exact gd (tg (a:=(14,16,18,[1,2,4,5,6,7,10,11]))) (Ae (Ty.cs_eqs u) (Ae (Ty.cs_eqs b.2.2.2.1) (Ae O hs)))
      simp +decide only [go_sem,Nat.reduceAdd,a5,O,Ty.cs_eqs b.2.2.2.1,Ty.cs_eqs u]
      (repeat' apply Ae)<;>first | refine bk _ _ ?_ | exact cl
      clear bk
      obtain ⟨be,h⟩:=Av h
      have i:=i.swap ((List.Perm.cons _ (List.Perm.swap _ _ _)).trans (List.Perm.swap _ _ _))
      obtain ⟨bp,bc,i,ao⟩:=i.append (P:=Tryz.prog) Vj (by rw [O3];rfl) (by decide) 1 be.1 be.2
      replace ao:=fun (ys:List AV) B L o2=>ao (l.map CW) ys B L o2 E0
      replace ao:=fun (y:AV) B L o2=>ao [y] B L o2 E0 ev
      try simp only [List.mem_singleton,List.mem_cons,List.not_mem_nil,or_false,forall_eq_or_imp,forall_eq,List.map_append,List.map_cons,List.map_nil,Ge,Gi,F3,ES,EY,F7,Dn,D5,F2,CN,CM,Ej,D7,Ef,F4,Ee,FZ] at ao
      have hs:=Ae (Ty.cs_eqs b.2.2.2.1) hs
      have hs:=Ae (Ty.cs_eqs u) hs
      have hs:=Ae ao hs
      refine rl [1,2,4,5,6,7,10] hs br ?_
      exact ⟨D,F,(l++([(b.1,b.2.1.extract 0 ((if 40<(b.2.1.size:Int) then 40 else (b.2.1.size:Int))).toNat,b.2.2.1,u,d)])),v,x,bp,([[Am b.1,.val (.string (b.2.1.extract 0 ((if 40<(b.2.1.size:Int) then 40 else (b.2.1.size:Int))).toNat)),Am b.2.2.1,Am u.kind,Am u.min,Am u.max,Am u.scale,.list (u.words.map Eo) .none,.list (u.elem.map KF) .none,.list (u.fields.map CW) .none,.list (d.map BZ) k]]),bc,ef hs,ef hs,Owns.of_eq ((((i).swap ((List.Perm.cons _ (List.Perm.swap _ _ _)).trans (List.Perm.swap _ _ _))).swap ((List.Perm.cons _ (List.Perm.swap _ _ _)).trans (List.Perm.swap _ _ _))).sub (List.sublist_append_left [(1,D.length,v),(7,F.length,x),(11,l.length+1,bp)] [(6,d.length,k)])) E0,h⟩
    ·clear h;rintro e st ⟨V,Q,am,ab,af,ad,Xk47,Rk47,rfl,rfl,i,h⟩
     rw [H5] at h
     have hU:=i.unders
     simp only [List.mem_cons,List.not_mem_nil,or_false,forall_eq_or_imp,forall_eq] at hU
     obtain ⟨ba,bb,bm⟩:=hU
     refine td hN a4 a3 j i ?_
     obtain ⟨b9,h⟩:=Av h
     refine rl [1,2,4,5,6,7,10] hs (fun e s=>Vl42 ml42 e s (Nat.lt_succ_self _)) ?_
     exact ⟨V,Q,am,(c+1),ab,af,ad,([]),Rk47,ef hs,ef hs,Owns.of_eq ((((i).swap ((List.Perm.cons _ (List.Perm.swap _ _ _)).trans (List.Perm.swap _ _ _))).swap ((List.Perm.cons _ (List.Perm.swap _ _ _)).trans (List.Perm.swap _ _ _))).swap ((List.Perm.cons _ (List.Perm.swap _ _ _)).trans (List.Perm.swap _ _ _))) E0,h⟩
   ·clear h;rintro e st ⟨av,aq,au,a2,ax,ay,Xk39,Rk39,rfl,rfl,i,h⟩
    rw [Ib] at h
    exact go (tg (a:=([2,4],[4],()))) h (Ae (Ty.cs_eqs a0) hs) hN a4 a3 j i trivial trivial
theorem OD (w0:World):∀ n:Nat,LE w0 (CQ n)
 | 0=>fun _ _ _ _ _ _ h=>(nomatch h)
 | n+1=>Q2 w0 (CQ n) (OD w0 n) n
def J0 (n:Nat) (b:Ty):Option Ty :=
 (CQ n b 4).bind fun g =>
 some (g)
theorem Yt (w0:World) (n:Nat) (B:As) (Rw:Ax) (L:Aw) (a0:Ty) (r:Ty) (h:J0 n a0=some r) :
  ACalls Tryz.prog w0 20 [.agg (a0.cs)] ⟨B,Rw,L⟩ fun x st=>x = .agg (r.cs)∧st=⟨B,Rw,L⟩:=by
 rw [J0] at h
 refine hd [.cell 2 26] Tryz.func20 Tryz.ntmps20 fun M0 W0 e d c b g f hs=>?_
 simp only [AB]
 exact go (tg (a:=([1,2],[2],()))) h hs e d c b f (q1 (OD w0 n)) trivial
theorem Tj (b:ByteArray) {c:Int} (hc:0≤c):(0:Nat)≤0∧(0:Int)≤(if c<(b.size:Int) then c else (b.size:Int))∧(if c<(b.size:Int) then c else (b.size:Int))≤(b.size:Int):=by
 refine ⟨Nat.le_refl _,?_,?_⟩<;>split<;>omega
theorem Sv (b:ByteArray) {c:Int} (hc:0≤c):((b.extract 0 ((if c<(b.size:Int) then c else (b.size:Int))).toNat).size:Int)≤c:=by
 rw [ByteArray.size_extract];split<;>omega
theorem Vn:∀ (l:List Vl) (w:Vl),Bm (l++[w])=Bm l+w.size
 | [],w=>by simp [Bm]
 | x::l,w=>by rw [List.cons_append,Bm,Vn l w,Bm];omega
theorem Tc:∀ (l:List (ByteArray × Vl)) (w:ByteArray × Vl),E3 (l++[w])=E3 l+w.2.size
 | [],(a,w)=>by simp [E3]
 | (a,x)::l,w=>by rw [List.cons_append,E3,Tc l w,E3];omega
theorem Vs:∀ (l:List Ty) (w:Ty),Ig (l++[w])=Ig l+w.size
 | [],w=>by simp [Ig]
 | x::l,w=>by rw [List.cons_append,Ig,Vs l w,Ig];omega
theorem TA:∀ (l:List TF) (w:TF),GB (l++[w])=GB l+w.2.2.2.1.size
 | [],(a,b,c,w,d)=>by simp [GB]
 | (a,b,c,x,d)::l,w=>by rw [List.cons_append,GB,TA l w,GB];omega
theorem G6 {α:Type} {p:α→Prop} {l:List α} {x:α} (h:∀ y∈l,p y) (hx:p x):∀ y∈l++[x],p y:=by
 intro y hy
 rcases List.mem_append.1 hy with hy | hy
 ·exact h y hy
 ·rw [List.mem_singleton.1 hy];exact hx
theorem G7 {α:Type} (l:List α) (x:α):(l++[x]).length=l.length+1:=by simp
def szV:Nat→Nat
 | 0=>0
 | d+1=>1+12*szV d
theorem ZdI (rec:Vl→Int→Option Vl) (n:Nat) (v:Vl) (a:Int) (K:Nat) (hI:Bj (a-1)) (hr:1<a→∀ x,∃ w,rec x (a-1)=some w∧w.size≤K∧w.ok) (l:List Vl) (hl:Bm l≤6*K) (ho:∀ x∈l,x.ok) :
  ∀ (m k i:Nat) (f:List (ByteArray × Vl)),i+k=6→k<m→f.length=i→E3 f≤i*K→(∀ p∈f,p.1.size≤1048576∧p.2.ok)→∃ w,Eg rec n v a m l f (i:Int)=some w∧w.size≤1+12*K∧w.ok
 | 0,k,i,f,_,h,_,_,_=>absurd h (Nat.not_lt_zero _)
 | m+1,k,i,f,hi,hm,hf,hs,hp=>by
  rw [Eg]
  by_cases c:(((decide ((i:Int)<(v.fields.length:Int)))&&(decide ((i:Int)<6)))&&(decide (1<a)))=true
  ·rw [Ai c]
   simp only [Bool.and_eq_true,decide_eq_true_eq] at c
   obtain ⟨⟨s,o⟩,d⟩:=c
   have b:i<v.fields.length:=by omega
   obtain ⟨w,e,r,g⟩:=hr d v.fields[i].2
   obtain ⟨k,rfl⟩:∃ q,k=q+1:=⟨k-1,by omega⟩
   rw [AK b,Af,Ai (Tj _ (by decide)),Ai hI,e,Af,Ab,Ai (AG (by omega))]
   have j:=Sv v.fields[i].1 (c:=40) (by decide)
   exact ZdI rec n v a K hI hr l hl ho m k (i+1) _ (by omega) (by omega) (by rw [G7];omega) (by rw [Tc,Nat.add_mul];simp only;omega) (G6 hp ⟨by simp only;omega,g⟩)
  ·rw [Aj c,Hf]
   have j:=Sv v.text (c:=40) (by decide)
   have:i*K≤6*K:=Nat.mul_le_mul_right _ (by omega)
   refine ⟨_,rfl,?_,(Vl.ok_eq _).2 ⟨?_,ho,hp⟩⟩
   ·rw [Vl.size_eq];simp only [Vl.list,Vl.fields];omega
   ·show (v.text.extract 0 _).size≤1048576;omega
theorem Zan (rec:Vl→Int→Option Vl) (n:Nat) (hn:8≤n) (v:Vl) (a:Int) (K:Nat) (hI:Bj (a-1)) (hr:1<a→∀ x,∃ w,rec x (a-1)=some w∧w.size≤K∧w.ok) :
  ∀ (m k i:Nat) (l:List Vl),i+k=6→k<m→l.length=i→Bm l≤i*K→(∀ p∈l,p.ok)→∃ w,D8 rec n v a m l (i:Int)=some w∧w.size≤1+12*K∧w.ok
 | 0,k,i,f,_,h,_,_,_=>absurd h (Nat.not_lt_zero _)
 | m+1,k,i,f,hi,hm,hf,hs,hp=>by
  rw [D8]
  by_cases c:(((decide ((i:Int)<(v.list.length:Int)))&&(decide ((i:Int)<6)))&&(decide (1<a)))=true
  ·rw [Ai c]
   simp only [Bool.and_eq_true,decide_eq_true_eq] at c
   obtain ⟨⟨o,r⟩,d⟩:=c
   have b:i<v.list.length:=by omega
   obtain ⟨w,e,j,g⟩:=hr d v.list[i]
   obtain ⟨k,rfl⟩:∃ q,k=q+1:=⟨k-1,by omega⟩
   rw [AK b,Af,Ai hI,e,Af,Ab,Ai (AG (by omega))]
   exact Zan rec n hn v a K hI hr m k (i+1) _ (by omega) (by omega) (by rw [G7];omega) (by rw [Vn,Nat.add_mul];omega) (G6 hp g)
  ·rw [Aj c,H9]
   have:i*K≤6*K:=Nat.mul_le_mul_right _ (by omega)
   exact ZdI rec n v a K hI hr f (by omega) hp n 6 0 [] (by omega) (by omega) rfl (by simp [E3]) (by simp)
theorem R9:∀ (d n:Nat) (v:Vl),d≤50→d+9≤n→∃ w,BF n v ((d+1:Nat):Int)=some w∧w.size≤szV (d+1)∧w.ok
 | 0,n,v,h1,h2=>by
  obtain ⟨n,rfl⟩:∃ q,n=q+1:=⟨n-1,by omega⟩
  rw [BF,GO,Ai (Tj _ (by decide)),szV]
  exact Zan (BF n) n (by omega) v _ 0 (by unfold Bj;omega) (fun c x=>by omega) n 6 0 [] (by omega) (by omega) rfl (by simp [Bm]) (by simp)
 | d+1,n,v,h1,h2=>by
  obtain ⟨n,rfl⟩:∃ q,n=q+1:=⟨n-1,by omega⟩
  rw [BF,GO,Ai (Tj _ (by decide)),szV]
  exact Zan (BF n) n (by omega) v _ (szV (d+1)) (by unfold Bj;omega) (fun c x=>by
   rw [show (((d+1+1:Nat):Int)-1)=((d+1:Nat):Int) from by omega]
   exact R9 d n x (by omega) (by omega)) n 6 0 [] (by omega) (by omega) rfl (by simp [Bm]) (by simp)
def Ex.fits:Nat→Ex→Prop
 | 0,_=>False
 | d+1,e=>e.text.size≤60∧(∀ v∈e.value,v.size≤13∧v.ok)∧e.args.length≤4∧(∀ x∈e.args,Ex.fits d x)∧e.value.length≤2
theorem Zez (rec:Ex→Int→Option Ex) (n:Nat) (v:Ex) (a:Int) (d:Nat) (hI:Bj (a-1)) (hr:1<a→∀ x,∃ w,rec x (a-1)=some w∧w.fits d) (l:List Vl) (ho:∀ x∈l,x.size≤13∧x.ok) (hl2:l.length≤2) :
  ∀ (m k i:Nat) (f:List Ex),i+k=4→k<m→f.length=i→(∀ p∈f,p.fits d)→∃ w,Ea rec n v a m l f (i:Int)=some w∧w.fits (d+1)
 | 0,k,i,f,_,h,_,_=>absurd h (Nat.not_lt_zero _)
 | m+1,k,i,f,hi,hm,hf,hp=>by
  rw [Ea]
  by_cases c:(((decide ((i:Int)<(v.args.length:Int)))&&(decide ((i:Int)<4)))&&(decide (1<a)))=true
  ·rw [Ai c]
   simp only [Bool.and_eq_true,decide_eq_true_eq] at c
   obtain ⟨⟨r,o⟩,g⟩:=c
   have b:i<v.args.length:=by omega
   obtain ⟨w,e,j⟩:=hr g v.args[i]
   obtain ⟨k,rfl⟩:∃ q,k=q+1:=⟨k-1,by omega⟩
   rw [AK b,Af,Ai hI,e,Af,Ab,Ai (AG (by omega))]
   exact Zez rec n v a d hI hr l ho hl2 m k (i+1) _ (by omega) (by omega) (by rw [G7];omega) (G6 hp j)
  ·rw [Aj c,G9]
   have s:=Sv v.text (c:=60) (by decide)
   refine ⟨_,rfl,?_,ho,?_,hp,hl2⟩
   ·show (v.text.extract 0 _).size≤60;omega
   ·simp only [Ex.args];omega
theorem ZdQ (rec:Ex→Int→Option Ex) (n:Nat) (hn:20≤n) (v:Ex) (a:Int) (d:Nat) (hI:Bj (a-1)) (hr:1<a→∀ x,∃ w,rec x (a-1)=some w∧w.fits d) :
  ∀ (m k i:Nat) (f:List Vl),i+k=2→k<m→f.length=i→(∀ p∈f,p.size≤13∧p.ok)→∃ w,EM rec n v a m f (i:Int)=some w∧w.fits (d+1)
 | 0,k,i,f,_,h,_,_=>absurd h (Nat.not_lt_zero _)
 | m+1,k,i,f,hi,hm,hf,hp=>by
  rw [EM]
  by_cases c:((decide ((i:Int)<(v.value.length:Int)))&&(decide ((i:Int)<2)))=true
  ·rw [Ai c]
   simp only [Bool.and_eq_true,decide_eq_true_eq] at c
   obtain ⟨l,o⟩:=c
   have b:i<v.value.length:=by omega
   obtain ⟨w,e,g,j⟩:=R9 1 n v.value[i] (by omega) (by omega)
   have e:BF n v.value[i] 2=some w:=e
   obtain ⟨k,rfl⟩:∃ q,k=q+1:=⟨k-1,by omega⟩
   rw [AK b,Af,e,Af,Ab,Ai (AG (by omega))]
   exact ZdQ rec n hn v a d hI hr m k (i+1) _ (by omega) (by omega) (by rw [G7];omega) (G6 hp ⟨g,j⟩)
  ·rw [Aj c,HT]
   exact Zez rec n v a d hI hr f hp (by omega) n 4 0 [] (by omega) (by omega) rfl (by simp)
theorem Ww:∀ (d n:Nat) (v:Ex),d≤50→d+21≤n→∃ w,B9 n v ((d+1:Nat):Int)=some w∧w.fits (d+1)
 | 0,n,v,h1,h2=>by
  obtain ⟨n,rfl⟩:∃ q,n=q+1:=⟨n-1,by omega⟩
  rw [B9,GP,Ai (Tj _ (by decide))]
  exact ZdQ (B9 n) n (by omega) v _ 0 (by unfold Bj;omega) (fun c x=>by omega) n 2 0 [] (by omega) (by omega) rfl (by simp)
 | d+1,n,v,h1,h2=>by
  obtain ⟨n,rfl⟩:∃ q,n=q+1:=⟨n-1,by omega⟩
  rw [B9,GP,Ai (Tj _ (by decide))]
  exact ZdQ (B9 n) n (by omega) v _ (d+1) (by unfold Bj;omega) (fun c x=>by
   rw [show (((d+1+1:Nat):Int)-1)=((d+1:Nat):Int) from by omega]
   exact Ww d n x (by omega) (by omega)) n 2 0 [] (by omega) (by omega) rfl (by simp)
def LQ (m:List (ByteArray × Ex)):Prop:=m.length≤8∧∀ p∈m,p.1.size≤60∧p.2.fits 4
theorem Zae (n:Nat) (hn:30≤n) (a:List (ByteArray × Ex)):∀ (m k i:Nat) (f:List (ByteArray × Ex)),i+k=8→k<m→f.length=i→(∀ p∈f,p.1.size≤60∧p.2.fits 4)→∃ w,HQ n a m (i:Int) f=some w∧LQ w
 | 0,k,i,f,_,h,_,_=>absurd h (Nat.not_lt_zero _)
 | m+1,k,i,f,hi,hm,hf,hp=>by
  rw [HQ]
  by_cases c:((decide ((i:Int)<(a.length:Int)))&&(decide ((i:Int)<8)))=true
  ·rw [Ai c]
   simp only [Bool.and_eq_true,decide_eq_true_eq] at c
   obtain ⟨j,l⟩:=c
   have b:i<a.length:=by omega
   obtain ⟨w,e,d⟩:=Ww 3 n a[i].2 (by omega) (by omega)
   have e:B9 n a[i].2 4=some w:=e
   obtain ⟨k,rfl⟩:∃ q,k=q+1:=⟨k-1,by omega⟩
   have g:=Sv a[i].1 (c:=60) (by decide)
   rw [AK b,Af,Ai (Tj _ (by decide)),e,Af,Ab,Ai (AG (by omega))]
   exact Zae n hn a m k (i+1) _ (by omega) (by omega) (by rw [G7];omega) (G6 hp ⟨by simp only;omega,d⟩)
  ·rw [Aj c,Ld]
   exact ⟨_,rfl,by omega,hp⟩
theorem ZZ (n:Nat) (hn:30≤n) (a:List (ByteArray × Ex)):∃ w,Ks n a=some w∧LQ w:=Zae n hn a n 8 0 [] (by omega) (by omega) rfl (by simp)
def szT:Nat→Nat
 | 0=>0
 | d+1=>1+8*szT d
def VV (K D:Nat) (t:Ty):Prop:=t.size≤K∧t.depth≤D∧t.ok
theorem Zet (rec:Ty→Int→Option Ty) (n:Nat) (hn:20≤n) (ag:List ByteArray→List Ty→List TF→Int→Option Ty) (a z:Int) (p:TF) (ws:List ByteArray) (es:List Ty) (fs:List TF) :
  ∀ (m k i:Nat) (f:List Vl),i+k=2→k<m→f.length=i→(∀ v∈f,v.small)→∃ dl:List Vl,DN rec n ag a z p m ws es fs f (i:Int)=F5 rec n ag a z p ws es fs dl∧dl.length≤2∧∀ v∈dl,v.small
 | 0,k,i,f,_,h,_,_=>absurd h (Nat.not_lt_zero _)
 | m+1,k,i,f,hi,hm,hf,hp=>by
  rw [DN]
  by_cases c:((decide ((i:Int)<(p.2.2.2.2.length:Int)))&&(decide ((i:Int)<2)))=true
  ·rw [Ai c]
   simp only [Bool.and_eq_true,decide_eq_true_eq] at c
   obtain ⟨j,o⟩:=c
   have b:i<p.2.2.2.2.length:=by omega
   obtain ⟨w,e,d,g⟩:=R9 2 n p.2.2.2.2[i] (by omega) (by omega)
   have e:BF n p.2.2.2.2[i] 3=some w:=e
   have d:w.size≤157:=d
   have l:=w.depth_size
   obtain ⟨k,rfl⟩:∃ q,k=q+1:=⟨k-1,by omega⟩
   rw [AK b,Af,e,Af,Ab,Ai (AG (by omega))]
   exact Zet rec n hn ag a z p ws es fs m k (i+1) _ (by omega) (by omega) (by rw [G7];omega) (G6 hp ⟨by omega,by omega,g⟩)
  ·rw [Aj c]
   exact ⟨_,rfl,by omega,hp⟩
theorem ZdL (rec:Ty→Int→Option Ty) (n:Nat) (hn:20≤n) (t:Ty) (a:Int) (K D:Nat) (hI:Bj (a-1)) (hr:1<a→∀ x,∃ w,rec x (a-1)=some w∧VV K D w)
  (ws:List ByteArray) (hw:ws.length≤6∧∀ w∈ws,w.size≤40) (es:List Ty) (he:Ig es≤2*K∧∀ w∈es,VV K D w) :
  ∀ (m k i:Nat) (f:List TF),i+k=6→k<m→f.length=i→GB f≤i*K→(∀ p∈f,p.2.1.size≤40∧VV K D p.2.2.2.1∧p.2.2.2.2.length≤2∧∀ v∈p.2.2.2.2,v.small)→∃ w,BG rec n t a m ws es f (i:Int)=some w∧VV (1+8*K) (D+1) w
 | 0,k,i,f,_,h,_,_,_=>absurd h (Nat.not_lt_zero _)
 | m+1,k,i,f,hi,hm,hf,hs,hp=>by
  rw [BG]
  by_cases c:(((decide ((i:Int)<(t.fields.length:Int)))&&(decide ((i:Int)<6)))&&(decide (1<a)))=true
  ·rw [Ai c]
   simp only [Bool.and_eq_true,decide_eq_true_eq] at c
   obtain ⟨⟨E,z⟩,j⟩:=c
   have d:i<t.fields.length:=by omega
   obtain ⟨w,e,l,r,s⟩:=hr j t.fields[i].2.2.2.1
   obtain ⟨k,rfl⟩:∃ q,k=q+1:=⟨k-1,by omega⟩
   obtain ⟨dl,g,u,y⟩:=Zet rec n hn (BG rec n t a m) a i t.fields[i] ws es f n 2 0 [] (by omega) (by omega) rfl (by simp)
   have g:DN rec n (BG rec n t a m) a i t.fields[i] n ws es f [] 0=_:=g
   have G:=Sv t.fields[i].2.1 (c:=40) (by decide)
   rw [AK d,Af,g,F5,Ai (Tj _ (by decide)),Ai hI,e,Af,Ab,H5,Ai (AG (by omega))]
   exact ZdL rec n hn t a K D hI hr ws hw es he m k (i+1) _ (by omega) (by omega) (by rw [G7];omega) (by rw [TA,Nat.add_mul];simp only;omega) (G6 hp ⟨by simp only;omega,⟨l,r,s⟩,u,y⟩)
  ·rw [Aj c,Ib]
   have:i*K≤6*K:=Nat.mul_le_mul_right _ (by omega)
   refine ⟨_,rfl,?_,?_,(Ty.ok_eq _).2 ⟨?_,fun x b=>?_,fun x b=>(he.2 x b).2.2,fun p b=>?_⟩⟩
   ·rw [Ty.size_eq];simp only [Ty.elem,Ty.fields];omega
   ·rw [Ty.depth_eq];simp only [Ty.elem,Ty.fields]
    have C:=(LO es D).2 fun x b=>(he.2 x b).2.1
    have F:=(J4 f D).2 fun x b=>(hp x b).2.1.2.1
    omega
   ·simp only [Ty.words];omega
   ·have:=hw.2 x b;omega
   ·obtain ⟨q1,q2,q3,o⟩:=hp p b
    exact ⟨by omega,q2.2.2,by omega,o⟩
theorem ZdU (rec:Ty→Int→Option Ty) (n:Nat) (hn:20≤n) (t:Ty) (a:Int) (K D:Nat) (hI:Bj (a-1)) (hr:1<a→∀ x,∃ w,rec x (a-1)=some w∧VV K D w)
  (ws:List ByteArray) (hw:ws.length≤6∧∀ w∈ws,w.size≤40) :
  ∀ (m k i:Nat) (f:List Ty),i+k=2→k<m→f.length=i→Ig f≤i*K→(∀ p∈f,VV K D p)→∃ w,EN rec n t a m ws f (i:Int)=some w∧VV (1+8*K) (D+1) w
 | 0,k,i,f,_,h,_,_,_=>absurd h (Nat.not_lt_zero _)
 | m+1,k,i,f,hi,hm,hf,hs,hp=>by
  rw [EN]
  by_cases c:(((decide ((i:Int)<(t.elem.length:Int)))&&(decide ((i:Int)<2)))&&(decide (1<a)))=true
  ·rw [Ai c]
   simp only [Bool.and_eq_true,decide_eq_true_eq] at c
   obtain ⟨⟨j,o⟩,g⟩:=c
   have b:i<t.elem.length:=by omega
   obtain ⟨w,e,d⟩:=hr g t.elem[i]
   have l:=d.1
   obtain ⟨k,rfl⟩:∃ q,k=q+1:=⟨k-1,by omega⟩
   rw [AK b,Af,Ai hI,e,Af,Ab,Ai (AG (by omega))]
   exact ZdU rec n hn t a K D hI hr ws hw m k (i+1) _ (by omega) (by omega) (by rw [G7];omega) (by rw [Vs,Nat.add_mul];omega) (G6 hp d)
  ·rw [Aj c,H6]
   have:i*K≤2*K:=Nat.mul_le_mul_right _ (by omega)
   exact ZdL rec n hn t a K D hI hr ws hw f ⟨by omega,hp⟩ n 6 0 [] (by omega) (by omega) rfl (by simp [GB]) (by simp)
theorem ZdX (rec:Ty→Int→Option Ty) (n:Nat) (hn:20≤n) (t:Ty) (a:Int) (K D:Nat) (hI:Bj (a-1)) (hr:1<a→∀ x,∃ w,rec x (a-1)=some w∧VV K D w) :
  ∀ (m k i:Nat) (f:List ByteArray),i+k=6→k<m→f.length=i→(∀ p∈f,p.size≤40)→∃ w,E7 rec n t a m f (i:Int)=some w∧VV (1+8*K) (D+1) w
 | 0,k,i,f,_,h,_,_=>absurd h (Nat.not_lt_zero _)
 | m+1,k,i,f,hi,hm,hf,hp=>by
  rw [E7]
  by_cases c:((decide ((i:Int)<(t.words.length:Int)))&&(decide ((i:Int)<6)))=true
  ·rw [Ai c]
   simp only [Bool.and_eq_true,decide_eq_true_eq] at c
   obtain ⟨e,d⟩:=c
   have b:i<t.words.length:=by omega
   obtain ⟨k,rfl⟩:∃ q,k=q+1:=⟨k-1,by omega⟩
   have g:=Sv t.words[i] (c:=40) (by decide)
   rw [AK b,Af,Ai (Tj _ (by decide)),Ab,Ai (AG (by omega))]
   exact ZdX rec n hn t a K D hI hr m k (i+1) _ (by omega) (by omega) (by rw [G7];omega) (G6 hp (by omega))
  ·rw [Aj c,Is]
   exact ZdU rec n hn t a K D hI hr f ⟨by omega,hp⟩ n 2 0 [] (by omega) (by omega) rfl (by simp [Ig]) (by simp)
theorem W6:∀ (d n:Nat) (v:Ty),d≤50→d+21≤n→∃ w,CQ n v ((d+1:Nat):Int)=some w∧VV (szT (d+1)) (d+1) w
 | 0,n,v,h1,h2=>by
  obtain ⟨n,rfl⟩:∃ q,n=q+1:=⟨n-1,by omega⟩
  rw [CQ,Hy,szT]
  exact ZdX (CQ n) n (by omega) v _ 0 0 (by unfold Bj;omega) (fun c x=>by omega) n 6 0 [] (by omega) (by omega) rfl (by simp)
 | d+1,n,v,h1,h2=>by
  obtain ⟨n,rfl⟩:∃ q,n=q+1:=⟨n-1,by omega⟩
  rw [CQ,Hy,szT]
  exact ZdX (CQ n) n (by omega) v _ (szT (d+1)) (d+1) (by unfold Bj;omega) (fun c x=>by
   rw [show (((d+1+1:Nat):Int)-1)=((d+1:Nat):Int) from by omega]
   exact W6 d n x (by omega) (by omega)) n 6 0 [] (by omega) (by omega) rfl (by simp)
theorem ZgK (n:Nat) (hn:30≤n) (t:Ty):∃ w,J0 n t=some w∧VV 585 4 w:=by
 obtain ⟨w,e,h⟩:=W6 3 n t (by omega) (by omega)
 have e:CQ n t 4=some w:=e
 exact ⟨w,by rw [J0,e];rfl,h⟩
def MJ (n:Nat)  (b:List Ty):Option ((List Ty)) :=
 some (b)
def QE (n:Nat)  : Option ((List Ty)) :=
 some ([])
def HE (n:Nat) (q:Ty):Nat→(List Ty)→Int→Option ((List Ty))
 | 0,_,_=>none
 | m+1,g,b =>
  if decide (b<(q.fields.length:Int)) then
   (B6 q.fields b).bind fun h =>
   if (g.length+1)*104≤140737488355328∧g.length+1≤4611686018427387904 then
    if Bj (b+1) then
     (HE n q m) (g++([h.2.2.2.1])) (b+1)
    else none
   else none
  else
   MJ n g
def I0 (n:Nat) (g:Ty) (b:Bool):Option ((List Ty)) :=
 if b then
  if 0≤(g.fields.length:Int)∧(g.fields.length:Int)*104≤140737488355328∧(g.fields.length:Int)≤4611686018427387904 then
   HE n g n ([]) 0
  else none
 else
  QE n 
def JD (n:Nat) (b:Ty):Option ((List Ty)) :=
 if decide (b.kind=8) then
  some (b.elem)
 else
  if decide (b.kind=9) then
   I0 n b true
  else
   I0 n b (decide (b.kind=10))
theorem Qv (w0:World) (n:Nat) (B:As) (Rw:Ax) (L:Aw) (a0:Ty) (r:(List Ty)) (h:JD n a0=some r) :
  ACalls Tryz.prog w0 93 [.agg (a0.cs)] ⟨B,Rw,L⟩ fun x st=>x = .list (r.map KF) .none∧st=⟨B,Rw,L⟩:=by
 rw [JD] at h
 refine hd [.tmp 2] Tryz.func93 Tryz.ntmps93 fun M0 W0 p l o b w k hs=>?_
 simp only [AB]
 refine rg [1] hs ?_
 refine AA (fun e st=>Ck e st B Rw L [] [a0.cs] [] (QE n  = some r)) ?_ ?_
 ·intro K4 u
  refine rg [1,7] hs ?_
  apply Au
  refine rg [1,7,8] hs ?_
  refine Cj h hs ?_ ?_<;>intro hs h
  ·refine rg [2] hs ?_
   exact rt h hs b k
  refine AA (fun e st=>∃ (j:Bool),Ck e st B Rw L [(1,true,.box B.length 0),(12,true,.val (.bool j))] [a0.cs] [] (I0 n a0 j=some r)) ?_ ?_
  ·intro K11 q
   exact go (tg (a:=([1,7,12],([1,12],()),[1,12],()))) h hs p l o b k trivial (q1 q)
  ·clear h;rintro e st ⟨j,Xk10,Rk10,rfl,rfl,k,h⟩
   rw [I0] at h
   refine td p l o b k ?_
   refine Cj h hs ?_ ?_<;>intro hs h
   ·obtain ⟨v,h⟩:=Av h
    have k:=k.make 7 0
    refine rg [1,3] hs ?_
    refine AA (fun e st=>∃ (c:List Ty) (g:Ev.Own),Ck e st B Rw L [(3,true,.list (c.map KF) g)] [a0.cs] [(7,c.length,g)] (MJ n c=some r)) ?_ ?_
    ·intro K20 t
     refine rg [3,20,21,22] hs ?_
     apply Au
     refine AC (fun m e st=>∃ (d:List Ty) (i:Int) (f:Ev.Own),Ck e st B Rw L [(3,true,.list (d.map KF) f),(20,true,.list (a0.fields.map CW) .none),(21,true,Am (a0.fields.length:Int)),(22,true,Am i)] [a0.cs] [(7,d.length,f)] (HE n a0 m d i=some r)) n ⟨([]),0,((.row Rk10.length)),([]),((Rk10++[.grow 0 7])),ef hs,ef hs,Owns.of_eq (k) E0,h⟩ ?_
     rintro ml22 e st ⟨d,i,f,Xl22,Rl22,rfl,rfl,k,h⟩ Ul22 Vl22
     cases ml22 with
     | zero=>cases h
     | succ ml22 =>
     rw [HE] at h
     exact go (tg (a:=([3,20,21,22,23],([3,20,21,22],[3,5,20,21,22],[3,20,21,22],[3,20,21,22],()),[3],()))) h hs p l o b k (q1 (ae ZaF VG)) (q2 t (fun e s=>Vl22 ml22 e s (Nat.lt_succ_self _)))
    ·clear h;rintro e st ⟨c,g,Xk19,Rk19,rfl,rfl,k,h⟩
     rw [MJ] at h
     exact go (tg (a:=([2],()))) h hs p l o b k trivial trivial
   refine sk [] hs u ?_
   exact ⟨([]),Rk10,ef hs,ef hs,k,h⟩
 ·clear h;rintro e st ⟨Xk3,Rk3,rfl,rfl,k,h⟩
  rw [QE] at h
  refine td p l o b k ?_
  refine rg [2] hs ?_
  exact rt h hs b k
def X3 (t:Ty):List Ty:=if t.kind=8 then t.elem else if t.kind=9∨t.kind=10 then t.fields.map fun p=>p.2.2.2.1 else []
theorem ZeW (n:Nat) (t:Ty) (hs:t.fields.length≤1000000000):∀ (k m i:Nat) (x:List Ty),i+k=t.fields.length→k<m→x.length=i→HE n t m x i=some (x++(t.fields.drop i).map fun p=>p.2.2.2.1)
 | k,0,i,_,_,h,_=>absurd h (Nat.not_lt_zero _)
 | 0,m+1,i,x,hi,_,_=>by
  rw [HE,AH,Ac]
  simp only [Bool.false_eq_true,if_false,MJ]
  rw [List.drop_eq_nil_of_le (by omega),List.map_nil,List.append_nil]
 | k+1,m+1,i,x,hi,hm,hx=>by
  have a:i<t.fields.length:=by omega
  rw [HE,AH,Ah a]
  simp only [if_true,AK a,Af]
  rw [Ab,Ai (AG (by omega))]
  have ih:=ZeW n t hs k m (i+1) (x++[t.fields[i].2.2.2.1]) (by omega) (by omega) (by simp [hx])
  rw [List.drop_eq_getElem_cons a,List.map_cons]
  rw [List.append_assoc] at ih
  exact ih
theorem Zc6 (n:Nat) (t:Ty) (hn:t.fields.length<n) (hs:t.fields.length≤1000000000):JD n t=some (X3 t):=by
 have a:I0 n t true=some (t.fields.map fun p=>p.2.2.2.1):=by
  rw [I0,Ai rfl,Ab]
  have:=ZeW n t hs t.fields.length n 0 [] (by omega) hn rfl
  rw [List.drop_zero,List.nil_append] at this
  exact this
 rw [JD,X3]
 by_cases h1:t.kind=8
 ·rw [Ai (Ah h1),Ai h1]
 rw [Aj (by rw [decide_eq_true_eq];exact h1),Aj h1]
 by_cases h2:t.kind=9
 ·rw [Ai (Ah h2),a,Ai (.inl h2)]
 rw [Aj (by rw [decide_eq_true_eq];exact h2)]
 by_cases h3:t.kind=10
 ·rw [Ah h3,a,Ai (.inr h3)]
 ·rw [Ag h3,Aa];rfl
theorem ZeV {a b:ByteArray} (h:a.data.toList=b.data.toList):a=b:=by
 cases a;cases b;simp at h;rw [h]
theorem Zb2:∀ a b:List UInt8,Lib.compareBytes a b=0→a=b
 | [],[],_=>rfl
 | [],_::_,h=>absurd (show (-1:Int)=0 from h) (by decide)
 | _::_,[],h=>absurd (show (1:Int)=0 from h) (by decide)
 | x::a,y::b,h=>by
  simp only [Lib.compareBytes] at h
  by_cases h1:x<y
  ·simp [h1] at h
  ·by_cases h2:y<x
   ·simp [h1,h2] at h
   ·simp only [h1,h2,if_false] at h
    rw [Zb2 a b h]
    have:x=y:=by
     rw [UInt8.lt_iff_toNat_lt] at h1 h2
     exact UInt8.toNat_inj.1 (by omega)
    rw [this]
theorem WA (a b:ByteArray):Zn a b=0↔a=b:=by
 unfold Zn
 constructor
 ·intro h;exact ZeV (Zb2 _ _ h)
 ·rintro rfl;exact X7 _
theorem Um (x y:ByteArray):G5 x y=true↔x=y:=by
 unfold G5
 rw [beq_iff_eq]
 exact ⟨ZeV,fun h=>by rw [h]⟩
theorem YU (x:ByteArray):G5 x x=true:=(Um x x).2 rfl
theorem Ph {α:Type} (l m:List α) (i:Nat) (h1:i<l.length) (h2:i<m.length):l.drop i=m.drop i↔l[i]=m[i]∧l.drop (i+1)=m.drop (i+1):=by
 rw [List.drop_eq_getElem_cons h1,List.drop_eq_getElem_cons h2,List.cons.injEq]
theorem Zax {n:Nat} (h:n≤1048576):n≤maxLen:=by unfold maxLen;omega
theorem Vl.ext' {a b:Vl} (h1:a.kind=b.kind) (h2:a.int=b.int) (h3:a.scale=b.scale) (h4:a.text=b.text) (h5:a.list=b.list) (h6:a.fields=b.fields):a=b:=by
 rw [←a.eta,←b.eta,h1,h2,h3,h4,h5,h6]
theorem TF.ext' {p q:TF} (h1:p.1=q.1) (h2:p.2.1=q.2.1) (h3:p.2.2.1=q.2.2.1) (h4:p.2.2.2.1=q.2.2.2.1) (h5:p.2.2.2.2=q.2.2.2.2):p=q:=by
 obtain ⟨a,b,c,d,e⟩:=p
 obtain ⟨g,j,i,h,f⟩:=q
 simp only at h1 h2 h3 h4 h5
 rw [h1,h2,h3,h4,h5]
theorem Ty.ext' {a b:Ty} (h1:a.kind=b.kind) (h2:a.min=b.min) (h3:a.max=b.max) (h4:a.scale=b.scale) (h5:a.words=b.words) (h6:a.elem=b.elem) (h7:a.fields=b.fields):a=b:=by
 rw [←a.eta,←b.eta,h1,h2,h3,h4,h5,h6,h7]
def Gy (b:Vl):Bool :=
 (((((decide (b.kind=0))&&(decide (b.int=0)))&&(decide (b.scale=0)))&&(G5 b.text (⟨#[]⟩:ByteArray)))&&(decide ((b.list.length:Int)=0)))&&(decide ((b.fields.length:Int)=0))
theorem Ze (w0:World) (B:As) (Rw:Ax) (L:Aw) (a0:Vl) (r:Bool) (h:Gy a0=r) :
  ACalls Tryz.prog w0 147 [.agg (a0.cs)] ⟨B,Rw,L⟩ fun x st=>x = .val (.bool r)∧st=⟨B,Rw,L⟩:=by
 rw [Gy] at h
 refine hd [.tmp 2] Tryz.func147 Tryz.ntmps147 fun M0 W0 e d b a f c hs=>?_
 simp only [AB]
 refine rg [1] hs ?_
 refine rg [2] hs ?_
 exact rT h hs a c
theorem X8 (w0:World) (B:As) (Rw:Ax) (L:Aw) (a0:Vl) :
  ACalls Tryz.prog w0 147 [.agg (a0.cs)] ⟨B,Rw,L⟩ fun x st=>x = .val (.bool (Gy a0))∧st=⟨B,Rw,L⟩:=Ze w0 B Rw L a0 _ rfl
def CH (b:Int) (h:Int) (g:Int):Int :=
 if (decide (b<h))||(decide (g<b)) then
  2
 else
  0
theorem Xs (w0:World) (B:As) (Rw:Ax) (L:Aw) (a0:Int) (a1:Int) (a2:Int) (r:Int) (h:CH a0 a1 a2=r) :
  ACalls Tryz.prog w0 216 [Am a0,Am a1,Am a2] ⟨B,Rw,L⟩ fun x st=>x=Am r∧st=⟨B,Rw,L⟩:=by
 rw [CH] at h
 refine hd [.tmp 6] Tryz.func216 Tryz.ntmps216 fun M0 W0 e d c b g f hs=>?_
 simp only [AB]
 exact go (tg (a:=([0,1,2],[14],([6],()),[],[6],()))) h hs e d c b f trivial trivial
theorem Il (w0:World) (B:As) (Rw:Ax) (L:Aw) (a0:Int) (a1:Int) (a2:Int) :
  ACalls Tryz.prog w0 216 [Am a0,Am a1,Am a2] ⟨B,Rw,L⟩ fun x st=>x=Am (CH a0 a1 a2)∧st=⟨B,Rw,L⟩:=Xs w0 B Rw L a0 a1 a2 _ rfl
def Ho (b:Vl):Int :=
 CH b.int 0 1
theorem YH (w0:World) (B:As) (Rw:Ax) (L:Aw) (a0:Vl) (r:Int) (h:Ho a0=r) :
  ACalls Tryz.prog w0 215 [.agg (a0.cs)] ⟨B,Rw,L⟩ fun x st=>x=Am r∧st=⟨B,Rw,L⟩:=by
 rw [Ho] at h
 refine hd [.tmp 2] Tryz.func215 Tryz.ntmps215 fun M0 W0 e d c b g f hs=>?_
 simp only [AB]
 exact go (tg (a:=([1],[2],()))) h hs e d c b f (q1 (Il w0)) trivial
theorem Wq (w0:World) (B:As) (Rw:Ax) (L:Aw) (a0:Vl) :
  ACalls Tryz.prog w0 215 [.agg (a0.cs)] ⟨B,Rw,L⟩ fun x st=>x=Am (Ho a0)∧st=⟨B,Rw,L⟩:=YH w0 B Rw L a0 _ rfl
def D2 (g:Int) (h:Int) (b:Int):Int :=
 if decide (h<g) then
  b
 else
  0
theorem ZcU (w0:World) (B:As) (Rw:Ax) (L:Aw) (a0:Int) (a1:Int) (a2:Int) (r:Int) (h:D2 a0 a1 a2=r) :
  ACalls Tryz.prog w0 221 [Am a0,Am a1,Am a2] ⟨B,Rw,L⟩ fun x st=>x=Am r∧st=⟨B,Rw,L⟩:=by
 rw [D2] at h
 refine hd [.tmp 6] Tryz.func221 Tryz.ntmps221 fun M0 W0 e d c b g f hs=>?_
 simp only [AB]
 exact go (tg (a:=([0,1,2],[2,9],([6],()),[],[6],()))) h hs e d c b f trivial trivial
theorem LV (w0:World) (B:As) (Rw:Ax) (L:Aw) (a0:Int) (a1:Int) (a2:Int) :
  ACalls Tryz.prog w0 221 [Am a0,Am a1,Am a2] ⟨B,Rw,L⟩ fun x st=>x=Am (D2 a0 a1 a2)∧st=⟨B,Rw,L⟩:=ZcU w0 B Rw L a0 a1 a2 _ rfl
def Jk (b:Vl):Option Int :=
 if b.text.size≤maxLen then
  if !(FO b.text) then
   some (12)
  else
   if decide ((b.list.length:Int)=0) then
    some (4)
   else
    some (D2 (b.list.length:Int) 1 3)
 else none
theorem Wm (w0:World) (B:As) (Rw:Ax) (L:Aw) (a0:Vl) (r:Int) (h:Jk a0=some r) :
  ACalls Tryz.prog w0 228 [.agg (a0.cs)] ⟨B,Rw,L⟩ fun x st=>x=Am r∧st=⟨B,Rw,L⟩:=by
 rw [Jk] at h
 refine hd [.tmp 2] Tryz.func228 Tryz.ntmps228 fun M0 W0 e d c b g f hs=>?_
 simp only [AB]
 exact go (tg (a:=([1],[1,3],([2],()),[1,8],([2],()),[1],[2],()))) h hs e d c b f (q2 (PP w0) (LV w0)) trivial
def Hu (b:Vl):Int :=
 CH b.int ((-999999999999999)) 999999999999999
theorem XP (w0:World) (B:As) (Rw:Ax) (L:Aw) (a0:Vl) (r:Int) (h:Hu a0=r) :
  ACalls Tryz.prog w0 217 [.agg (a0.cs)] ⟨B,Rw,L⟩ fun x st=>x=Am r∧st=⟨B,Rw,L⟩:=by
 rw [Hu] at h
 refine hd [.tmp 2] Tryz.func217 Tryz.ntmps217 fun M0 W0 e d c b g f hs=>?_
 simp only [AB]
 exact go (tg (a:=([1],[2],()))) h hs e d c b f (q1 (Il w0)) trivial
theorem Wb (w0:World) (B:As) (Rw:Ax) (L:Aw) (a0:Vl) :
  ACalls Tryz.prog w0 217 [.agg (a0.cs)] ⟨B,Rw,L⟩ fun x st=>x=Am (Hu a0)∧st=⟨B,Rw,L⟩:=XP w0 B Rw L a0 _ rfl
def NZ (n:Nat)  : Option Int :=
 some (0)
def IF (n:Nat) (h:List Int):Nat→Int→Option Int
 | 0,_=>none
 | m+1,b =>
  if decide (b<(h.length:Int)) then
   (B6 h b).bind fun g =>
   if !(decide (g=0)) then
    some (g)
   else
    if Bj (b+1) then
     (IF n h m) (b+1)
    else none
  else
   NZ n 
def Nq (n:Nat) (b:List Int):Option Int :=
 IF n b n 0
theorem Za6 (w0:World) (n:Nat) (B:As) (Rw:Ax) (L:Aw) (a0:List Int) (r:Int) (h:Nq n a0=some r) :
  ACalls Tryz.prog w0 219 [.list (a0.map Yg) .none] ⟨B,Rw,L⟩ fun x st=>x=Am r∧st=⟨B,Rw,L⟩:=by
 rw [Nq] at h
 refine hd [.tmp 2] Tryz.func219 Tryz.ntmps219 fun M0 W0 j g f b k d hs=>?_
 simp only [AB]
 refine rg [0] hs ?_
 refine AA (fun e st=>Ck e st B Rw L [] [] [] (NZ n  = some r)) ?_ ?_
 ·intro K4 i
  refine rg [5,6,7] hs ?_
  apply Au
  refine AC (fun m e st=>∃ (c:Int),Ck e st B Rw L [(5,true,.list (a0.map Yg) .none),(6,true,Am (a0.length:Int)),(7,true,Am c)] [] [] (IF n a0 m c=some r)) n ⟨0,([]),Rw,ef hs,ef hs,d,h⟩ ?_
  rintro ml6 e st ⟨c,Xl6,Rl6,rfl,rfl,d,h⟩ Ul6 Vl6
  cases ml6 with
  | zero=>cases h
  | succ ml6 =>
  rw [IF] at h
  exact go (tg (a:=([5,6,7,8],([5,6,7],[4,5,6,7],[4,5,6,7,12],([2],()),[5,6,7],[5,6,7],()),[],()))) h hs j g f b d trivial (q2 i (fun e s=>Vl6 ml6 e s (Nat.lt_succ_self _)))
 ·clear h;rintro e st ⟨Xk3,Rk3,rfl,rfl,d,h⟩
  rw [NZ] at h
  refine td j g f b d ?_
  refine rg [2] hs ?_
  exact rt h hs b d
def J2 (n:Nat) (b:Vl):Option Int :=
 (Nq n ([CH b.int ((-999999999999999)) 999999999999999,CH b.scale 0 12])).bind fun g =>
 some (g)
theorem XQ (w0:World) (n:Nat) (B:As) (Rw:Ax) (L:Aw) (a0:Vl) (r:Int) (h:J2 n a0=some r) :
  ACalls Tryz.prog w0 218 [.agg (a0.cs)] ⟨B,Rw,L⟩ fun x st=>x=Am r∧st=⟨B,Rw,L⟩:=by
 rw [J2] at h
 refine hd [.tmp 2] Tryz.func218 Tryz.ntmps218 fun M0 W0 e d c b g f hs=>?_
 simp only [AB]
 exact go (tg (a:=([1],[9,2],()))) h hs e d c b f (q2 (Il w0) (Za6 w0 n)) trivial
def H3  (b:Int):Option Int :=
 some (b)
def Kp (b:Vl):Option Int :=
 if decide ((D2 (b.text.size:Int) 1024 5)=0) then
  if b.text.size≤maxLen then
   if !(Lib.validD b.text.data.toList) then
    H3  16
   else
    H3  (D2 (b.text.size:Int) 1024 5)
  else none
 else
  H3  (D2 (b.text.size:Int) 1024 5)
theorem YG (w0:World) (hT:Lib.Utf8Tabs 2 3 w0) (B:As) (Rw:Ax) (L:Aw) (a0:Vl) (r:Int) (h:Kp a0=some r) :
  ACalls Tryz.prog w0 220 [.agg (a0.cs)] ⟨B,Rw,L⟩ fun x st=>x=Am r∧st=⟨B,Rw,L⟩:=by
 rw [Kp] at h
 refine hd [.tmp 2] Tryz.func220 Tryz.ntmps220 fun M0 W0 k g d b l i hs=>?_
 simp only [AB]
 refine rg [1] hs ?_
 refine rc 2 [1,3] hs ?_;intro K2 f
 refine Az _ (LV w0 _ _ _ (a0.text.size:Int) 1024 5) (hv hs) ?_
 refine ne hs f ?_
 clear f
 refine AA (fun e st=>∃ (c:Int),Ck e st B Rw L [(3,true,Am c)] [a0.cs] [] (H3  c=some r)) ?_ ?_
 ·intro K5 j
  exact go (tg (a:=(([3,15],([3],()),[3],()),[3,15],[3],()))) h hs k g d b i (q1 (ZaC w0)) (q1 j)
 ·clear h;rintro e st ⟨c,Xk4,Rk4,rfl,rfl,i,h⟩
  rw [H3] at h
  refine td k g d b i ?_
  refine rg [2] hs ?_
  exact rt h hs b i
def Hm (b:Vl):Int :=
 D2 (b.text.size:Int) 1024 5
theorem Yh (w0:World) (B:As) (Rw:Ax) (L:Aw) (a0:Vl) (r:Int) (h:Hm a0=r) :
  ACalls Tryz.prog w0 223 [.agg (a0.cs)] ⟨B,Rw,L⟩ fun x st=>x=Am r∧st=⟨B,Rw,L⟩:=by
 rw [Hm] at h
 refine hd [.tmp 2] Tryz.func223 Tryz.ntmps223 fun M0 W0 e d c b g f hs=>?_
 simp only [AB]
 exact go (tg (a:=([1],[2],()))) h hs e d c b f (q1 (LV w0)) trivial
theorem V5 (w0:World) (B:As) (Rw:Ax) (L:Aw) (a0:Vl) :
  ACalls Tryz.prog w0 223 [.agg (a0.cs)] ⟨B,Rw,L⟩ fun x st=>x=Am (Hm a0)∧st=⟨B,Rw,L⟩:=Yh w0 B Rw L a0 _ rfl
def Hi (b:Vl):Int :=
 CH b.int ((-719162)) 2932896
theorem Xw (w0:World) (B:As) (Rw:Ax) (L:Aw) (a0:Vl) (r:Int) (h:Hi a0=r) :
  ACalls Tryz.prog w0 224 [.agg (a0.cs)] ⟨B,Rw,L⟩ fun x st=>x=Am r∧st=⟨B,Rw,L⟩:=by
 rw [Hi] at h
 refine hd [.tmp 2] Tryz.func224 Tryz.ntmps224 fun M0 W0 e d c b g f hs=>?_
 simp only [AB]
 exact go (tg (a:=([1],[2],()))) h hs e d c b f (q1 (Il w0)) trivial
theorem Wa (w0:World) (B:As) (Rw:Ax) (L:Aw) (a0:Vl) :
  ACalls Tryz.prog w0 224 [.agg (a0.cs)] ⟨B,Rw,L⟩ fun x st=>x=Am (Hi a0)∧st=⟨B,Rw,L⟩:=Xw w0 B Rw L a0 _ rfl
def Hz (b:Vl):Int :=
 CH b.int ((-62135596800000)) 253402300799999
theorem Yp (w0:World) (B:As) (Rw:Ax) (L:Aw) (a0:Vl) (r:Int) (h:Hz a0=r) :
  ACalls Tryz.prog w0 225 [.agg (a0.cs)] ⟨B,Rw,L⟩ fun x st=>x=Am r∧st=⟨B,Rw,L⟩:=by
 rw [Hz] at h
 refine hd [.tmp 2] Tryz.func225 Tryz.ntmps225 fun M0 W0 e d c b g f hs=>?_
 simp only [AB]
 exact go (tg (a:=([1],[2],()))) h hs e d c b f (q1 (Il w0)) trivial
theorem Wg (w0:World) (B:As) (Rw:Ax) (L:Aw) (a0:Vl) :
  ACalls Tryz.prog w0 225 [.agg (a0.cs)] ⟨B,Rw,L⟩ fun x st=>x=Am (Hz a0)∧st=⟨B,Rw,L⟩:=Yp w0 B Rw L a0 _ rfl
def Ht (b:Vl):Int :=
 D2 (b.list.length:Int) 256 9
theorem Yv (w0:World) (B:As) (Rw:Ax) (L:Aw) (a0:Vl) (r:Int) (h:Ht a0=r) :
  ACalls Tryz.prog w0 226 [.agg (a0.cs)] ⟨B,Rw,L⟩ fun x st=>x=Am r∧st=⟨B,Rw,L⟩:=by
 rw [Ht] at h
 refine hd [.tmp 2] Tryz.func226 Tryz.ntmps226 fun M0 W0 e d c b g f hs=>?_
 simp only [AB]
 exact go (tg (a:=([1],[2],()))) h hs e d c b f (q1 (LV w0)) trivial
theorem Wc (w0:World) (B:As) (Rw:Ax) (L:Aw) (a0:Vl) :
  ACalls Tryz.prog w0 226 [.agg (a0.cs)] ⟨B,Rw,L⟩ fun x st=>x=Am (Ht a0)∧st=⟨B,Rw,L⟩:=Yv w0 B Rw L a0 _ rfl
def KY (n:Nat)  : Option Int :=
 some (0)
def EE (n:Nat) (q:Vl):Nat→Int→Option Int
 | 0,_=>none
 | m+1,b =>
  if decide (b<(q.fields.length:Int)) then
   (B6 q.fields b).bind fun g =>
   if g.1.size≤maxLen then
    if !(FO g.1) then
     some (12)
    else
     if decide (0<b) then
      if Bj (b-1) then
       (B6 q.fields (b-1)).bind fun h =>
       if G5 g.1 h.1 then
        some (7)
       else
        if Bj (b-1) then
         if sLt g.1 h.1 then
          some (24)
         else
          if Bj (b+1) then
           (EE n q m) (b+1)
          else none
        else none
      else none
     else
      if Bj (b+1) then
       (EE n q m) (b+1)
      else none
   else none
  else
   KY n 
def Kt (n:Nat) (b:Vl):Option Int :=
 if !(decide ((D2 (b.fields.length:Int) 64 9)=0)) then
  some (D2 (b.fields.length:Int) 64 9)
 else
  EE n b n 0
theorem Xv (w0:World) (n:Nat) (B:As) (Rw:Ax) (L:Aw) (a0:Vl) (r:Int) (h:Kt n a0=some r) :
  ACalls Tryz.prog w0 227 [.agg (a0.cs)] ⟨B,Rw,L⟩ fun x st=>x=Am r∧st=⟨B,Rw,L⟩:=by
 rw [Kt] at h
 refine hd [.tmp 2] Tryz.func227 Tryz.ntmps227 fun M0 W0 l j f c o d hs=>?_
 simp only [AB]
 refine rg [1] hs ?_
 apply Ap;intro K2 g
 refine rc 2 [1,3] hs ?_;intro K3 i
 refine Az _ (LV w0 _ _ _ (a0.fields.length:Int) 64 9) (hv hs) ?_
 refine ne hs i ?_
 clear i
 refine rg [1,3,11] hs ?_
 refine Cj h hs ?_ ?_<;>intro hs h
 ·refine rg [2] hs ?_
  exact rt h hs c d
 refine sk [1] hs g ?_
 clear g
 refine AA (fun e st=>Ck e st B Rw L [] [a0.cs] [] (KY n  = some r)) ?_ ?_
 ·intro K9 k
  refine rg [1,14,15,16] hs ?_
  apply Au
  refine AC (fun m e st=>∃ (b:Int),Ck e st B Rw L [(1,true,.box B.length 0),(14,true,.list (a0.fields.map Qc) .none),(15,true,Am (a0.fields.length:Int)),(16,true,Am b)] [a0.cs] [] (EE n a0 m b=some r)) n ⟨0,([]),Rw,ef hs,ef hs,d,h⟩ ?_
  rintro ml11 e st ⟨b,Xl11,Rl11,rfl,rfl,d,h⟩ Ul11 Vl11
  cases ml11 with
  | zero=>cases h
  | succ ml11 =>
  rw [EE] at h
  exact go (tg (a:=([1,14,15,16,17],([1,14,15,16],[1,4,5,14,15,16],[1,4,5,14,15,16,21],([2],()),([15,1,4,5,14,15,16,26],([2],()),[15,1,14,15,16,41],([2],()),[1,14,15,16],[1,14,15,16],()),[15,1,4,5,14,15,16,26],[15,1,14,15,16,41],[1,14,15,16],[1,14,15,16],()),[],()))) h hs l j f c d (q1 (PP w0)) (q2 k (fun e s=>Vl11 ml11 e s (Nat.lt_succ_self _)))
 ·clear h;rintro e st ⟨Xk8,Rk8,rfl,rfl,d,h⟩
  rw [KY] at h
  refine td l j f c d ?_
  refine rg [2] hs ?_
  exact rt h hs c d
def Nl (b:Vl):Bool :=
 (((((((((decide (b.kind=1))||(decide (b.kind=2)))||(decide (b.kind=6)))||(decide (b.kind=7)))||(decide (b.kind=3)))||(decide (b.int=0)))&&((decide (b.kind=3))||(decide (b.scale=0))))&&((((decide (b.kind=4))||(decide (b.kind=5)))||(decide (b.kind=10)))||(G5 b.text (⟨#[]⟩:ByteArray))))&&(((decide (b.kind=8))||(decide (b.kind=10)))||(decide ((b.list.length:Int)=0))))&&((decide (b.kind=9))||(decide ((b.fields.length:Int)=0)))
theorem ZcP (w0:World) (B:As) (Rw:Ax) (L:Aw) (a0:Vl) (r:Bool) (h:Nl a0=r) :
  ACalls Tryz.prog w0 148 [.agg (a0.cs)] ⟨B,Rw,L⟩ fun x st=>x = .val (.bool r)∧st=⟨B,Rw,L⟩:=by
 rw [Nl] at h
 refine hd [.tmp 2] Tryz.func148 Tryz.ntmps148 fun M0 W0 e d c b g f hs=>?_
 simp only [AB]
 exact go (tg (a:=([1],[1,3],[1,3,4],[1,3,4,5],[2],()))) h (al hs) e d c b f trivial trivial
theorem ZaZ (w0:World) (B:As) (Rw:Ax) (L:Aw) (a0:Vl) :
  ACalls Tryz.prog w0 148 [.agg (a0.cs)] ⟨B,Rw,L⟩ fun x st=>x = .val (.bool (Nl a0))∧st=⟨B,Rw,L⟩:=ZcP w0 B Rw L a0 _ rfl
def BP (n:Nat)  : List (Nat × Vl)→Int→Option Int
 | [],b3_r7 =>
  some (0)
 | p_r7::rest,b3_r7 =>
  if Bj (b3_r7+1) then
   if decide (4096<(b3_r7+1)) then
    some (9)
   else
    if decide (8<(p_r7.1:Int)) then
     some (23)
    else
     if Gy p_r7.2 then
      some (19)
     else
      if (decide (p_r7.2.kind<1))||(decide (10<p_r7.2.kind)) then
       some (11)
      else
       if !(Nl p_r7.2) then
        some (3)
       else
        if decide (p_r7.2.kind=0) then
         none
        else
         if decide (p_r7.2.kind=1) then
          if !(decide ((Ho p_r7.2)=0)) then
           some (Ho p_r7.2)
          else
           (BP n rest) (b3_r7+1)
         else
          if decide (p_r7.2.kind=2) then
           if !(decide ((Hu p_r7.2)=0)) then
            some (Hu p_r7.2)
           else
            (BP n rest) (b3_r7+1)
          else
           if decide (p_r7.2.kind=3) then
            (J2 n p_r7.2).bind fun g =>
            if !(decide (g=0)) then
             some (g)
            else
             (BP n rest) (b3_r7+1)
           else
            if decide (p_r7.2.kind=4) then
             (Kp p_r7.2).bind fun b =>
             if !(decide (b=0)) then
              some (b)
             else
              (BP n rest) (b3_r7+1)
            else
             if decide (p_r7.2.kind=5) then
              if !(decide ((Hm p_r7.2)=0)) then
               some (Hm p_r7.2)
              else
               (BP n rest) (b3_r7+1)
             else
              if decide (p_r7.2.kind=6) then
               if !(decide ((Hi p_r7.2)=0)) then
                some (Hi p_r7.2)
               else
                (BP n rest) (b3_r7+1)
              else
               if decide (p_r7.2.kind=7) then
                if !(decide ((Hz p_r7.2)=0)) then
                 some (Hz p_r7.2)
                else
                 (BP n rest) (b3_r7+1)
               else
                if decide (p_r7.2.kind=8) then
                 if !(decide ((Ht p_r7.2)=0)) then
                  some (Ht p_r7.2)
                 else
                  (BP n rest) (b3_r7+1)
                else
                 if decide (p_r7.2.kind=9) then
                  (Kt n p_r7.2).bind fun q =>
                  if !(decide (q=0)) then
                   some (q)
                  else
                   (BP n rest) (b3_r7+1)
                 else
                  if decide (p_r7.2.kind=10) then
                   (Jk p_r7.2).bind fun h =>
                   if !(decide (h=0)) then
                    some (h)
                   else
                    (BP n rest) (b3_r7+1)
                  else
                   none
  else none
def HZ (n:Nat) (b:Vl):Option Int :=
 if b.depth<4611686018427387904∧b.wide=true then
  BP n (Hg 1 b) 0
 else none
theorem QW (w0:World) (hT:Lib.Utf8Tabs 2 3 w0) (n:Nat) (B:As) (Rw:Ax) (L:Aw) (a0:Vl) (r:Int) (h:HZ n a0=some r) :
  ACalls Tryz.prog w0 60 [.agg (a0.cs)] ⟨B,Rw,L⟩ fun x st=>x=Am r∧st=⟨B,Rw,L⟩:=by
 rw [HZ] at h
 refine hd [.cell 2 41] Tryz.func60 Tryz.ntmps60 fun M0 W0 o f g b hu j hs=>?_
 simp only [AB]
 refine rg [1,2] hs ?_
 apply Ap;intro K2 aa
 apply Ar 2 [1,2,3]
 rw [Aq];simp +decide only [go_sem,Nat.reduceAdd,UG]
 (repeat' apply Ae)<;>first | refine Az _ (ZdP w0 _ _ _ ) (by first | rfl | (simp +decide only [go_sem,Nat.reduceAdd,UG];done) | (simp +decide only [go_sem,Nat.reduceAdd,Vl.cs,Ty.cs,UG];done)) ?_ | exact cl
 rw [Aq];simp +decide only [go_sem,Nat.reduceAdd,UG]
 (repeat' apply Ae)<;>first | refine aa _ _ ?_ | exact cl
 clear aa
 refine rg [1,2,3,4] hs ?_
 apply Ap;intro K4 J
 refine rc 2 [2,3,4,10] hs ?_;intro K5 z
 refine Ey _ (TM w0 _ _ _ a0) (hv hs) ?_;rintro _ _ ⟨rfl,rfl⟩
 refine ne hs z ?_
 clear z
 apply Au
 obtain ⟨ah,h⟩:=Av h
 refine WT (Kz a0) (fun st=>st.boxes[(B.length+4)]? = some a0.cs) (fun i st=>∃ (d:Int) (Rr7:Ax),st=⟨B++([a0.cs,[Am 0],[.val .nilFunc,.clo 215 [],.clo 217 [],.clo 218 [],.clo 220 [],.clo 223 [],.clo 224 [],.clo 225 [],.clo 226 [],.clo 227 [],.clo 228 []],[Am d],a0.cs]),Rr7,L⟩∧Owns Rw Rr7 []∧BP n ((Hg 1 a0).drop i) d=some r) (fun ex st=>ex = .ret∧∃ (z0:List AV) (z2:List AV) (z3:List AV) (z4:List AV) (rows:Ax),st=⟨B++[z0,[Am r],z2,z3,z4],rows,L⟩∧Owns Rw rows []) ev ev (Qa w0 a0 ah _) (fun x hx=>Up a0 x hx) (by decide) ?_ ⟨0,Rw,ef hs,j,h⟩ (fun _ _ h => .inl h.1) ?_ ?_ ?_
 ·rintro i st la ⟨d,Rr7,rfl,j,h⟩ _ _;simp +decide [St.push]
 ·rintro i s1 ⟨XB,XR,XL⟩ x M1 W1 l la D hX hI ai af hx H K hK
  obtain ⟨c,ag,rfl,hi⟩:=Vm a0 i x hx
  (try simp only at hX)
  subst hX
  obtain ⟨d,Rr7,rfl,j,h⟩:=hI
  rw [Y6 ag,BP] at h
  have m:=j
  simp only [St.ext,St.push,List.append_assoc,List.append_nil]
  refine rg [2,3,4,5,12] hs ?_
  apply Ar 1 [2,3,4,5,6]
  rw [Aq];simp +decide only [go_sem,Nat.reduceAdd]
  (repeat' apply Ae)<;>first | refine hK _ _ (by simp [St.ext,St.push]) (fun KQ w=>?_) | exact cl
  clear hK
  dsimp only [St.ext,St.push]
  have kr:∀ (e:Env) (x:Int),x=r→∀ G,KQ .ret e ⟨B++(a0.cs::[Am x]::[.val .nilFunc,.clo 215 [],.clo 217 [],.clo 218 [],.clo 220 [],.clo 223 [],.clo 224 [],.clo 225 [],.clo 226 [],.clo 227 [],.clo 228 []]::[Am (d+1)]::a0.cs::(XB++G)),Rr7,L++D::XL⟩:=by
   intro e x hx G
   rw [hx]
   exact w _ _ _ ⟨⟨B++[a0.cs,[Am r],[.val .nilFunc,.clo 215 [],.clo 217 [],.clo 218 [],.clo 220 [],.clo 223 [],.clo 224 [],.clo 225 [],.clo 226 [],.clo 227 [],.clo 228 []],[Am (d+1)],a0.cs],Rr7,L⟩,G,by simp only [List.append_assoc,List.cons_append,List.nil_append],⟨by simp,by first | exact Nat.le_refl _ | (have:=j.len;simp;omega),rfl⟩,rfl,⟨rfl,_,_,_,_,Rr7,rfl,j.sub (List.nil_sublist _)⟩,.inr (U2 H m j rfl (ln j m) ap_ ow)⟩
  have p:∀ (e:Env) (G:As),BP n ((Hg 1 a0).drop (i+1)) (d+1)=some r→KQ .normal e ⟨B++(a0.cs::[Am 0]::[.val .nilFunc,.clo 215 [],.clo 217 [],.clo 218 [],.clo 220 [],.clo 223 [],.clo 224 [],.clo 225 [],.clo 226 [],.clo 227 [],.clo 228 []]::[Am (d+1)]::a0.cs::(XB++G)),Rr7,L++D::XL⟩:=fun e G h=>w _ _ _ ⟨⟨B++[a0.cs,[Am 0],[.val .nilFunc,.clo 215 [],.clo 217 [],.clo 218 [],.clo 220 [],.clo 223 [],.clo 224 [],.clo 225 [],.clo 226 [],.clo 227 [],.clo 228 []],[Am (d+1)],a0.cs],Rr7,L⟩,G,by simp only [List.append_assoc,List.cons_append,List.nil_append],⟨by simp,by first | exact Nat.le_refl _ | (have:=j.len;simp;omega),rfl⟩,rfl,⟨(d+1),Rr7,rfl,j,h⟩,.inr (U2 H m j rfl (ln j m) ap_ ow)⟩
  apply Au
  obtain ⟨aj,h⟩:=Av h
  refine rg [2,3,4,5,6] hs ?_
  apply Ap;intro K11 u
  apply Au
  refine rg [2,3,5,6,15] hs ?_
  refine Cj h hs ?_ ?_<;>intro hs h
  ·have Q:=hs.1
   exact go (tg (a:=([2],()))) h hs o f g b j trivial (q2 kr p)
  have Q:=hs.1
  refine rg [2,3,6,18] hs ?_
  refine Cj h hs ?_ ?_<;>intro hs h
  ·have ad:=hs.1
   exact go (tg (a:=([2],()))) h hs o f g b j trivial (q2 kr p)
  have ad:=hs.1
  refine rc 2 [2,3,6,21] hs ?_;intro K18 t
  refine Az _ (X8 w0 _ _ _ c.2) (hv hs) ?_
  refine ne hs t ?_
  clear t
  refine Cj h hs ?_ ?_<;>intro hs h
  ·have F:=hs.1
   exact go (tg (a:=([2],()))) h hs o f g b j trivial (q2 kr p)
  have F:=hs.1
  refine rg [2,3,6,24] hs ?_
  refine Cj h hs ?_ ?_<;>intro hs h
  ·have U:=hs.1
   exact go (tg (a:=([2],()))) h hs o f g b j trivial (q2 kr p)
  have U:=hs.1
  refine rc 2 [2,3,6,33] hs ?_;intro K24 q
  refine Az _ (ZaZ w0 _ _ _ c.2) (hv hs) ?_
  refine ne hs q ?_
  clear q
  refine Cj h hs ?_ ?_<;>intro hs h
  ·have E:=hs.1
   exact go (tg (a:=([2],()))) h hs o f g b j trivial (q2 kr p)
  have E:=hs.1
  refine sk [2,3,6] hs u ?_
  clear u
  apply Ap;intro K27 k
  rcases Bool.eq_false_or_eq_true (decide (c.2.kind=0)) with hf28 | hf28
  ·replace h:=AW h hf28
   have ak:c.2.kind=0:=of_decide_eq_true hf28
   cases h
  ·replace h:=AX h hf28
   rcases Bool.eq_false_or_eq_true (decide (c.2.kind=1)) with hf30 | hf30
   ·replace h:=AW h hf30
    have N:c.2.kind=1:=of_decide_eq_true hf30
    exact go (tg (a:=([7,2,7],[2,7,44],([2],()),([]:List Nat),()))) h (Ae N (Ae hf30 (Ae hf28 hs))) o f g b j (q1 (Wq w0)) (q3 kr p k)
   ·replace h:=AX h hf30
    rcases Bool.eq_false_or_eq_true (decide (c.2.kind=2)) with hf35 | hf35
    ·replace h:=AW h hf35
     have V:c.2.kind=2:=of_decide_eq_true hf35
     exact go (tg (a:=([7,2,7],[2,7,44],([2],()),([]:List Nat),()))) h (Ae V (Ae hf35 (Ae hf30 (Ae hf28 hs)))) o f g b j (q1 (Wb w0)) (q3 kr p k)
    ·replace h:=AX h hf35
     rcases Bool.eq_false_or_eq_true (decide (c.2.kind=3)) with hf40 | hf40
     ·replace h:=AW h hf40
      have ae:c.2.kind=3:=of_decide_eq_true hf40
      exact go (tg (a:=([7,2,7],[2,7,44],([2],()),([]:List Nat),()))) h (Ae ae (Ae hf40 (Ae hf35 (Ae hf30 (Ae hf28 hs))))) o f g b j (q1 (XQ w0 n)) (q3 kr p k)
     ·replace h:=AX h hf40
      rcases Bool.eq_false_or_eq_true (decide (c.2.kind=4)) with hf46 | hf46
      ·replace h:=AW h hf46
       have Y:c.2.kind=4:=of_decide_eq_true hf46
       exact go (tg (a:=([7,2,7],[2,7,44],([2],()),([]:List Nat),()))) h (Ae Y (Ae hf46 (Ae hf40 (Ae hf35 (Ae hf30 (Ae hf28 hs)))))) o f g b j (q1 (YG w0 hT)) (q3 kr p k)
      ·replace h:=AX h hf46
       rcases Bool.eq_false_or_eq_true (decide (c.2.kind=5)) with hf52 | hf52
       ·replace h:=AW h hf52
        have ab:c.2.kind=5:=of_decide_eq_true hf52
        exact go (tg (a:=([7,2,7],[2,7,44],([2],()),([]:List Nat),()))) h (Ae ab (Ae hf52 (Ae hf46 (Ae hf40 (Ae hf35 (Ae hf30 (Ae hf28 hs))))))) o f g b j (q1 (V5 w0)) (q3 kr p k)
       ·replace h:=AX h hf52
        rcases Bool.eq_false_or_eq_true (decide (c.2.kind=6)) with hf57 | hf57
        ·replace h:=AW h hf57
         have Z:c.2.kind=6:=of_decide_eq_true hf57
         exact go (tg (a:=([7,2,7],[2,7,44],([2],()),([]:List Nat),()))) h (Ae Z (Ae hf57 (Ae hf52 (Ae hf46 (Ae hf40 (Ae hf35 (Ae hf30 (Ae hf28 hs)))))))) o f g b j (q1 (Wa w0)) (q3 kr p k)
        ·replace h:=AX h hf57
         rcases Bool.eq_false_or_eq_true (decide (c.2.kind=7)) with hf62 | hf62
         ·replace h:=AW h hf62
          have O:c.2.kind=7:=of_decide_eq_true hf62
          exact go (tg (a:=([7,2,7],[2,7,44],([2],()),([]:List Nat),()))) h (Ae O (Ae hf62 (Ae hf57 (Ae hf52 (Ae hf46 (Ae hf40 (Ae hf35 (Ae hf30 (Ae hf28 hs))))))))) o f g b j (q1 (Wg w0)) (q3 kr p k)
         ·replace h:=AX h hf62
          rcases Bool.eq_false_or_eq_true (decide (c.2.kind=8)) with hf67 | hf67
          ·replace h:=AW h hf67
           have v:c.2.kind=8:=of_decide_eq_true hf67
           exact go (tg (a:=([7,2,7],[2,7,44],([2],()),([]:List Nat),()))) h (Ae v (Ae hf67 (Ae hf62 (Ae hf57 (Ae hf52 (Ae hf46 (Ae hf40 (Ae hf35 (Ae hf30 (Ae hf28 hs)))))))))) o f g b j (q1 (Wc w0)) (q3 kr p k)
          ·replace h:=AX h hf67
           rcases Bool.eq_false_or_eq_true (decide (c.2.kind=9)) with hf72 | hf72
           ·replace h:=AW h hf72
            have y:c.2.kind=9:=of_decide_eq_true hf72
            exact go (tg (a:=([7,2,7],[2,7,44],([2],()),([]:List Nat),()))) h (Ae y (Ae hf72 (Ae hf67 (Ae hf62 (Ae hf57 (Ae hf52 (Ae hf46 (Ae hf40 (Ae hf35 (Ae hf30 (Ae hf28 hs))))))))))) o f g b j (q1 (Xv w0 n)) (q3 kr p k)
           ·replace h:=AX h hf72
            rcases Bool.eq_false_or_eq_true (decide (c.2.kind=10)) with hf78 | hf78
            ·replace h:=AW h hf78
             have C:c.2.kind=10:=of_decide_eq_true hf78
             exact go (tg (a:=([7,2,7],[2,7,44],([2],()),([]:List Nat),()))) h (Ae C (Ae hf78 (Ae hf72 (Ae hf67 (Ae hf62 (Ae hf57 (Ae hf52 (Ae hf46 (Ae hf40 (Ae hf35 (Ae hf30 (Ae hf28 hs)))))))))))) o f g b j (q1 (Wm w0)) (q3 kr p k)
            ·replace h:=AX h hf78
             cases h
 ·rintro s la ⟨XB,XR,XL⟩ hXR ⟨d,Rr7,rfl,j,h⟩ _ _
  simp only at hXR
  subst hXR
  rw [List.drop_eq_nil_of_le (by rw [Qk];exact Nat.le_refl _),BP] at h
  simp only [St.ext,St.push,List.append_assoc,List.append_nil]
  (repeat' apply Ae)<;>first | refine J _ _ ?_ | exact cl
  clear J
  refine Xi (bs:=[a0.cs,[Am 0],[.val .nilFunc,.clo 215 [],.clo 217 [],.clo 218 [],.clo 220 [],.clo 223 [],.clo 224 [],.clo 225 [],.clo 226 [],.clo 227 [],.clo 228 []],[Am d],a0.cs]) o f g rfl b j ow ow ?_
  refine rg [2] hs ?_
  exact rt h hs b j
 ·rintro ex s la ⟨XB,XR,XL⟩ hXR ⟨rfl,z0,z2,z3,z4,rows,rfl,j⟩ _ _
  simp only at hXR
  subst hXR
  simp only [St.ext,St.push,List.append_assoc,List.append_nil]
  simp +decide only [go_sem,Nat.reduceAdd]
  (repeat' with_reducible apply Ae)<;>first | refine Zko b rfl j.pre ev ⟨?_,rfl⟩ | (intros;omega) | (intros;simp_all;done)
  first | rfl | (simp +decide only [go_sem,Nat.reduceAdd];done)
def CV (b:Int) (h:Int) (g:Int):Bool :=
 (decide (b<h))||(decide (g<b))
def EG (b:Vl):Bool :=
 (((((!((((decide (1≤b.kind))&&(decide (b.kind≤3)))||(decide (b.kind=6)))||(decide (b.kind=7))))&&(!(decide (b.int=0))))||((!(decide (b.kind=3)))&&(!(decide (b.scale=0)))))||((!(((decide (b.kind=4))||(decide (b.kind=5)))||(decide (b.kind=10))))&&(!(G5 b.text (⟨#[]⟩:ByteArray)))))||((!((decide (b.kind=8))||(decide (b.kind=10))))&&(decide (0<(b.list.length:Int)))))||((!(decide (b.kind=9)))&&(decide (0<(b.fields.length:Int))))
def CE (b:Ty) (h:Int) (g:Int):Bool :=
 ((decide (h≤b.min))&&(decide (b.max≤g)))&&(decide (b.min≤b.max))
def MY (b:Int) (g:Bool):(Int × Int) :=
 if g then
  (0,1024)
 else
  if decide (b=6) then
   ((-719162),2932896)
  else
   if decide (b=7) then
    ((-62135596800000),253402300799999)
   else
    (0,256)
def Og (b:Int) (g:Bool):(Int × Int) :=
 if g then
  ((-999999999999999),999999999999999)
 else
  if decide (b=4) then
   MY b true
  else
   MY b (decide (b=5))
def A5 (b:Int):(Int × Int) :=
 if decide (b=2) then
  Og b true
 else
  Og b (decide (b=3))
def BE (b:Ty):Bool :=
 (((((!(decide (2≤b.kind)&&decide (b.kind≤8)))&&((!(decide (b.min=0)))||(!(decide (b.max=0)))))||((!(decide (b.kind=3)))&&(!(decide (b.scale=0)))))||((!(decide (b.kind=4)))&&(decide (0<(b.words.length:Int)))))||((!(decide (b.kind=8)))&&(decide (0<(b.elem.length:Int)))))||(((!(decide (b.kind=9)))&&(!(decide (b.kind=10))))&&(decide (0<(b.fields.length:Int))))
theorem ZW {j:Nat}:((j+1:Nat):Int)-1=(j:Int):=by omega
theorem Zbv {j:Nat}:decide (0<((j+1:Nat):Int))=true:=Ah (by omega)
theorem ZbK {k:Nat} (h:k<1000000000000):Bj (k:Int):=by unfold Bj;omega
def Zck:Option ByteArray→List ByteArray→Int
 | _,[]=>0
 | none,x::r=>if FO x=true then Zck (some x) r else 12
 | some p,x::r=>if FO x=true then (if G5 x p=true then 7 else if sLt x p=true then 24 else Zck (some x) r) else 12
def Zaq (l:List (ByteArray × Vl)):Nat→Option ByteArray
 | 0=>none
 | i+1=>(l[i]?).map Prod.fst
theorem ZbF (n:Nat) (v:Vl) (hl:(v.fields).length≤1000000000000) (hz:∀ p∈v.fields,p.1.size≤maxLen):∀ (k m i:Nat),i+k=(v.fields).length→k<m→EE n v m i=some (Zck (Zaq (v.fields) i) (((v.fields).map Prod.fst).drop i))
 | k,0,i,_,h=>absurd h (Nat.not_lt_zero _)
 | 0,m+1,i,hi,_=>by
  rw [EE,AH,Ac]
  simp only [Bool.false_eq_true,if_false,KY]
  rw [List.drop_eq_nil_of_le (by rw [List.length_map];omega)]
  cases Zaq (v.fields) i<;>rfl
 | k+1,m+1,i,hi,hm=>by
  have a:i<(v.fields).length:=by omega
  have ih:=ZbF n v hl hz k m (i+1) (by omega) (by omega)
  rw [EE,AH,Ah a]
  simp only [if_true,AK a,Af]
  rw [Ai (hz _ (List.getElem_mem a)),List.drop_eq_getElem_cons (by rw [List.length_map];omega),List.getElem_map]
  have e:Zaq (v.fields) (i+1)=some (v.fields)[i].1:=by simp only [Zaq,List.getElem?_eq_getElem a];rfl
  rw [e] at ih
  cases i with
  | zero =>
   simp only [Zaq,Zck]
   by_cases hb:FO (v.fields)[0].1=true
   ·rw [Ai hb,hb]
    simp only [Bool.not_true,Bool.false_eq_true,if_false]
    rw [Aj (by decide),Ai (AG (by omega))]
    exact ih
   ·rw [Aj hb,Bool.eq_false_iff.2 hb];rfl
  | succ j =>
   have b:j<(v.fields).length:=by omega
   have d:Zaq (v.fields) (j+1)=some (v.fields)[j].1:=by simp only [Zaq,List.getElem?_eq_getElem b];rfl
   rw [d]
   simp only [Zck]
   by_cases hb:FO (v.fields)[j+1].1=true
   ·rw [Ai hb,hb]
    simp only [Bool.not_true,Bool.false_eq_true,if_false,Zbv,if_true,ZW]
    have c:Bj (j:Int):=ZbK (by omega)
    simp only [Ai c,AK b,Af]
    by_cases h1:G5 (v.fields)[j+1].1 (v.fields)[j].1=true
    ·rw [Ai h1,Ai h1]
    ·rw [Aj h1,Aj h1]
     by_cases h2:sLt (v.fields)[j+1].1 (v.fields)[j].1=true
     ·rw [Ai h2,Ai h2]
     ·rw [Aj h2,Aj h2,Ai (AG (by omega))]
      exact ih
   ·rw [Aj hb,Bool.eq_false_iff.2 hb];rfl
def GR (v:Vl):Int :=
 if Gy v=true then 19
 else if v.kind<1∨10<v.kind then 11
 else if EG v=true then 3
 else if v.kind=1 then (if CV v.int 0 1=true then 2 else 0)
 else if v.kind=2 then (if CV v.int (-999999999999999) 999999999999999=true∨CV v.scale 0 12=true then 2 else 0)
 else if v.kind=3 then (if CV v.int (-999999999999999) 999999999999999=true∨CV v.scale 0 12=true then 2 else 0)
 else if v.kind=4 then (if 1024<v.text.size then 5 else if Lib.validD v.text.data.toList=true then 0 else 16)
 else if v.kind=5 then (if 1024<v.text.size then 5 else 0)
 else if v.kind=6 then (if CV v.int (-719162) 2932896=true then 2 else 0)
 else if v.kind=7 then (if CV v.int (-62135596800000) 253402300799999=true then 2 else 0)
 else if v.kind=8 then (if 256<v.list.length then 9 else 0)
 else if v.kind=9 then (if 64<v.fields.length then 9 else Zck none (v.fields.map Prod.fst))
 else if FO v.text=true then (if v.list.length=0 then 4 else if 1<v.list.length then 3 else 0) else 12
theorem IQ {k:Int} (h:¬ (k<1∨10<k)):k=1∨k=2∨k=3∨k=4∨k=5∨k=6∨k=7∨k=8∨k=9∨k=10:=by omega
theorem ZgL (v:Vl) (h:¬ (v.kind<1∨10<v.kind)):Nl v = !EG v:=by
 have a:∀ x:Nat,decide (0<(x:Int)) = !decide ((x:Int)=0):=fun x=>by
  by_cases h:x=0
  ·subst h;rfl
  ·rw [Ah (show 0<(x:Int) by omega),Ag (show ¬ (x:Int)=0 by omega)];rfl
 rw [Nl,EG]
 simp only [a]
 rcases IQ h with hk | hk | hk | hk | hk | hk | hk | hk | hk | hk<;>simp only [hk]<;>simp [Bool.and_assoc]
theorem Zi1 (n:Nat) (hn:3≤n) (a b:Int):Nq n [a,b]=some (if a=0 then b else a):=by
 obtain ⟨m,rfl⟩:∃ m,n=m+3:=⟨n-3,by omega⟩
 rw [Nq,IF]
 simp only [List.length_cons,List.length_nil]
 rw [Ai (by simp),show B6 [a,b] 0=some a from rfl]
 simp only [Af]
 by_cases h:a=0
 ·rw [Ah h,Aj (by decide),Ai (by decide),Ai h,IF]
  simp only [List.length_cons,List.length_nil]
  rw [Ai (by simp),show B6 [a,b] (0+1)=some b from rfl]
  simp only [Af]
  by_cases h2:b=0
  ·rw [Ah h2,Aj (by decide),Ai (by decide),IF]
   simp only [List.length_cons,List.length_nil]
   rw [Aj (by simp),NZ,h2]
  ·rw [Ag h2,Ai (by decide)]
 ·rw [Ag h,Ai (by decide),Aj h]
theorem Zfb (n:Nat) (hn:3≤n) (v:Vl) (hfl:v.fields.length<n) (hs:v.fields.length≤1000000000000) (hv:v.ok) (h1:¬ Gy v=true) (h2:¬ (v.kind<1∨10<v.kind)) (h3:¬ EG v=true) :
  (v.kind=1→Ho v=GR v)∧(v.kind=2→Hu v=GR v)∧(v.kind=3→J2 n v=some (GR v))∧(v.kind=4→Kp v=some (GR v))∧(v.kind=5→Hm v=GR v) ∧
  (v.kind=6→Hi v=GR v)∧(v.kind=7→Hz v=GR v)∧(v.kind=8→Ht v=GR v)∧(v.kind=9→Kt n v=some (GR v))∧(v.kind=10→Jk v=some (GR v)):=by
 obtain ⟨f,_,i⟩:=v.ok_eq.1 hv
 have d:∀ p∈v.fields,p.1.size≤maxLen:=fun p g=>Zax (by have:=(i p g).1;omega)
 have c:v.text.size≤maxLen:=Zax f
 rw [GR,Aj h1,Aj h2,Aj h3]
 refine ⟨fun a=>?_,fun a=>?_,fun a=>?_,fun a=>?_,fun a=>?_,fun a=>?_,fun a=>?_,fun a=>?_,fun a=>?_,fun a=>?_⟩
 ·simp [a,Ho,CH,CV]
 ·have b:v.scale=0:=by
   rw [EG] at h3
   simp [a] at h3
   exact h3.1.1.1
  simp [a,b,Hu,CH,CV]
 ·rw [J2,Zi1 n hn]
  simp [a,CH,CV]
  by_cases q:v.int < -999999999999999∨999999999999999<v.int
  ·simp [q];omega
  ·simp [q];omega
 ·rw [Kp]
  simp only [a,D2,H3,Ai c]
  simp
  (repeat' split)<;>first | rfl | (exfalso;omega) | simp_all
 ·simp [a,Hm,D2]
  (repeat' split)<;>first | rfl | (exfalso;omega) | simp_all
 ·simp [a,Hi,CH,CV]
 ·simp [a,Hz,CH,CV]
 ·simp [a,Ht,D2]
  (repeat' split)<;>first | rfl | (exfalso;omega) | simp_all
 ·rw [Kt]
  by_cases h:64<v.fields.length
  ·simp [a,D2,h,show (64:Int)<(v.fields.length:Int) by omega]
  ·have e:=ZbF n v hs d v.fields.length n 0 (by omega) hfl
   simp only [List.drop_zero] at e
   simp only [a,D2,Ag (show ¬ (64:Int)<(v.fields.length:Int) by omega),Bool.false_eq_true,if_false,decide_true,Bool.not_true,Aj h]
   exact e
 ·rw [Jk,Ai c]
  simp only [a,D2]
  simp
  (repeat' split)<;>first | rfl | (exfalso;omega) | simp_all
theorem ZhT (n:Nat) (hn:3≤n) (lv:Nat) (v:Vl) (rest:List (Nat × Vl)) (c:Int) (hfl:v.fields.length<n) (hs:v.fields.length≤1000000000000) (hv:v.ok) :
  BP n ((lv,v)::rest) c=if Bj (c+1) then (if 4096<c+1 then some 9 else if 8<(lv:Int) then some 23 else if GR v=0 then BP n rest (c+1) else some (GR v)) else none:=by
 rw [BP]
 by_cases hI:Bj (c+1)
 rotate_left
 ·rw [Aj hI,Aj hI]
 rw [Ai hI,Ai hI]
 by_cases q1:4096<c+1
 ·rw [Ai q1,Ai (Ah q1)]
 rw [Aj q1,Aj (by simpa using q1)]
 by_cases q2:8<(lv:Int)
 ·rw [Ai q2,Ai (Ah q2)]
 rw [Aj q2,Aj (by simpa using q2)]
 simp only
 by_cases h1:Gy v=true
 ·have:GR v=19:=by rw [GR,Ai h1]
  rw [Ai h1,this];rfl
 rw [Aj h1]
 by_cases h2:v.kind<1∨10<v.kind
 ·have:GR v=11:=by rw [GR,Aj h1,Ai h2]
  rw [Ai (by simpa using h2),this];rfl
 rw [Aj (by simpa using h2),ZgL v h2]
 by_cases h3:EG v=true
 ·have:GR v=3:=by rw [GR,Aj h1,Aj h2,Ai h3]
  rw [h3,this];rfl
 rw [Bool.eq_false_iff.2 h3]
 obtain ⟨f,i,j,k,b,d,g,l,h,a⟩:=Zfb n hn v hfl hs hv h1 h2 h3
 rcases IQ h2 with hk | hk | hk | hk | hk | hk | hk | hk | hk | hk
 ·have e:=f hk;by_cases z:GR v=0<;>simp [hk,e,z]
 ·have e:=i hk;by_cases z:GR v=0<;>simp [hk,e,z]
 ·have e:=j hk;by_cases z:GR v=0<;>simp [hk,e,z]
 ·have e:=k hk;by_cases z:GR v=0<;>simp [hk,e,z]
 ·have e:=b hk;by_cases z:GR v=0<;>simp [hk,e,z]
 ·have e:=d hk;by_cases z:GR v=0<;>simp [hk,e,z]
 ·have e:=g hk;by_cases z:GR v=0<;>simp [hk,e,z]
 ·have e:=l hk;by_cases z:GR v=0<;>simp [hk,e,z]
 ·have e:=h hk;by_cases z:GR v=0<;>simp [hk,e,z]
 ·have e:=a hk;by_cases z:GR v=0<;>simp [hk,e,z]
def Xm:List (Nat × Vl)→Int→Int
 | [],_=>0
 | p::r,c=>if 4096<c+1 then 9 else if 8<(p.1:Int) then 23 else if GR p.2=0 then Xm r (c+1) else GR p.2
def UD (v:Vl):Int:=Xm (Hg 1 v) 0
theorem Xc {v x:Vl} (h:x∈Cb v):x∈v.list∨∃ p∈v.fields,p.2=x:=by
 unfold Cb at h
 split at h
 ·exact .inl h
 ·split at h
  ·obtain ⟨p,a,rfl⟩:=List.mem_map.1 h;exact .inr ⟨p,a,rfl⟩
  ·simp at h
theorem NX {v x:Vl} (h:x∈Cb v):x.size<v.size:=by
 rcases Xc h with h | ⟨p,hp,rfl⟩
 ·exact v.list_size x h
 ·exact v.field_size p hp
theorem ZdS {v x:Vl} (hv:v.ok) (h:x∈Cb v):x.ok:=by
 obtain ⟨_,a,b⟩:=v.ok_eq.1 hv
 rcases Xc h with h | ⟨p,hp,rfl⟩
 ·exact a x h
 ·exact (b p hp).2
theorem Zer:∀ (k:Nat) (v:Vl) (lv:Nat),v.size≤k→v.ok→∀ p∈Hg lv v,p.2.ok∧p.2.size≤v.size
 | 0,v,lv,h,hv,p,hp=>absurd h (by have:=v.size_eq;omega)
 | k+1,v,lv,h,hv,p,hp=>by
  rw [Rb] at hp
  rcases List.mem_cons.1 hp with rfl | hp
  ·exact ⟨hv,Nat.le_refl _⟩
  ·obtain ⟨x,a,hp⟩:=List.mem_flatMap.1 hp
   have:=NX a
   obtain ⟨b,c⟩:=Zer k x (lv+1) (by omega) (ZdS hv a) p hp
   exact ⟨b,by omega⟩
theorem Y4:∀ (k:Nat) (v:Vl) (lv:Nat),v.size≤k→v.wide=true→∀ p∈Hg lv v,p.2.wide=true
 | 0,v,lv,h,hv,p,hp=>absurd h (by have:=v.size_eq;omega)
 | k+1,v,lv,h,hv,p,hp=>by
  rw [Rb] at hp
  rcases List.mem_cons.1 hp with rfl | hp
  ·exact hv
  ·obtain ⟨x,a,hp⟩:=List.mem_flatMap.1 hp
   have:=NX a
   exact Y4 k x (lv+1) (by omega) (WN hv a) p hp
theorem Ni (v:Vl):v.fields.length<v.size:=by have:=NT v.fields;have:=v.size_eq;omega
theorem Xj (n:Nat) (hn:3≤n):∀ (l:List (Nat × Vl)) (c:Int),(∀ p∈l,p.2.ok∧p.2.fields.length≤1000000000000∧p.2.fields.length<n)→0≤c→c≤4096→BP n l c=some (Xm l c)
 | [],c,_,_,_=>rfl
 | p::r,c,hl,h1,h2=>by
  obtain ⟨b,d,e⟩:=hl p (List.mem_cons_self ..)
  have:=Ni p.2
  rw [show p=(p.1,p.2) from rfl,ZhT n hn p.1 p.2 r c (by omega) (by omega) b,Ai (by unfold Bj;omega),Xm]
  simp only
  split
  ·rfl
  ·split
   ·rfl
   ·split
    ·exact Xj n hn r (c+1) (fun q a=>hl q (List.mem_cons_of_mem _ a)) (by omega) (by omega)
    ·rfl
theorem UN (n:Nat) (v:Vl) (hn:v.size+3≤n) (hs:v.depth<4611686018427387904) (hw:v.wide=true) (hv:v.ok):HZ n v=some (UD v):=by
 rw [HZ,Ai ⟨hs,hw⟩]
 exact Xj n (by omega) _ 0 (fun p a=>by obtain ⟨b,c⟩:=Zer v.size v 1 (Nat.le_refl _) hv p a;exact ⟨b,(p.2.wide_iff.1 (Y4 v.size v 1 (Nat.le_refl _) hw p a)).2.1,by have:=Ni p.2;omega⟩) (by omega) (by omega)
theorem WH (n:Nat) (v:Vl) (hn:v.size+3≤n) (hs:v.size<1048576) (hv:v.ok):HZ n v=some (UD v) :=
 UN n v hn (by have:=v.depth_size;omega) (H7 _ v (Nat.le_refl _) (by omega)) hv
theorem Z4:∀ l:List Vl,Bm l=(l.map Vl.size).sum
 | []=>rfl
 | v::r=>by simp [Bm,Z4 r]
theorem Zv:∀ l:List (ByteArray × Vl),E3 l=(l.map fun p=>p.2.size).sum
 | []=>rfl
 | (_,v)::r=>by simp [E3,Zv r]
theorem ZcD (v:Vl):((Cb v).map Vl.size).sum<v.size:=by
 have c:=v.size_eq
 unfold Cb
 split
 ·rw [←Z4];omega
 ·split
  ·rw [List.map_map]
   have:=Zv v.fields
   have e:(v.fields.map (Vl.size∘fun x=>x.2)).sum=E3 v.fields:=this.symm
   omega
  ·simp;omega
def OB {α:Type} (p:α→Bool) (l:List α) (j:Nat):Int :=
 if (l.drop j).findIdx p<(l.drop j).length then (j:Int)+((l.drop j).findIdx p:Nat) else -1
theorem I9 {α:Type} (p:α→Bool) (l:List α) (j:Nat) (h:l.length≤j):OB p l j = -1:=by
 unfold OB
 rw [List.drop_eq_nil_of_le h];rfl
theorem HA {α:Type} (p:α→Bool) (l:List α) (j:Nat) (h:j<l.length):OB p l j=if p l[j]=true then (j:Int) else OB p l (j+1):=by
 unfold OB
 rw [List.drop_eq_getElem_cons h,List.findIdx_cons]
 cases hp:p l[j] with
 | true=>simp;omega
 | false =>
  simp only [cond_false,List.length_cons,Bool.false_eq_true,if_false]
  by_cases q:(l.drop (j+1)).findIdx p<(l.drop (j+1)).length
  ·rw [Ab,Ai q];push_cast;omega
  ·rw [Aa,Aj q]
theorem PY {α:Type} (p:α→Bool) (l:List α):∀ (k j:Nat),j+k=l.length→OB p l j = -1∨∃ i,∃ h:i<l.length,OB p l j=(i:Int)∧p l[i]=true
 | 0,j,h => .inl (I9 p l j (by omega))
 | k+1,j,h=>by
  have a:j<l.length:=by omega
  rw [HA p l j a]
  by_cases hp:p l[j]=true
  ·rw [Ai hp];exact .inr ⟨j,a,rfl,hp⟩
  ·rw [Aj hp];exact PY p l k (j+1) (by omega)
theorem SN (n:Nat) (l:List TF) (p:TF→Bool) (hl:l.length≤1000000000):∀ (k m i:Nat),i+k=l.length→k<m→A0 n l (fun x=>some (p x)) m i=some (OB p l i)
 | k,0,i,_,h=>absurd h (Nat.not_lt_zero _)
 | 0,m+1,i,hi,_=>by
  rw [A0,AH,Ac,I9 p l i (by omega)]
  rfl
 | k+1,m+1,i,hi,hm=>by
  have a:i<l.length:=by omega
  rw [A0,AH,Ah a]
  simp only [if_true,AK a,Af]
  rw [HA p l i a]
  by_cases hp:p l[i]=true
  ·rw [Ai hp,Ai hp]
  ·rw [Aj hp,Aj hp,Ai (AG (by omega))]
   exact SN n l p hl k m (i+1) (by omega) (by omega)
def NJ:TF:=(0,(⟨#[]⟩:ByteArray),0,Ty.mk 0 0 0 0 [] [] [],[])
theorem ZhD (n:Nat) (t:Ty) (p:TF→Bool) (hn:t.size+1450000≤n) (ht:t.small) :
  (t.kind≠9∧t.kind≠10∧Ku n t (fun x=>some (p x))=some (NJ,false)) ∨
  ((t.kind=9∨t.kind=10)∧((OB p t.fields 0 = -1∧Ku n t (fun x=>some (p x))=some (NJ,false))∨∃ i,∃ h:i<t.fields.length,OB p t.fields 0=(i:Int)∧Ku n t (fun x=>some (p x))=some (t.fields[i],true))):=by
 obtain ⟨c,f,b⟩:=ht
 have d:=t.lens
 rw [Ku]
 by_cases hk:t.kind=9∨t.kind=10
 ·right
  refine ⟨hk,?_⟩
  rw [Aj (by simp only [Bool.and_eq_true,Bool.not_eq_true',decide_eq_false_iff_not];omega)]
  rw [Bz]
  have e:=SN n t.fields p (by omega) t.fields.length n 0 (by omega) (by omega)
  rw [show ((0:Nat):Int)=0 from rfl] at e
  rw [e]
  simp only [Af]
  rcases PY p t.fields t.fields.length 0 (by omega) with q | ⟨i,hi,q,hp⟩
  ·rw [q];left;exact ⟨rfl,rfl⟩
  ·rw [q];right
   refine ⟨i,hi,rfl,?_⟩
   rw [Ac]
   simp only [Bool.false_eq_true,if_false,AK hi,Af]
   obtain ⟨_,q2,q3,a⟩:=(t.ok_eq.1 b).2.2.2 _ (List.getElem_mem hi)
   have hs:=t.field_size _ (List.getElem_mem hi)
   rw [Zd0 (H4 n) n t.fields[i] (by omega) (by omega) (fun v hv=>Nx n v (by have:=(a v hv).1;omega) (by have:=(a v hv).1;omega)) (SC n _ (by omega) (by omega) q2)]
   rfl
 ·left
  refine ⟨fun h=>hk (.inl h),fun h=>hk (.inr h),?_⟩
  rw [Ai (by simp only [Bool.and_eq_true,Bool.not_eq_true',decide_eq_false_iff_not];omega)]
  rfl
def Lp (rec:Ty→Vl→Option Bool) (h:Vl) (q:Ty):Option Bool :=
 (B6 q.elem 0).bind fun b =>
 (rec b h).bind fun g =>
 some (!g)
theorem Zap (w0:World) (rec:Ty→Vl→Option Bool) (ih:∀ (B:As) (Rw:Ax) (L:Aw) (a0:Ty) (a1:Vl) (r:Bool) (h:rec a0 a1=some r),ACalls Tryz.prog w0 201 [.agg (a0.cs),.agg (a1.cs)] ⟨B,Rw,L⟩ fun x st=>x = .val (.bool r)∧st=⟨B,Rw,L⟩) (B:As) (Rw:Ax) (L:Aw) (a0:Vl) (la1:Nat) (a1:Ty) (hla1:B[la1]? = some (a1.cs)) (r:Bool) (h:Lp rec a0 a1=some r) :
  ACalls Tryz.prog w0 269 [.agg (a0.cs),.box la1 0] ⟨B,Rw,L⟩ fun x st=>x = .val (.bool r)∧st=⟨B,Rw,L⟩:=by
 rw [Lp] at h
 refine hd [.tmp 3] Tryz.func269 Tryz.ntmps269 fun M0 W0 f e d b i g hs=>?_
 simp only [AB]
 have c:=(Ak.1 hla1).1
 have hs:=Ae (An hla1) hs
 exact go (tg (a:=([1,2],[8,3],()))) h hs f e d b g (q1 ih) trivial
def G0 (n:Nat)  : Option Int :=
 some ((-1))
def BU (n:Nat) (h:List (ByteArray × Vl)) (y:(ByteArray × Vl)→Option Bool):Nat→Int→Option Int
 | 0,_=>none
 | m+1,b =>
  if decide (b<(h.length:Int)) then
   (B6 h b).bind fun g =>
   (y g).bind fun q =>
   if q then
    some (b)
   else
    if Bj (b+1) then
     (BU n h y m) (b+1)
    else none
  else
   G0 n 
def C6 (n:Nat) (b:List (ByteArray × Vl)) (g:(ByteArray × Vl)→Option Bool):Option Int :=
 BU n b g n 0
theorem Jy (w0:World) (n:Nat) (B:As) (Rw:Ax) (L:Aw) (a0:List (ByteArray × Vl)) (fa1:FuncId) (ca1:List AV) (a1:(ByteArray × Vl)→Option Bool) (ha1:∀ (x0:ByteArray × Vl) r,a1 x0=some r→∀ B' rows,B <+: B'→Rw <+: rows→ACalls Tryz.prog w0 fa1 ([.agg (.val (.string x0.1)::(x0.2.cs))]++ca1) ⟨B',rows,L⟩ fun v s=>v = .val (.bool r)∧s=⟨B',rows,L⟩) (r:Int) (h:C6 n a0 a1=some r) :
  ACalls Tryz.prog w0 199 [.list (a0.map Qc) .none,.clo fa1 ca1] ⟨B,Rw,L⟩ fun x st=>x=Am r∧st=⟨B,Rw,L⟩:=by
 rw [C6] at h
 refine hd [.tmp 4] Tryz.func199 Tryz.ntmps199 fun M0 W0 j i g b l f hs=>?_
 simp only [AB]
 have c:=BN (l (.clo fa1 ca1) (by simp))
 refine rg [0,1] hs ?_
 refine AA (fun e st=>Ck e st B Rw L [] [] [] (G0 n  = some r)) ?_ ?_
 ·intro K4 k
  refine rg [0,1,7,8] hs ?_
  apply Au
  refine AC (fun m e st=>∃ (d:Int),Ck e st B Rw L [(0,true,.list (a0.map Qc) .none),(1,true,.clo fa1 ca1),(7,true,Am (a0.length:Int)),(8,true,Am d)] [] [] (BU n a0 a1 m d=some r)) n ⟨0,([]),Rw,ef hs,ef hs,f,h⟩ ?_
  rintro ml6 e st ⟨d,Xl6,Rl6,rfl,rfl,f,h⟩ Ul6 Vl6
  cases ml6 with
  | zero=>cases h
  | succ ml6 =>
  rw [BU] at h
  refine A4 j i g rfl b f (Ln c f) (Ln c f) ?_
  exact go (tg (a:=([0,1,7,8,9],([0,1,7,8],[0,1,5,7,8],[0,1,5,7,8,16],([4],()),[0,1,7,8],[0,1,7,8],()),[],()))) h hs j i g b f (q1 ha1) (q2 k (fun e s=>Vl6 ml6 e s (Nat.lt_succ_self _)))
 ·clear h;rintro e st ⟨Xk3,Rk3,rfl,rfl,f,h⟩
  rw [G0] at h
  refine A4 j i g rfl b f (Ln c f) (Ln c f) ?_
  refine rg [4] hs ?_
  exact rt h hs b f
def I5 (b:ByteArray × Vl) (g:ByteArray):Bool :=
 G5 b.1 g
theorem X5 (w0:World) (B:As) (Rw:Ax) (L:Aw) (a0:ByteArray × Vl) (la1:Nat) (a1:ByteArray) (hla1:B[la1]? = some ([.val (.string a1)])) (r:Bool) (h:I5 a0 a1=r) :
  ACalls Tryz.prog w0 267 [.agg (.val (.string a0.1)::(a0.2.cs)),.box la1 0] ⟨B,Rw,L⟩ fun x st=>x = .val (.bool r)∧st=⟨B,Rw,L⟩:=by
 rw [I5] at h
 refine hd [.tmp 3] Tryz.func267 Tryz.ntmps267 fun M0 W0 f e c a g d hs=>?_
 simp only [AB]
 have b:=(Ak.1 hla1).1
 have hs:=Ae (An hla1) hs
 refine rg [1,2] hs ?_
 refine rg [3] hs ?_
 exact rT h hs a d
theorem V7 (w0:World) (B:As) (Rw:Ax) (L:Aw) (a0:ByteArray × Vl) (la1:Nat) (a1:ByteArray) (hla1:B[la1]? = some ([.val (.string a1)])) :
  ACalls Tryz.prog w0 267 [.agg (.val (.string a0.1)::(a0.2.cs)),.box la1 0] ⟨B,Rw,L⟩ fun x st=>x = .val (.bool (I5 a0 a1))∧st=⟨B,Rw,L⟩:=X5 w0 B Rw L a0 la1 a1 hla1 _ rfl
def P0 (n:Nat) (q:Vl) (g:ByteArray):Option Int :=
 (C6 n q.fields (fun (h:ByteArray × Vl)=>some (I5 h g))).bind fun b =>
 some (b)
theorem Zak (w0:World) (n:Nat) (B:As) (Rw:Ax) (L:Aw) (a0:Vl) (a1:ByteArray) (r:Int) (h:P0 n a0 a1=some r) :
  ACalls Tryz.prog w0 197 [.agg (a0.cs),.val (.string a1)] ⟨B,Rw,L⟩ fun x st=>x=Am r∧st=⟨B,Rw,L⟩:=by
 rw [P0] at h
 refine hd [.tmp 4] Tryz.func197 Tryz.ntmps197 fun M0 W0 i f c a k d hs=>?_
 simp only [AB]
 refine rg [2,3] hs ?_
 obtain ⟨j,hy3,h⟩:=bind_some h
 refine rc 2 [4] hs ?_;intro K2 b
 refine Az _ (Jy w0 n _ _ _ a0.fields 267 [.box (B.length+1) 0] (fun (x0:ByteArray × Vl)=>some (I5 x0 a1)) (fun x0 r hx g rows' hB' e=>by cases hx;exact V7 w0 _ _ _ x0 _ a1 (EV hB' ev)) _ hy3) (hv hs) ?_
 refine ne hs b ?_
 clear b
 exact rt h hs a d
def Nj (n:Nat) (g:Vl) (y:ByteArray):Option (Vl × Bool) :=
 (P0 n g y).bind fun h =>
 if (!(decide (g.kind=9)))||(decide (h<0)) then
  some ((Vl.mk 0 0 0 (⟨#[]⟩:ByteArray) ([]) ([]),false))
 else
  (B6 g.fields h).bind fun q =>
  (D4 n q.2).bind fun b =>
  some ((b,true))
theorem Zbk (w0:World) (n:Nat) (B:As) (Rw:Ax) (L:Aw) (a0:Vl) (a1:ByteArray) (r:Vl × Bool) (h:Nj n a0 a1=some r) :
  ACalls Tryz.prog w0 207 [.agg (a0.cs),.val (.string a1)] ⟨B,Rw,L⟩ fun x st=>x = .tup [.agg (r.1.cs),.val (.bool r.2)]∧st=⟨B,Rw,L⟩:=by
 rw [Nj] at h
 refine hd [.cell 4 34,.tmp 5] Tryz.func207 Tryz.ntmps207 fun M0 W0 e d c b g f hs=>?_
 simp only [AB]
 exact go (tg (a:=([1,2,4],[2,4,6],[2,4,6,16],([4,5],()),[2,4,6],[4,5],()))) h hs e d c b f (q2 (Zak w0 n) (JJ w0 n)) trivial
def Lr (n:Nat) (b:Int × ByteArray × Int × Ty × List Vl) (h:Vl):Option Bool :=
 (Nj n h b.2.1).bind fun g =>
 some ((!g.2)&&(!(decide (b.2.2.1=2))))
theorem Zba (w0:World) (n:Nat) (B:As) (Rw:Ax) (L:Aw) (a0:Int × ByteArray × Int × Ty × List Vl) (la1:Nat) (a1:Vl) (hla1:B[la1]? = some (a1.cs)) (r:Bool) (h:Lr n a0 a1=some r) :
  ACalls Tryz.prog w0 270 [.agg (Am a0.1::(.val (.string a0.2.1)::(Am a0.2.2.1::((a0.2.2.2.1.cs)++([.list (a0.2.2.2.2.map BZ) .none]))))),.box la1 0] ⟨B,Rw,L⟩ fun x st=>x = .val (.bool r)∧st=⟨B,Rw,L⟩:=by
 rw [Lr] at h
 refine hd [.tmp 3] Tryz.func270 Tryz.ntmps270 fun M0 W0 f e d b i g hs=>?_
 simp only [AB]
 have c:=(Ak.1 hla1).1
 have hs:=Ae (An hla1) hs
 exact go (tg (a:=([1,2],[2,5],[3],()))) h hs f e d b g (q1 (Zbk w0 n)) trivial
def A2 (n:Nat) (g:List (Int × ByteArray × Int × Ty × List Vl)) (h:(Int × ByteArray × Int × Ty × List Vl)→Option Bool):Option Bool :=
 (Bz n g h).bind fun b =>
 some (decide (0≤b))
theorem Es (w0:World) (n:Nat) (B:As) (Rw:Ax) (L:Aw) (a0:List (Int × ByteArray × Int × Ty × List Vl)) (fa1:FuncId) (ca1:List AV) (a1:(Int × ByteArray × Int × Ty × List Vl)→Option Bool) (ha1:∀ (x0:Int × ByteArray × Int × Ty × List Vl) r,a1 x0=some r→∀ B' rows,B <+: B'→Rw <+: rows→ACalls Tryz.prog w0 fa1 ([.agg (Am x0.1::(.val (.string x0.2.1)::(Am x0.2.2.1::((x0.2.2.2.1.cs)++([.list (x0.2.2.2.2.map BZ) .none])))))]++ca1) ⟨B',rows,L⟩ fun v s=>v = .val (.bool r)∧s=⟨B',rows,L⟩) (r:Bool) (h:A2 n a0 a1=some r) :
  ACalls Tryz.prog w0 111 [.list (a0.map CW) .none,.clo fa1 ca1] ⟨B,Rw,L⟩ fun x st=>x = .val (.bool r)∧st=⟨B,Rw,L⟩:=by
 rw [A2] at h
 refine hd [.tmp 4] Tryz.func111 Tryz.ntmps111 fun M0 W0 m l i b k g hs=>?_
 simp only [AB]
 have f:=BN (k (.clo fa1 ca1) (by simp))
 refine rg [0,1] hs ?_
 obtain ⟨o,d,h⟩:=bind_some h
 refine rc 2 [4] hs ?_;intro K2 c
 refine Az _ (Ic w0 n _ _ _ a0 fa1 ca1 a1 (fun x0 r j e a q1 q2=>ha1 x0 r j e a (List.IsPrefix.trans px q1) (g.pre.trans q2)) _ d) (hv hs) ?_
 refine ne hs c ?_
 clear c
 exact rt h hs b g
def G2 (n:Nat)  : Option Int :=
 some ((-1))
def BS (n:Nat) (h:List Vl) (y:Vl→Option Bool):Nat→Int→Option Int
 | 0,_=>none
 | m+1,b =>
  if decide (b<(h.length:Int)) then
   (B6 h b).bind fun g =>
   (y g).bind fun q =>
   if q then
    some (b)
   else
    if Bj (b+1) then
     (BS n h y m) (b+1)
    else none
  else
   G2 n 
def Fg (n:Nat) (b:List Vl) (g:Vl→Option Bool):Option Int :=
 BS n b g n 0
theorem OL (w0:World) (n:Nat) (B:As) (Rw:Ax) (L:Aw) (a0:List Vl) (fa1:FuncId) (ca1:List AV) (a1:Vl→Option Bool) (ha1:∀ (x0:Vl) r,a1 x0=some r→∀ B' rows,B <+: B'→Rw <+: rows→ACalls Tryz.prog w0 fa1 ([.agg (x0.cs)]++ca1) ⟨B',rows,L⟩ fun v s=>v = .val (.bool r)∧s=⟨B',rows,L⟩) (r:Int) (h:Fg n a0 a1=some r) :
  ACalls Tryz.prog w0 314 [.list (a0.map BZ) .none,.clo fa1 ca1] ⟨B,Rw,L⟩ fun x st=>x=Am r∧st=⟨B,Rw,L⟩:=by
 rw [Fg] at h
 refine hd [.tmp 4] Tryz.func314 Tryz.ntmps314 fun M0 W0 j i g b l f hs=>?_
 simp only [AB]
 have c:=BN (l (.clo fa1 ca1) (by simp))
 refine rg [0,1] hs ?_
 refine AA (fun e st=>Ck e st B Rw L [] [] [] (G2 n  = some r)) ?_ ?_
 ·intro K4 k
  refine rg [0,1,7,8] hs ?_
  apply Au
  refine AC (fun m e st=>∃ (d:Int),Ck e st B Rw L [(0,true,.list (a0.map BZ) .none),(1,true,.clo fa1 ca1),(7,true,Am (a0.length:Int)),(8,true,Am d)] [] [] (BS n a0 a1 m d=some r)) n ⟨0,([]),Rw,ef hs,ef hs,f,h⟩ ?_
  rintro ml6 e st ⟨d,Xl6,Rl6,rfl,rfl,f,h⟩ Ul6 Vl6
  cases ml6 with
  | zero=>cases h
  | succ ml6 =>
  rw [BS] at h
  refine A4 j i g rfl b f (Ln c f) (Ln c f) ?_
  exact go (tg (a:=([0,1,7,8,9],([0,1,7,8],[0,1,5,7,8],[0,1,5,7,8,16],([4],()),[0,1,7,8],[0,1,7,8],()),[],()))) h hs j i g b f (q1 ha1) (q2 k (fun e s=>Vl6 ml6 e s (Nat.lt_succ_self _)))
 ·clear h;rintro e st ⟨Xk3,Rk3,rfl,rfl,f,h⟩
  rw [G2] at h
  refine A4 j i g rfl b f (Ln c f) (Ln c f) ?_
  refine rg [4] hs ?_
  exact rt h hs b f
def C7 (n:Nat) (b:List Vl) (h:Vl→Option Bool):Option Bool :=
 (Fg n b h).bind fun g =>
 some (decide (0≤g))
theorem M5 (w0:World) (n:Nat) (B:As) (Rw:Ax) (L:Aw) (a0:List Vl) (fa1:FuncId) (ca1:List AV) (a1:Vl→Option Bool) (ha1:∀ (x0:Vl) r,a1 x0=some r→∀ B' rows,B <+: B'→Rw <+: rows→ACalls Tryz.prog w0 fa1 ([.agg (x0.cs)]++ca1) ⟨B',rows,L⟩ fun v s=>v = .val (.bool r)∧s=⟨B',rows,L⟩) (r:Bool) (h:C7 n a0 a1=some r) :
  ACalls Tryz.prog w0 268 [.list (a0.map BZ) .none,.clo fa1 ca1] ⟨B,Rw,L⟩ fun x st=>x = .val (.bool r)∧st=⟨B,Rw,L⟩:=by
 rw [C7] at h
 refine hd [.tmp 4] Tryz.func268 Tryz.ntmps268 fun M0 W0 m l i b k g hs=>?_
 simp only [AB]
 have f:=BN (k (.clo fa1 ca1) (by simp))
 refine rg [0,1] hs ?_
 obtain ⟨o,d,h⟩:=bind_some h
 refine rc 2 [4] hs ?_;intro K2 c
 refine Az _ (OL w0 n _ _ _ a0 fa1 ca1 a1 (fun x0 r j e a q1 q2=>ha1 x0 r j e a (List.IsPrefix.trans px q1) (g.pre.trans q2)) _ d) (hv hs) ?_
 refine ne hs c ?_
 clear c
 exact rt h hs b g
def IC (n:Nat)  : Option Int :=
 some ((-1))
def CX (n:Nat) (h:List ByteArray) (q:ByteArray):Nat→Int→Option Int
 | 0,_=>none
 | m+1,b =>
  if decide (b<(h.length:Int)) then
   (B6 h b).bind fun g =>
   if G5 q g then
    some (b)
   else
    if Bj (b+1) then
     (CX n h q m) (b+1)
    else none
  else
   IC n 
def Ha (n:Nat) (b:List ByteArray) (g:ByteArray):Option Int :=
 CX n b g n 0
theorem Qm (w0:World) (n:Nat) (B:As) (Rw:Ax) (L:Aw) (a0:List ByteArray) (a1:ByteArray) (r:Int) (h:Ha n a0 a1=some r) :
  ACalls Tryz.prog w0 205 [.list (a0.map Eo) .none,.val (.string a1)] ⟨B,Rw,L⟩ fun x st=>x=Am r∧st=⟨B,Rw,L⟩:=by
 rw [Ha] at h
 refine hd [.tmp 4] Tryz.func205 Tryz.ntmps205 fun M0 W0 j g f b k d hs=>?_
 simp only [AB]
 refine rg [0,1] hs ?_
 refine AA (fun e st=>Ck e st B Rw L [] [] [] (IC n  = some r)) ?_ ?_
 ·intro K4 i
  refine rg [0,1,7,8] hs ?_
  apply Au
  refine AC (fun m e st=>∃ (c:Int),Ck e st B Rw L [(0,true,.list (a0.map Eo) .none),(1,true,.val (.string a1)),(7,true,Am (a0.length:Int)),(8,true,Am c)] [] [] (CX n a0 a1 m c=some r)) n ⟨0,([]),Rw,ef hs,ef hs,d,h⟩ ?_
  rintro ml6 e st ⟨c,Xl6,Rl6,rfl,rfl,d,h⟩ Ul6 Vl6
  cases ml6 with
  | zero=>cases h
  | succ ml6 =>
  rw [CX] at h
  exact go (tg (a:=([0,1,7,8,9],([0,1,7,8],[0,1,5,7,8],[0,1,5,7,8,16],([4],()),[0,1,7,8],[0,1,7,8],()),[],()))) h hs j g f b d trivial (q2 i (fun e s=>Vl6 ml6 e s (Nat.lt_succ_self _)))
 ·clear h;rintro e st ⟨Xk3,Rk3,rfl,rfl,d,h⟩
  rw [IC] at h
  refine td j g f b d ?_
  refine rg [4] hs ?_
  exact rt h hs b d
def D3 (n:Nat) (b:List ByteArray) (h:ByteArray):Option Bool :=
 (Ha n b h).bind fun g =>
 some (decide (0≤g))
theorem OK (w0:World) (n:Nat) (B:As) (Rw:Ax) (L:Aw) (a0:List ByteArray) (a1:ByteArray) (r:Bool) (h:D3 n a0 a1=some r) :
  ACalls Tryz.prog w0 133 [.list (a0.map Eo) .none,.val (.string a1)] ⟨B,Rw,L⟩ fun x st=>x = .val (.bool r)∧st=⟨B,Rw,L⟩:=by
 rw [D3] at h
 refine hd [.tmp 4] Tryz.func133 Tryz.ntmps133 fun M0 W0 e d c b g f hs=>?_
 simp only [AB]
 exact go (tg (a:=([0,1],[4],()))) h hs e d c b f (q1 (Qm w0 n)) trivial
end Go.Proofs.YtmcnjijeocmkgaaGreatDoor
