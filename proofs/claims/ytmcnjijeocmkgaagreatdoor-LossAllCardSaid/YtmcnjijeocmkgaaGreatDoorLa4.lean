/-
  Part 4 of the proof: rules and walks that the claim's last text uses.
-/
import Derived.Carry
import Derived.ChangeOld
import Derived.ChangeSlices
import Derived.Deep.DeepHandedRow
import Derived.Deep.DeepWitnessRowRef
import Derived.Lib.LaidIn
import Derived.Lib.LaidU8T
import Derived.PinnedBridge
import Derived.ProofKit
import Derived.SevenTiedAt
import Derived.SizedLaws
import Derived.Test.YtmcnjijeocmkgaaGreatDoorCards
import Derived.Test.YtmcnjijeocmkgaaGreatDoorTie
import Derived.Test.YtmcnjijeocmkgaaGreatDoorLa3
set_option linter.unusedSimpArgs false
set_option linter.unusedVariables false
set_option maxRecDepth 100000
set_option maxHeartbeats 4000000
namespace Go.Proofs.YtmcnjijeocmkgaaGreatDoor
open Go Go.RowKit Go.Ev
def GR (rec:Ty→Option Ty) (n:Nat) (g:Int × ByteArray × Int × Ty × List Vl) (h:Ty) (b:List Vl):Option ((Int × ByteArray × Int × Ty × List Vl)) :=
 some ((g.1,g.2.1,g.2.2.1,h,b))
def CJ (rec:Ty→Option Ty) (n:Nat) (h:Int × ByteArray × Int × Ty × List Vl) (z:Ty):Nat→(List Vl)→Int→Option ((Int × ByteArray × Int × Ty × List Vl))
 | 0,_,_=>none
 | m+1,g,b =>
  if decide (b<(h.2.2.2.2.length:Int)) then
   (Cj h.2.2.2.2 b).bind fun q =>
   (C5 n q).bind fun y =>
   if (g.length+1)*88≤140737488355328∧g.length+1≤4611686018427387904 then
    if Bg (b+1) then
     (CJ rec n h z m) (g++([y])) (b+1)
    else none
   else none
  else
   GR rec n h z g
def CU (rec:Ty→Option Ty) (n:Nat) (b:Int × ByteArray × Int × Ty × List Vl):Option ((Int × ByteArray × Int × Ty × List Vl)) :=
 (rec b.2.2.2.1).bind fun g =>
 if 0≤(b.2.2.2.2.length:Int)∧(b.2.2.2.2.length:Int)*88≤140737488355328∧(b.2.2.2.2.length:Int)≤4611686018427387904 then
  CJ rec n b g n ([]) 0
 else none
theorem MM (w0:World) (rec:Ty→Option Ty) (ih:∀ (B:Ao) (Rw:Av) (L:As) (a0:Ty) (r:Ty) (h:rec a0=some r),ACalls Tryz.prog w0 321 [.agg (a0.cs)] ⟨B,Rw,L⟩ fun x st=>x = .agg (r.cs)∧st=⟨B,Rw,L⟩) (n:Nat) (B:Ao) (Rw:Av) (L:As) (a0:Int × ByteArray × Int × Ty × List Vl) (r:(Int × ByteArray × Int × Ty × List Vl)) (h:CU rec n a0=some r) :
  ACalls Tryz.prog w0 278 [.agg (Am a0.1::(.val (.string a0.2.1)::(Am a0.2.2.1::((a0.2.2.2.1.cs)++([.list (a0.2.2.2.2.map CZ) .none])))))] ⟨B,Rw,L⟩ fun x st=>x = .agg (Am r.1::(.val (.string r.2.1)::(Am r.2.2.1::((r.2.2.2.1.cs)++([.list (r.2.2.2.2.map CZ) .none])))))∧st=⟨B,Rw,L⟩:=by
 rw [CU] at h
 refine hd [.cell 2 95] Tryz.func278 Tryz.ntmps278 fun M0 W0 u o l j w k hs=>?_
 simp only [AA]
 refine rg [1,2] hs ?_
 obtain ⟨i,t,h⟩:=bind_some h
 have hs:=Ae (Ty.cs_eqs a0.2.2.2.1) hs
 have hs:=Ae (Ty.cs_eqs i) hs
 refine rc 2 [1,2] hs ?_;intro K2 p
 refine Ax _ (ih _ _ _ a0.2.2.2.1 _ t) (hv hs) ?_
 refine ne hs p ?_
 clear p
 obtain ⟨v,h⟩:=Aw h
 have k:=k.make 6 0
 refine rg [1,2,3] hs ?_
 refine AB (fun e st=>∃ (g:List Vl) (f:Ev.Own),Ck e st B Rw L [(1,true,.box B.length 0),(2,true,.box (B.length+1) 0),(3,true,.list (g.map CZ) f)] [[Am a0.1,.val (.string a0.2.1),Am a0.2.2.1,Am i.kind,Am i.min,Am i.max,Am i.scale,.list (i.words.map C0) .none,.list (i.elem.map IX) .none,.list (i.fields.map BS) .none,.list (a0.2.2.2.2.map CZ) .none],[Am 0,.val (.string (⟨#[]⟩:ByteArray)),Am 0,Am 0,Am 0,Am 0,Am 0,.list ([]) .full,.list ([]) .full,.list ([]) .full,.list ([]) .full]] [(6,g.length,f)] (GR rec n a0 i g=some r)) ?_ ?_
 ·intro K9 q
  refine rg [1,2,3,15,16,17] hs ?_
  apply Ar
  refine AC (fun m e st=>∃ (b:List Vl) (c:Int) (d:Ev.Own),Ck e st B Rw L [(1,true,.box B.length 0),(2,true,.box (B.length+1) 0),(3,true,.list (b.map CZ) d),(15,true,.list (a0.2.2.2.2.map CZ) .none),(16,true,Am (a0.2.2.2.2.length:Int)),(17,true,Am c)] [[Am a0.1,.val (.string a0.2.1),Am a0.2.2.1,Am i.kind,Am i.min,Am i.max,Am i.scale,.list (i.words.map C0) .none,.list (i.elem.map IX) .none,.list (i.fields.map BS) .none,.list (a0.2.2.2.2.map CZ) .none],[Am 0,.val (.string (⟨#[]⟩:ByteArray)),Am 0,Am 0,Am 0,Am 0,Am 0,.list ([]) .full,.list ([]) .full,.list ([]) .full,.list ([]) .full]] [(6,b.length,d)] (CJ rec n a0 i m b c=some r)) n ⟨([]),0,((.row Rw.length)),([]),((Rw++[.grow 0 6])),ef hs,ef hs,Owns.of_eq (k) Ew,h⟩ ?_
  rintro ml11 e st ⟨b,c,d,Xl11,Rl11,rfl,rfl,k,h⟩ Ul11 Vl11
  cases ml11 with
  | zero=>cases h
  | succ ml11 =>
  rw [CJ] at h
  exact go (tg (a:=([1,2,3,15,16,17,18],([1,2,3,15,16,17],[1,2,3,5,15,16,17],[1,2,3,15,16,17],[1,2,3,15,16,17],()),[1,2,3],()))) h hs u o l j k (q2 (ae LZ H2) (Iy w0 n)) (q2 q (fun e s=>Vl11 ml11 e s (Nat.lt_succ_self _)))
 ·clear h;rintro e st ⟨g,f,Xk8,Rk8,rfl,rfl,k,h⟩
  rw [GR] at h
  exact go (tg (a:=([1,2],[2],()))) h hs u o l j k trivial trivial
def Kw (rec:Ty→Option Ty) (n:Nat) (h:Ty) (g:List Ty) (b:List (Int × ByteArray × Int × Ty × List Vl)):Option Ty :=
 if h.words.length*16≤140737488355328 then
  some (Ty.mk h.kind h.min h.max h.scale h.words g b)
 else none
def F9 (rec:Ty→Option Ty) (n:Nat) (q:Ty):Nat→(List Ty)→(List (Int × ByteArray × Int × Ty × List Vl))→Int→Option Ty
 | 0,_,_,_=>none
 | m+1,h,g,b =>
  if decide (b<(q.fields.length:Int)) then
   (Cj q.fields b).bind fun y =>
   (CU rec n y).bind fun z =>
   if (g.length+1)*160≤140737488355328∧g.length+1≤4611686018427387904 then
    if Bg (b+1) then
     (F9 rec n q m) h (g++([z])) (b+1)
    else none
   else none
  else
   Kw rec n q h g
def LS (rec:Ty→Option Ty) (n:Nat) (g:Ty) (b:List Ty):Option Ty :=
 if 0≤(g.fields.length:Int)∧(g.fields.length:Int)*160≤140737488355328∧(g.fields.length:Int)≤4611686018427387904 then
  F9 rec n g n b ([]) 0
 else none
def G7 (rec:Ty→Option Ty) (n:Nat) (h:Ty):Nat→(List Ty)→Int→Option Ty
 | 0,_,_=>none
 | m+1,g,b =>
  if decide (b<(h.elem.length:Int)) then
   (Cj h.elem b).bind fun q =>
   (rec q).bind fun y =>
   if (g.length+1)*104≤140737488355328∧g.length+1≤4611686018427387904 then
    if Bg (b+1) then
     (G7 rec n h m) (g++([y])) (b+1)
    else none
   else none
  else
   LS rec n h g
def NM (rec:Ty→Option Ty) (n:Nat) (b:Ty):Option Ty :=
 if 0≤(b.elem.length:Int)∧(b.elem.length:Int)*104≤140737488355328∧(b.elem.length:Int)≤4611686018427387904 then
  G7 rec n b n ([]) 0
 else none
def Gu:Nat→Ty→Option Ty
 | 0,_=>none
 | n+1,b=>NM (Gu n) n b
def PU (w0:World) (F:Ty→Option Ty):Prop:=∀ (B:Ao) (Rw:Av) (L:As) (b:Ty) (r:Ty),F b=some r→ACalls Tryz.prog w0 321 [.agg (b.cs)] ⟨B,Rw,L⟩ fun x st=>x = .agg (r.cs)∧st=⟨B,Rw,L⟩
theorem V7 (w0:World) (rec:Ty→Option Ty) (ih:PU w0 rec) (n:Nat):PU w0 (NM rec n):=by
 intro B Rw L a0 r h
 rw [NM] at h
 refine hd [.cell 2 26] Tryz.func321 Tryz.ntmps321 fun M0 W0 z y x q N w hs=>?_
 simp only [AA]
 refine rg [1,2] hs ?_
 obtain ⟨J,h⟩:=Aw h
 have w:=w.make 7 0
 refine rg [1,2,3] hs ?_
 refine AB (fun e st=>∃ (k:List Ty) (j:Ev.Own),Ck e st B Rw L [(1,true,.box B.length 0),(2,true,.box (B.length+1) 0),(3,true,.list (k.map IX) j)] [a0.cs,[Am 0,Am 0,Am 0,Am 0,.list ([]) .full,.list ([]) .full,.list ([]) .full]] [(7,k.length,j)] (LS rec n a0 k=some r)) ?_ ?_
 ·intro K7 F
  refine rg [1,2,3,14,15,16] hs ?_
  apply Ar
  refine AC (fun m e st=>∃ (t:List Ty) (v:Int) (u:Ev.Own),Ck e st B Rw L [(1,true,.box B.length 0),(2,true,.box (B.length+1) 0),(3,true,.list (t.map IX) u),(14,true,.list (a0.elem.map IX) .none),(15,true,Am (a0.elem.length:Int)),(16,true,Am v)] [a0.cs,[Am 0,Am 0,Am 0,Am 0,.list ([]) .full,.list ([]) .full,.list ([]) .full]] [(7,t.length,u)] (G7 rec n a0 m t v=some r)) n ⟨([]),0,((.row Rw.length)),([]),((Rw++[.grow 0 7])),ef hs,ef hs,Owns.of_eq (w) Ew,h⟩ ?_
  rintro ml9 e st ⟨t,v,u,Xl9,Rl9,rfl,rfl,w,h⟩ Ul9 Vl9
  cases ml9 with
  | zero=>cases h
  | succ ml9 =>
  rw [G7] at h
  exact go (tg (a:=([1,2,3,14,15,16,17],([1,2,3,14,15,16],[1,2,3,5,14,15,16],[1,2,3,14,15,16],[1,2,3,14,15,16],()),[1,2,3],()))) h hs z y x q w (q2 (ae YQ RI) ih) (q2 F (fun e s=>Vl9 ml9 e s (Nat.lt_succ_self _)))
 ·clear h;rintro e st ⟨k,j,Xk6,Rk6,rfl,rfl,w,h⟩
  rw [LS] at h
  have E:=w.unders
  simp only [List.mem_cons,List.not_mem_nil,or_false,forall_eq_or_imp,forall_eq] at E
  refine td z y x q w ?_
  obtain ⟨G,h⟩:=Aw h
  have w:=w.make 11 0
  refine rg [1,2,3,6] hs ?_
  refine AB (fun e st=>∃ (i:List Ty) (g:List (Int × ByteArray × Int × Ty × List Vl)) (l:Ev.Own) (o:Ev.Own),Ck e st B Rw L [(1,true,.box B.length 0),(2,true,.box (B.length+1) 0),(3,true,.list (i.map IX) l),(6,true,.list (g.map BS) o)] [a0.cs,[Am 0,Am 0,Am 0,Am 0,.list ([]) .full,.list ([]) .full,.list ([]) .full]] [(7,i.length,l),(11,g.length,o)] (Kw rec n a0 i g=some r)) ?_ ?_
  ·intro K27 C
   refine rg [1,2,3,6,31,32,33] hs ?_
   apply Ar
   refine AC (fun m e st=>∃ (b:List Ty) (d:List (Int × ByteArray × Int × Ty × List Vl)) (p:Int) (c:Ev.Own) (f:Ev.Own),Ck e st B Rw L [(1,true,.box B.length 0),(2,true,.box (B.length+1) 0),(3,true,.list (b.map IX) c),(6,true,.list (d.map BS) f),(31,true,.list (a0.fields.map BS) .none),(32,true,Am (a0.fields.length:Int)),(33,true,Am p)] [a0.cs,[Am 0,Am 0,Am 0,Am 0,.list ([]) .full,.list ([]) .full,.list ([]) .full]] [(7,b.length,c),(11,d.length,f)] (F9 rec n a0 m b d p=some r)) n ⟨k,([]),0,j,((.row Rk6.length)),([]),((Rk6++[.grow 0 11])),ef hs,ef hs,Owns.of_eq ((w).swap (List.Perm.swap _ _ _)) Ew,h⟩ ?_
   rintro ml29 e st ⟨b,d,p,c,f,Xl29,Rl29,rfl,rfl,w,h⟩ Ul29 Vl29
   cases ml29 with
   | zero=>cases h
   | succ ml29 =>
   rw [F9] at h
   have E:=w.unders
   simp only [List.mem_cons,List.not_mem_nil,or_false,forall_eq_or_imp,forall_eq] at E
   obtain ⟨H,K⟩:=E
   refine td z y x q w ?_
   refine rg [1,2,3,6,31,32,33,34] hs ?_
   apply An;intro K31 D
   refine B6 h hs ?_ ?_<;>intro hs h
   rotate_left
   ·refine sx [1,2,3,6] hs C ?_
    exact ⟨b,d,c,f,([]),Rl29,ef hs,ef hs,Owns.of_eq (((w).swap (List.Perm.swap _ _ _)).swap (List.Perm.swap _ _ _)) Ew,h⟩
   exact go (tg (a:=([1,2,3,6,31,32,33],[1,2,3,6,8,31,32,33],[1,2,3,6,31,32,33],[1,2,3,6,31,32,33],()))) h hs z y x q w (q2 (ae S8 M9) (MM w0 rec ih n)) (q2 D (fun e s=>Vl29 ml29 e s (Nat.lt_succ_self _)))
  ·clear h;rintro e st ⟨i,g,l,o,Xk26,Rk26,rfl,rfl,w,h⟩
   rw [Kw] at h
   exact go (tg (a:=([1,2],[2],()))) h (Ae (Ty.cs_eqs a0) hs) z y x q w (q1 (OK w0)) trivial
theorem Si (w0:World):∀ n:Nat,PU w0 (Gu n)
 | 0=>fun _ _ _ _ _ h=>(nomatch h)
 | n+1=>V7 w0 (Gu n) (Si w0 n) n
def DU (n:Nat)  : Option Int :=
 some ((-1))
def AK (n:Nat) (h:List (Int × ByteArray × Int × Ty × List Vl)) (y:(Int × ByteArray × Int × Ty × List Vl)→Option Bool):Nat→Int→Option Int
 | 0,_=>none
 | m+1,b =>
  if decide (b<(h.length:Int)) then
   (Cj h b).bind fun q =>
   (y q).bind fun g =>
   if g then
    some (b)
   else
    if Bg (b+1) then
     (AK n h y m) (b+1)
    else none
  else
   DU n 
def A5 (n:Nat) (b:List (Int × ByteArray × Int × Ty × List Vl)) (g:(Int × ByteArray × Int × Ty × List Vl)→Option Bool):Option Int :=
 AK n b g n 0
theorem GF (w0:World) (n:Nat) (B:Ao) (Rw:Av) (L:As) (a0:List (Int × ByteArray × Int × Ty × List Vl)) (fa1:FuncId) (ca1:List AV) (a1:(Int × ByteArray × Int × Ty × List Vl)→Option Bool) (ha1:∀ (x0:Int × ByteArray × Int × Ty × List Vl) r,a1 x0=some r→∀ B' rows,B <+: B'→Rw <+: rows→ACalls Tryz.prog w0 fa1 ([.agg (Am x0.1::(.val (.string x0.2.1)::(Am x0.2.2.1::((x0.2.2.2.1.cs)++([.list (x0.2.2.2.2.map CZ) .none])))))]++ca1) ⟨B',rows,L⟩ fun v s=>v = .val (.bool r)∧s=⟨B',rows,L⟩) (r:Int) (h:A5 n a0 a1=some r) :
  ACalls Tryz.prog w0 191 [.list (a0.map BS) .none,.clo fa1 ca1] ⟨B,Rw,L⟩ fun x st=>x=Am r∧st=⟨B,Rw,L⟩:=by
 rw [A5] at h
 refine hd [.tmp 4] Tryz.func191 Tryz.ntmps191 fun M0 W0 k i g b l f hs=>?_
 simp only [AA]
 have c:=BJ (l (.clo fa1 ca1) (by simp))
 refine rg [0,1] hs ?_
 refine AB (fun e st=>Ck e st B Rw L [] [] [] (DU n  = some r)) ?_ ?_
 ·intro K4 j
  refine rg [0,1,7,8] hs ?_
  apply Ar
  refine AC (fun m e st=>∃ (d:Int),Ck e st B Rw L [(0,true,.list (a0.map BS) .none),(1,true,.clo fa1 ca1),(7,true,Am (a0.length:Int)),(8,true,Am d)] [] [] (AK n a0 a1 m d=some r)) n ⟨0,([]),Rw,ef hs,ef hs,f,h⟩ ?_
  rintro ml6 e st ⟨d,Xl6,Rl6,rfl,rfl,f,h⟩ Ul6 Vl6
  cases ml6 with
  | zero=>cases h
  | succ ml6 =>
  rw [AK] at h
  refine A1 k i g rfl b f (LI c f) (LI c f) ?_
  exact go (tg (a:=([0,1,7,8,9],([0,1,7,8],[0,1,5,7,8],[0,1,5,7,8,16],([4],()),[0,1,7,8],[0,1,7,8],()),[],()))) h hs k i g b f (q1 ha1) (q2 j (fun e s=>Vl6 ml6 e s (Nat.lt_succ_self _)))
 ·clear h;rintro e st ⟨Xk3,Rk3,rfl,rfl,f,h⟩
  rw [DU] at h
  refine A1 k i g rfl b f (LI c f) (LI c f) ?_
  refine rg [4] hs ?_
  exact rt h hs b f
def GI (n:Nat) (b:Ty) (y:(Int × ByteArray × Int × Ty × List Vl)→Option Bool):Option ((Int × ByteArray × Int × Ty × List Vl) × Bool) :=
 if (!(decide (b.kind=9)))&&(!(decide (b.kind=10))) then
  some (((0,(⟨#[]⟩:ByteArray),0,Ty.mk 0 0 0 0 ([]) ([]) ([]),[]),false))
 else
  (A5 n b.fields y).bind fun q =>
  if decide (q<0) then
   some (((0,(⟨#[]⟩:ByteArray),0,Ty.mk 0 0 0 0 ([]) ([]) ([]),[]),false))
  else
   (Cj b.fields q).bind fun h =>
   (CU (Gu n) n h).bind fun g =>
   some ((g,true))
theorem UF (w0:World) (n:Nat) (B:Ao) (Rw:Av) (L:As) (a0:Ty) (fa1:FuncId) (ca1:List AV) (a1:(Int × ByteArray × Int × Ty × List Vl)→Option Bool) (ha1:∀ (x0:Int × ByteArray × Int × Ty × List Vl) r,a1 x0=some r→∀ B' rows,B <+: B'→Rw <+: rows→ACalls Tryz.prog w0 fa1 ([.agg (Am x0.1::(.val (.string x0.2.1)::(Am x0.2.2.1::((x0.2.2.2.1.cs)++([.list (x0.2.2.2.2.map CZ) .none])))))]++ca1) ⟨B',rows,L⟩ fun v s=>v = .val (.bool r)∧s=⟨B',rows,L⟩) (r:(Int × ByteArray × Int × Ty × List Vl) × Bool) (h:GI n a0 a1=some r) :
  ACalls Tryz.prog w0 213 [.agg (a0.cs),.clo fa1 ca1] ⟨B,Rw,L⟩ fun x st=>x = .tup [.agg (Am r.1.1::(.val (.string r.1.2.1)::(Am r.1.2.2.1::((r.1.2.2.2.1.cs)++([.list (r.1.2.2.2.2.map CZ) .none]))))),.val (.bool r.2)]∧st=⟨B,Rw,L⟩:=by
 rw [GI] at h
 refine hd [.cell 4 95,.tmp 5] Tryz.func213 Tryz.ntmps213 fun M0 W0 p i g b o j hs=>?_
 simp only [AA]
 have l:=BJ (o (.clo fa1 ca1) (by simp))
 refine rg [1,2,4] hs ?_
 apply An;intro K2 d
 refine rg [1,2,4,14] hs ?_
 refine B6 h hs ?_ ?_<;>intro hs h
 ·refine rg [4,5] hs ?_
  exact rt h hs b j
 refine sk [1,2,4] hs d ?_
 clear d
 obtain ⟨q,f,h⟩:=bind_some h
 refine rc 2 [2,4,6] hs ?_;intro K6 e
 refine Ax _ (GF w0 n _ _ _ a0.fields fa1 ca1 a1 (fun x0 r m k c q1 q2=>ha1 x0 r m k c (List.IsPrefix.trans px q1) (j.pre.trans q2)) _ f) (hv hs) ?_
 exact go (tg (a:=([2,4,6,21],([4,5],()),[2,4,6],[4,5],()))) h hs p i g b j (q1 (MM w0 (Gu n) (Si w0 n) n)) (q1 e)
def FN (b:Int × ByteArray × Int × Ty × List Vl) (g:Int):Bool :=
 decide (b.1=g)
theorem Q3 (w0:World) (B:Ao) (Rw:Av) (L:As) (a0:Int × ByteArray × Int × Ty × List Vl) (la1:Nat) (a1:Int) (hla1:B[la1]? = some ([Am a1])) (r:Bool) (h:FN a0 a1=r) :
  ACalls Tryz.prog w0 256 [.agg (Am a0.1::(.val (.string a0.2.1)::(Am a0.2.2.1::((a0.2.2.2.1.cs)++([.list (a0.2.2.2.2.map CZ) .none]))))),.box la1 0] ⟨B,Rw,L⟩ fun x st=>x = .val (.bool r)∧st=⟨B,Rw,L⟩:=by
 rw [FN] at h
 refine hd [.tmp 3] Tryz.func256 Tryz.ntmps256 fun M0 W0 g d c a f e hs=>?_
 simp only [AA]
 have b:=(Ak.1 hla1).1
 have hs:=Ae (Aq hla1) hs
 refine rg [1,2] hs ?_
 refine rg [3] hs ?_
 exact rT h hs a e
theorem Qs (w0:World) (B:Ao) (Rw:Av) (L:As) (a0:Int × ByteArray × Int × Ty × List Vl) (la1:Nat) (a1:Int) (hla1:B[la1]? = some ([Am a1])) :
  ACalls Tryz.prog w0 256 [.agg (Am a0.1::(.val (.string a0.2.1)::(Am a0.2.2.1::((a0.2.2.2.1.cs)++([.list (a0.2.2.2.2.map CZ) .none]))))),.box la1 0] ⟨B,Rw,L⟩ fun x st=>x = .val (.bool (FN a0 a1))∧st=⟨B,Rw,L⟩:=Q3 w0 B Rw L a0 la1 a1 hla1 _ rfl
def HS (n:Nat) (h:Ty) (q:Int):Option ((Int × ByteArray × Int × Ty × List Vl) × Bool) :=
 (GI n h (fun (g:Int × ByteArray × Int × Ty × List Vl)=>some (FN g q))).bind fun b =>
 some ((b.1,b.2))
theorem Uc (w0:World) (n:Nat) (B:Ao) (Rw:Av) (L:As) (a0:Ty) (a1:Int) (r:(Int × ByteArray × Int × Ty × List Vl) × Bool) (h:HS n a0 a1=some r) :
  ACalls Tryz.prog w0 174 [.agg (a0.cs),Am a1] ⟨B,Rw,L⟩ fun x st=>x = .tup [.agg (Am r.1.1::(.val (.string r.1.2.1)::(Am r.1.2.2.1::((r.1.2.2.2.1.cs)++([.list (r.1.2.2.2.2.map CZ) .none]))))),.val (.bool r.2)]∧st=⟨B,Rw,L⟩:=by
 rw [HS] at h
 refine hd [.cell 4 95,.tmp 5] Tryz.func174 Tryz.ntmps174 fun M0 W0 k d c a j e hs=>?_
 simp only [AA]
 refine rg [2,3,4] hs ?_
 obtain ⟨i,hy3,h⟩:=bind_some h
 refine rc 2 [4,5] hs ?_;intro K2 b
 refine Ax _ (UF w0 n _ _ _ a0 256 [.box (B.length+1) 0] (fun (x0:Int × ByteArray × Int × Ty × List Vl)=>some (FN x0 a1)) (fun x0 r hx g rows' hB' f=>by cases hx;exact Qs w0 _ _ _ x0 _ a1 (Di hB' ev)) _ hy3) (hv hs) ?_
 refine ne hs b ?_
 clear b
 exact rt h hs a e
def IM (b:Int × ByteArray × Int × Ty × List Vl) (g:ByteArray):Bool :=
 GP b.2.1 g
theorem VQ (w0:World) (B:Ao) (Rw:Av) (L:As) (a0:Int × ByteArray × Int × Ty × List Vl) (la1:Nat) (a1:ByteArray) (hla1:B[la1]? = some ([.val (.string a1)])) (r:Bool) (h:IM a0 a1=r) :
  ACalls Tryz.prog w0 214 [.agg (Am a0.1::(.val (.string a0.2.1)::(Am a0.2.2.1::((a0.2.2.2.1.cs)++([.list (a0.2.2.2.2.map CZ) .none]))))),.box la1 0] ⟨B,Rw,L⟩ fun x st=>x = .val (.bool r)∧st=⟨B,Rw,L⟩:=by
 rw [IM] at h
 refine hd [.tmp 3] Tryz.func214 Tryz.ntmps214 fun M0 W0 g d c a f e hs=>?_
 simp only [AA]
 have b:=(Ak.1 hla1).1
 have hs:=Ae (Aq hla1) hs
 refine rg [1,2] hs ?_
 refine rg [3] hs ?_
 exact rT h hs a e
theorem TZ (w0:World) (B:Ao) (Rw:Av) (L:As) (a0:Int × ByteArray × Int × Ty × List Vl) (la1:Nat) (a1:ByteArray) (hla1:B[la1]? = some ([.val (.string a1)])) :
  ACalls Tryz.prog w0 214 [.agg (Am a0.1::(.val (.string a0.2.1)::(Am a0.2.2.1::((a0.2.2.2.1.cs)++([.list (a0.2.2.2.2.map CZ) .none]))))),.box la1 0] ⟨B,Rw,L⟩ fun x st=>x = .val (.bool (IM a0 a1))∧st=⟨B,Rw,L⟩:=VQ w0 B Rw L a0 la1 a1 hla1 _ rfl
def Ih (n:Nat) (h:Ty) (q:ByteArray):Option ((Int × ByteArray × Int × Ty × List Vl) × Bool) :=
 (GI n h (fun (g:Int × ByteArray × Int × Ty × List Vl)=>some (IM g q))).bind fun b =>
 some ((b.1,b.2))
theorem OA (w0:World) (n:Nat) (B:Ao) (Rw:Av) (L:As) (a0:Ty) (a1:ByteArray) (r:(Int × ByteArray × Int × Ty × List Vl) × Bool) (h:Ih n a0 a1=some r) :
  ACalls Tryz.prog w0 144 [.agg (a0.cs),.val (.string a1)] ⟨B,Rw,L⟩ fun x st=>x = .tup [.agg (Am r.1.1::(.val (.string r.1.2.1)::(Am r.1.2.2.1::((r.1.2.2.2.1.cs)++([.list (r.1.2.2.2.2.map CZ) .none]))))),.val (.bool r.2)]∧st=⟨B,Rw,L⟩:=by
 rw [Ih] at h
 refine hd [.cell 4 95,.tmp 5] Tryz.func144 Tryz.ntmps144 fun M0 W0 k d c a j e hs=>?_
 simp only [AA]
 refine rg [2,3,4] hs ?_
 obtain ⟨i,hy3,h⟩:=bind_some h
 refine rc 2 [4,5] hs ?_;intro K2 b
 refine Ax _ (UF w0 n _ _ _ a0 214 [.box (B.length+1) 0] (fun (x0:Int × ByteArray × Int × Ty × List Vl)=>some (IM x0 a1)) (fun x0 r hx g rows' hB' f=>by cases hx;exact TZ w0 _ _ _ x0 _ a1 (Di hB' ev)) _ hy3) (hv hs) ?_
 refine ne hs b ?_
 clear b
 exact rt h hs a e
end Go.Proofs.YtmcnjijeocmkgaaGreatDoor
namespace Go.Ev
open Go Go.RowKit
def Mem.start:Mem:=⟨0,0,fun _=>0,fun _=>0,fun _=>0,fun _=>0,fun _=>0,fun _=>0,0,fun _=>0⟩
theorem ZaR (W:World):RelSt W Mem.start ⟨[],[],[]⟩ W where
 below := .refl _ _
 N:=rfl
 NR:=rfl
 top:=fun _ _=>rfl
 inj:=fun _ _ h=>absurd h (Nat.not_lt_zero _)
 box:=fun _ _ h=>by simp at h
 row:=fun _ _ h=>by simp at h
 rowinj:=fun _ _ h=>absurd h (Nat.not_lt_zero _)
 loop:=⟨rfl,fun _ _ h=>absurd h (Nat.not_lt_zero _),fun _ _ h=>by simp at h⟩
theorem QV {P:Program} {f:FuncId} {W:World} {vals:Array Value} {args:List AV} {r:Value} (h:ACalls P W f args ⟨[],[],[]⟩ fun v st=>v = .val r∧st=⟨[],[],[]⟩) (hr:RowR W Mem.start W vals args) :
  Calls P f vals W fun e w'=>e = .returned r∧Below W.heap.size W w' :=
 (h.2 Mem.start W vals (ZaR W) hr).mono fun en w' ⟨v,M',a,st,h1,⟨h2,_⟩,_,h4,h5⟩=>by
  subst h2
  have:=h5.val_inv.1
  subst this
  exact ⟨h1,h4.below⟩
theorem Zcv {W:World} {v:Value} {x:AV} (h:R W Mem.start W v x):RowR W Mem.start W #[v] [x]:=⟨rfl,fun i b a=>by
 obtain rfl:i=0:=by simp at a;exact a
 exact h⟩
end Go.Ev
namespace Go.Proofs.YtmcnjijeocmkgaaGreatDoor
open Go Go.Shelf Go.ChangeShapes Go.WideShapes Go.ChangeAt Go.RowKit Go.Lib Go.Ev
open Go.ChangeMaps (open_string shut_string)
set_option maxRecDepth 100000
theorem Zev:ownKnob Tryz.prog.godebug=none:=by kernel_rfl
def Zie:DataW Unit→List Value
 | .lit (.int k z)=>[.int k z]
 | .agg l=>l.flatMap fun | .lit (.int k z)=>[.int k z] | _=>[]
 | _=>[]
def Zix:DataW Unit→List Value
 | .agg l=>l.flatMap Zie
 | _=>[]
theorem Tm {W:World} (h:Lib.VarReads Tryz.prog W N3 Rows.laid_internal_strconv_uint64pow10):Pow10 W:=by
 obtain ⟨g,t,cs,a,p,d,c,f,b⟩:=h
 obtain rfl:=Option.some.inj ((show Tryz.prog.globalNamed N3=some 4 by kernel_rfl).symm.trans d)
 obtain rfl:=Option.some.inj ((show (Tryz.prog.globals[4]?).map (·.type)=some 339 by kernel_rfl).symm.trans c)
 have e:(Rows.laid_internal_strconv_uint64pow10:DataW Unit)=Lib.tabData .u64 Lib.pow10Tab:=by kernel_rfl
 rw [e] at b
 unfold Pow10 Lib.TabIs
 rw [f,←Lib.cells_of_tab (n:=20) (k := .u64) (zs:=Lib.pow10Tab) Tryz.underlying339 Tryz.underlying301 (by kernel_rfl) (by kernel_rfl) b]
set_option maxRecDepth 100000
mutual
def Vl.wf:Vl→Prop
 | .mk k i s t l f=>Bg k∧Bg i∧Bg s∧t.size≤maxLen∧l.length≤maxLen∧f.length≤maxLen∧Zcg l∧ZcI f
def Zcg:List Vl→Prop
 | []=>True
 | v::r=>v.wf∧Zcg r
def ZcI:List (ByteArray × Vl)→Prop
 | []=>True
 | (n,v)::r=>n.size≤maxLen∧v.wf∧ZcI r
end
theorem WP:∀ l,Zcg l↔∀ v∈l,v.wf
 | []=>by simp [Zcg]
 | v::r=>by simp [Zcg,WP r]
theorem X8:∀ l,ZcI l↔∀ p∈l,p.1.size≤maxLen∧p.2.wf
 | []=>by simp [ZcI]
 | (n,v)::r=>by simp [ZcI,X8 r,and_assoc]
mutual
def Ty.wf:Ty→Prop
 | .mk k lo hi s w e f=>Bg k∧Bg lo∧Bg hi∧Bg s∧(∀ x∈w,x.size≤maxLen)∧w.length≤maxLen∧e.length≤maxLen∧f.length≤maxLen∧ZbV e∧W5 f
def ZbV:List Ty→Prop
 | []=>True
 | v::r=>v.wf∧ZbV r
def W5:List (Int × ByteArray × Int × Ty × List Vl)→Prop
 | []=>True
 | (n,s,d,t,l)::r=>(Bg n∧s.size≤maxLen∧Bg d∧t.wf∧l.length≤maxLen∧∀ v∈l,v.wf)∧W5 r
end
theorem Xg:∀ l,ZbV l↔∀ v∈l,v.wf
 | []=>by simp [ZbV]
 | v::r=>by simp [ZbV,Xg r]
theorem Uu:∀ l,W5 l↔∀ p∈l,Bg p.1∧p.2.1.size≤maxLen∧Bg p.2.2.1∧p.2.2.2.1.wf∧p.2.2.2.2.length≤maxLen∧∀ v∈p.2.2.2.2,v.wf
 | []=>by simp [W5]
 | (n,s,d,t,l)::r=>by simp [W5,Uu r]
mutual
def Vl.bulk:Vl→Nat
 | .mk _ _ _ t l f=>1+t.size+O0 l+VV f
def O0:List Vl→Nat
 | []=>0
 | v::r=>v.bulk+O0 r
def VV:List (ByteArray × Vl)→Nat
 | []=>0
 | (n,v)::r=>n.size+v.bulk+VV r
end
def V4:List ByteArray→Nat
 | []=>0
 | w::r=>w.size+1+V4 r
mutual
def Ty.bulk:Ty→Nat
 | .mk _ _ _ _ w e f=>1+V4 w+Wx e+Ri f
def Wx:List Ty→Nat
 | []=>0
 | v::r=>v.bulk+Wx r
def Ri:List (Int × ByteArray × Int × Ty × List Vl)→Nat
 | []=>0
 | (_,n,_,t,l)::r=>n.size+t.bulk+O0 l+Ri r
end
theorem OW:∀ l,O0 l=(l.map Vl.bulk).sum
 | []=>rfl
 | v::r=>by rw [O0,OW r];rfl
theorem TP:∀ l,VV l=(l.map fun p=>p.1.size+p.2.bulk).sum
 | []=>rfl
 | (n,v)::r=>by rw [VV,TP r];rfl
theorem R9:∀ l,V4 l=(l.map fun w=>w.size+1).sum
 | []=>rfl
 | v::r=>by rw [V4,R9 r];rfl
theorem SG:∀ l,Wx l=(l.map Ty.bulk).sum
 | []=>rfl
 | v::r=>by rw [Wx,SG r];rfl
theorem QG:∀ l,Ri l=(l.map fun p=>p.2.1.size+p.2.2.2.1.bulk+O0 p.2.2.2.2).sum
 | []=>rfl
 | (a,n,b,t,l)::r=>by rw [Ri,QG r];rfl
def Part.wf (p:Part):Prop:=Bg p.kind∧Bg p.index∧p.name.size≤maxLen
def Sch.wf (s:Sch):Prop:=s.name.size≤maxLen∧Bg s.version∧s.type.wf
section
variable {H:Type} {enc:TypeId × Value→H} {W:World}
def RC (W:World) (cs:List Value) (xs:List AV):Prop:=cs.length=xs.length∧∀ i (h1:i<cs.length) (h2:i<xs.length),R W Mem.start W cs[i] xs[i]
theorem RC.nil:RC W [] []:=⟨rfl,fun i a=>absurd a (by simp)⟩
theorem RC.cons {v:Value} {x:AV} {cs:List Value} {xs:List AV} (h:R W Mem.start W v x) (k:RC W cs xs):RC W (v::cs) (x::xs):=⟨by simp [k.1],fun i a b=>by
 cases i with
 | zero=>exact h
 | succ i=>simpa using k.2 i (by simpa using a) (by simpa using b)⟩
theorem RC.app {cs ds:List Value} {xs ys:List AV} (h:RC W cs xs) (k:RC W ds ys):RC W (cs++ds) (xs++ys):=by
 refine ⟨by simp [h.1,k.1],fun i a b=>?_⟩
 by_cases c:i<cs.length
 ·rw [List.getElem_append_left c,List.getElem_append_left (h.1▸c)];exact h.2 i c _
 ·rw [List.getElem_append_right (Nat.le_of_not_lt c),List.getElem_append_right (h.1▸Nat.le_of_not_lt c)]
  simp only [h.1]
  exact k.2 _ (by have:=h.1;rw [List.length_append] at a;omega) (by have:=h.1;rw [List.length_append] at b;omega)
theorem RC.agg {cs:List Value} {xs:List AV} (h:RC W cs xs) (h1:∀ x∈xs,x.one=true):R W Mem.start W (.agg cs.toArray) (.agg xs) := .agg (by simpa using h.1) h1 (fun i a b=>by simpa using h.2 i (by simpa using a) b)
noncomputable abbrev Td (enc:TypeId × Value→H) (W:World) (n:Nat) (t:TypeId) (cs:List Value):Option (DataW H × List MemPlace):=DataW.trod enc Tryz.prog W 0 (fun _=>true) true n t cs
theorem P9 (d:DataW H):1≤Rows.uptoBulk d:=by
 cases d with
 | lit l=>cases l<;>simp [Rows.uptoBulk]
 | _=>simp [Rows.uptoBulk]
theorem Uz {α:Type} (m:α→Nat):∀ (l:List α) (es:List (DataW H × List MemPlace)),l.length=es.length→(∀ i (h1:i<l.length) (h2:i<es.length),m l[i]≤Rows.uptoBulk es[i].1)→(l.map m).sum≤Rows.uptoBulkAll (es.map (·.1))
 | [],_,_,_=>by simp
 | y::r,[],h,_=>by simp at h
 | y::r,e::es,h,k=>by
  have a:=k 0 (by simp) (by simp)
  have:=Uz m r es (by simpa using h) (fun i h1 h2=>by have:=k (i+1) (by simpa using h1) (by simpa using h2);simpa using this)
  simp only [List.map_cons,List.sum_cons,Rows.uptoBulkAll,List.getElem_cons_zero] at a ⊢
  omega
theorem LL {n:Nat} {cs:List Value} {x:DataW H × List MemPlace} (h:Td enc W n 3 cs=some x):∃ z,Bg z∧cs=[.int .i64 z]:=by
 obtain ⟨z,rfl,_,a⟩:=DataW.trod_int Tryz.underlying3 h
 refine ⟨z,?_,rfl⟩
 simp [Lit.wf,IntKind.min,IntKind.max,IntKind.signed,IntKind.bits] at a
 unfold Bg
 omega
theorem V8 {n:Nat} {cs:List Value} {x:DataW H × List MemPlace} (h:Td enc W n 9 cs=some x):∃ s:ByteArray,s.size≤maxLen∧cs=[.string s]∧s.size+1≤Rows.uptoBulk x.1:=by
 obtain ⟨s,rfl,rfl,a⟩:=DataW.trod_string Tryz.underlying9 h
 exact ⟨s,a,rfl,by simp [Rows.uptoBulk]⟩
theorem LG {α:Type} (f:α→AV) (p:α→Prop) (m:α→Nat) {t e:TypeId} {sz:Nat} (ht:Tryz.prog.underlying t=some (.slice e)) (hc:Tryz.prog.cellsOf e=sz) (hsz:0<sz) {n:Nat}
  (H0:∀ cs x,Td enc W n e cs=some x→∃ y u,p y∧u.cells.toList=cs∧R W Mem.start W u (f y)∧m y≤Rows.uptoBulk x.1) {cs:List Value} {x:DataW H × List MemPlace} (h:Td enc W (n+1) t cs=some x) :
  ∃ (l:List α) (v:Value),(∀ y∈l,p y)∧l.length≤maxLen∧cs=[v]∧R W Mem.start W v (.list (l.map f) .none)∧(l.map m).sum+1≤Rows.uptoBulk x.1:=by
 rcases DataW.trod_slice ht h with ⟨rfl,_⟩ | ⟨a,len,cap,elems,rest,n',hn,rfl,rfl,hb,hl,hm,hlen,hel,hsp,_⟩
 ·exact ⟨[],_,by simp,by simp,rfl,.nil (fun id=>by simp),by simpa using P9 x.1⟩
 ·cases hn
  by_cases hcap:cap=0
  ·subst hcap
   obtain rfl:len=0:=by omega
   exact ⟨[],_,by simp,by simp,rfl,.emp (fun id=>by simp),by simpa using P9 _⟩
  have hspot:a.spot=none:=by
   have get:∀ (c:DataW H × List MemPlace) (r:List Value→Option (DataW H × List MemPlace)),(W.cells? 0 (a.add (0*Tryz.prog.cellsOf e)) (Tryz.prog.cellsOf e)).bind r=some c→a.spot=none:=fun c r hr=>by
    obtain ⟨cs',E,_⟩:=Option.bind_eq_some_iff.1 hr
    obtain ⟨_,D,F⟩:=World.cells?_some E
    have h4:=F 0 (by omega)
    rw [List.getElem?_eq_getElem (by omega)] at h4
    have Z:(a.add (0*Tryz.prog.cellsOf e)).add 0=a:=by simp [Addr.add]
    rw [Z] at h4
    unfold World.cell? at h4
    split at h4
    ·split at h4
     ·cases h4
     ·rename_i q;simpa using q
    ·cases h4
   by_cases h0:0<len
   ·have:=hel 0 h0
    rw [List.getElem?_eq_getElem (by omega)] at this
    exact get _ _ this
   ·obtain ⟨E,D⟩:=hsp rfl
    have:=D 0 (by omega)
    rw [List.getElem?_eq_getElem (by omega)] at this
    obtain rfl:len=0:=by omega
    exact get _ _ this
  obtain ⟨b,off,sp⟩:=a
  simp only at hspot
  subst hspot
  have C:∀ i,i<len→∃ y u,p y∧R W Mem.start W u (f y)∧(∀ h:i<elems.length,m y≤Rows.uptoBulk elems[i].1)∧u.cells.size=sz∧∀ j,j<sz→W.cell? ⟨b,off+i*sz+j,none⟩=u.cells[j]? := fun i k=>by
   have E:=hel i k
   rw [List.getElem?_eq_getElem (by omega)] at E
   obtain ⟨cs',D,F⟩:=Option.bind_eq_some_iff.1 E
   obtain ⟨y,u,h4,Q,Y,N⟩:=H0 _ _ F
   obtain ⟨_,U,O⟩:=World.cells?_some D
   rw [hc] at U O
   refine ⟨y,u,h4,Y,fun _=>N,by rw [←U,←Q,Array.length_toList],fun j G=>?_⟩
   have:=O j G
   rw [←Q,Array.getElem?_toList] at this
   rw [←this]
   congr 1
   have V:∀ (o m:Nat),(⟨b,o,none⟩:Addr).add m=⟨b,o+m,none⟩:=fun o m=>by unfold Addr.add;split<;>simp_all
   rw [V,V]
  classical
  let y:Nat→Option (α × Value):=fun i=>if k:i<len then some (Classical.choose (C i k),Classical.choose (Classical.choose_spec (C i k))) else none
  have K:len=0∨Nonempty (α × Value):=by
   by_cases h0:0<len
   ·obtain ⟨z,u,_⟩:=C 0 h0;exact .inr ⟨(z,u)⟩
   ·exact .inl (by omega)
  rcases K with h0 | ⟨⟨d⟩⟩
  ·subst h0
   exact ⟨[],_,by simp,by simp,rfl,.list (xs:=[]) 0 (fun _=>undef) (Nat.zero_le _) hm (fun i k=>absurd k (by simp)) (fun i k=>absurd k (by simp)) trivial,by simpa using P9 _⟩
  ·let g:Nat→α × Value:=fun i=>if k:i<len then (Classical.choose (C i k),Classical.choose (Classical.choose_spec (C i k))) else d
   have J:∀ i,i<len→p (g i).1∧R W Mem.start W (g i).2 (f (g i).1)∧(∀ h:i<elems.length,m (g i).1≤Rows.uptoBulk elems[i].1)∧(g i).2.cells.size=sz∧∀ j,j<sz→W.cell? ⟨b,off+i*sz+j,none⟩=(g i).2.cells[j]? := fun i k=>by
    have:=Classical.choose_spec (Classical.choose_spec (C i k))
    simp only [g,dif_pos k]
    exact this
   have s:(((List.range len).map fun i=>(g i).1).map f).length=len:=by simp
   refine ⟨(List.range len).map fun i=>(g i).1,.slice (some ⟨b,off,none⟩) len cap,fun z hz=>?_,by simp;omega,rfl,?_,?_⟩
   ·obtain ⟨i,k,rfl⟩:=List.mem_map.1 hz
    exact (J i (by simpa using k)).1
   ·have:=Ev.R.list (w0:=W) (M:=Ev.Mem.start) (w:=W) (b:=b) (off:=off) (cap:=cap) (xs:=((List.range len).map fun i=>(g i).1).map f) (o := .none) sz (fun i=>(g i).2) (by rw [s];exact hl) hm
     (fun i k=>by
      rw [s] at k
      obtain ⟨_,_,_,F,h4⟩:=J i k
      refine ⟨F,fun j G=>⟨.inl ?_,h4 j G⟩⟩
      have:=h4 j G
      rw [Array.getElem?_eq_getElem (by rw [F];exact G)] at this
      exact World.block_lt_of_cell? W _ this) (fun i k=>by
      rw [s] at k
      simp only [List.getElem_map,List.getElem_range]
      exact (J i k).2.1) trivial
    rw [s] at this
    exact this
   ·have:=Uz m ((List.range len).map fun i=>(g i).1) elems (by simp;omega) (fun i E D=>by
     simp only [List.getElem_map,List.getElem_range]
     exact (J i (by omega)).2.2.1 D)
    simp only [Rows.uptoBulk]
    omega
theorem Vl.ones (v:Vl):∀ x∈v.cs,x.one=true:=by
 cases v;intro x hx
 simp only [Vl.cs,List.mem_cons,List.not_mem_nil,or_false] at hx
 rcases hx with rfl | rfl | rfl | rfl | rfl | rfl<;>rfl
theorem Ty.ones (v:Ty):∀ x∈v.cs,x.one=true:=by
 cases v;intro x hx
 simp only [Ty.cs,List.mem_cons,List.not_mem_nil,or_false] at hx
 rcases hx with rfl | rfl | rfl | rfl | rfl | rfl | rfl<;>rfl
theorem Yn:∀ (n:Nat) (cs:List Value) (x:DataW H × List MemPlace),Td enc W n 34 cs=some x→∃ v:Vl,v.wf∧RC W cs v.cs∧v.bulk≤Rows.uptoBulk x.1
 | 0,cs,x,h=>by simp [Td,DataW.trod] at h
 | n+1,cs,x,h=>by
  obtain ⟨xs,U,hn,rfl,e,hx,a⟩:=DataW.trod_struct Tryz.underlying34 h
  cases hn
  have o:cs.length=6:=e.trans (by kernel_rfl)
  have d:xs.length=6:=hx
  match cs,o,xs,d,a with
  | [c0,c1,c2,c3,c4,c5],_,[y0,y1,y2,y3,y4,y5],_,a =>
  have Y:_=some y0:=a 0 _ rfl;have V:_=some y1:=a 1 _ rfl;have f2:_=some y2:=a 2 _ rfl;have f3:_=some y3:=a 3 _ rfl;have J:_=some y4:=a 4 _ rfl;have f5:_=some y5:=a 5 _ rfl
  obtain ⟨k,Q,ek⟩:=LL Y
  obtain ⟨i,O,ei⟩:=LL V
  obtain ⟨s,hs,es⟩:=LL f2
  obtain ⟨t,G,et,bt⟩:=V8 f3
  cases n with
  | zero=>simp [DataW.trod] at J
  | succ n =>
  obtain ⟨l,vl,z,f,el,D,bl⟩:=LG CZ Vl.wf Vl.bulk Tryz.underlying31 (sz:=6) (by kernel_rfl) (by omega) (fun cs x h=>by
   obtain ⟨v,hv,c,K⟩:=Yn n cs x h
   exact ⟨v,.agg cs.toArray,hv,by simp [Value.cells],c.agg v.ones,K⟩) J
  obtain ⟨F,vf,w,u,ef,y,bf⟩:=LG QY (fun p=>p.1.size≤maxLen∧p.2.wf) (fun p=>p.1.size+p.2.bulk) Tryz.underlying32 (sz:=7) (by kernel_rfl) (by omega) (fun cs x h=>by
   cases n with
   | zero=>simp [DataW.trod] at h
   | succ n =>
   obtain ⟨N,U,hn,rfl,e,hx,a⟩:=DataW.trod_struct Tryz.underlying81 h
   cases hn
   have m:cs.length=7:=e.trans (by kernel_rfl)
   have q:N.length=2:=hx
   match N,q,a with
   | [w0,w1],_,a =>
   have Z:_=some w0:=a 0 _ rfl;have q1:_=some w1:=a 1 _ rfl
   obtain ⟨g,b,en,bn⟩:=V8 Z
   obtain ⟨v,hv,c,K⟩:=Yn n _ _ q1
   have e2:Tryz.prog.cellsOf 34=6:=by kernel_rfl
   have e3:Tryz.prog.cellsOf 9=1:=by kernel_rfl
   simp only [List.getElem_toArray,List.getElem_cons_zero,List.getElem_cons_succ,e2,e3] at en c
   match cs,m with
   | [c0,c1,c2,c3,c4,c5,c6],_ =>
   simp only [List.drop_zero,List.take_succ_cons,List.take_zero,List.cons.injEq,and_true,List.drop_succ_cons] at en c
   subst en
   refine ⟨(g,v),.agg #[.string g,c1,c2,c3,c4,c5,c6],⟨b,hv⟩,rfl,?_,by simp only [List.map_cons,List.map_nil,Rows.uptoBulk,Rows.uptoBulkAll];omega⟩
   exact RC.agg (cs:=[.string g,c1,c2,c3,c4,c5,c6]) (.cons (.flat (Ah b)) c) (fun x hx=>by
    rcases List.mem_cons.1 hx with rfl | hx
    ·rfl
    ·exact v.ones x hx)) f5
  have r:Tryz.prog.cellsOf 3=1:=by kernel_rfl
  have C:Tryz.prog.cellsOf 9=1:=by kernel_rfl
  have E:Tryz.prog.cellsOf 31=1:=by kernel_rfl
  have j:Tryz.prog.cellsOf 32=1:=by kernel_rfl
  simp only [List.getElem_toArray,List.getElem_cons_zero,List.getElem_cons_succ,r,C,E,j,List.drop_zero,List.take_succ_cons,List.take_zero,List.cons.injEq,and_true,List.drop_succ_cons] at ek ei es et el ef
  subst ek ei es et el ef
  refine ⟨.mk k i s t l F,?_,?_,by simp only [List.map_cons,List.map_nil,Rows.uptoBulk,Rows.uptoBulkAll,Vl.bulk,OW,TP];omega⟩
  ·unfold Vl.wf
   exact ⟨Q,O,hs,G,f,u,(WP l).2 z,(X8 F).2 w⟩
  ·rw [Vl.cs,RS,Xw]
   exact .cons (.flat rfl) (.cons (.flat rfl) (.cons (.flat rfl) (.cons (.flat (Ah G)) (.cons D (.cons y .nil)))))
theorem Ze:∀ (n:Nat) (cs:List Value) (x:DataW H × List MemPlace),Td enc W n 26 cs=some x→∃ v:Ty,v.wf∧RC W cs v.cs∧v.bulk≤Rows.uptoBulk x.1
 | 0,cs,x,h=>by simp [Td,DataW.trod] at h
 | n+1,cs,x,h=>by
  obtain ⟨xs,n',hn,rfl,g,hx,a⟩:=DataW.trod_struct Tryz.underlying26 h
  cases hn
  have z:cs.length=7:=g.trans (by kernel_rfl)
  have l:xs.length=7:=hx
  match cs,z,xs,l,a with
  | [c0,c1,c2,c3,c4,c5,c6],_,[y0,y1,y2,y3,y4,y5,y6],_,a =>
  have f0:_=some y0:=a 0 _ rfl;have f1:_=some y1:=a 1 _ rfl;have f2:_=some y2:=a 2 _ rfl;have f3:_=some y3:=a 3 _ rfl;have f4:_=some y4:=a 4 _ rfl;have f5:_=some y5:=a 5 _ rfl;have f6:_=some y6:=a 6 _ rfl
  obtain ⟨k,hk,ek⟩:=LL f0
  obtain ⟨lo,o,elo⟩:=LL f1
  obtain ⟨hi,K,ehi⟩:=LL f2
  obtain ⟨s,hs,es⟩:=LL f3
  cases n with
  | zero=>simp [DataW.trod] at f4
  | succ n =>
  obtain ⟨w,vw,q,i,ew,E,bw⟩:=LG C0 (fun s=>s.size≤maxLen) (fun w=>w.size+1) Tryz.underlying22 (sz:=1) (by kernel_rfl) (by omega) (fun cs x h=>by
   obtain ⟨s,hs,rfl,e⟩:=V8 h
   exact ⟨s,.string s,hs,rfl,.flat (Ah hs),e⟩) f4
  obtain ⟨el,ve,Q,G,ee,j,be⟩:=LG IX Ty.wf Ty.bulk Tryz.underlying23 (sz:=7) (by kernel_rfl) (by omega) (fun cs x h=>by
   obtain ⟨v,hv,b,e⟩:=Ze n cs x h
   exact ⟨v,.agg cs.toArray,hv,by simp [Value.cells],b.agg v.ones,e⟩) f5
  obtain ⟨fl,vf,O,N,ef,U,bf⟩:=LG BS (fun p=>Bg p.1∧p.2.1.size≤maxLen∧Bg p.2.2.1∧p.2.2.2.1.wf∧p.2.2.2.2.length≤maxLen∧∀ v∈p.2.2.2.2,v.wf) (fun p=>p.2.1.size+p.2.2.2.1.bulk+O0 p.2.2.2.2) Tryz.underlying24 (sz:=11) (by kernel_rfl) (by omega) (fun cs x h=>by
   cases n with
   | zero=>simp [DataW.trod] at h
   | succ n =>
   obtain ⟨ys,n',hn,rfl,g,hx,a⟩:=DataW.trod_struct Tryz.underlying95 h
   cases hn
   have c:cs.length=11:=g.trans (by kernel_rfl)
   have m:ys.length=5:=hx
   match ys,m,a with
   | [w0,w1,w2,w3,w4],_,a =>
   have q0:_=some w0:=a 0 _ rfl;have q1:_=some w1:=a 1 _ rfl;have q2:_=some w2:=a 2 _ rfl;have q3:_=some w3:=a 3 _ rfl;have q4:_=some w4:=a 4 _ rfl
   obtain ⟨u,D,enu⟩:=LL q0
   obtain ⟨f,d,en,bn⟩:=V8 q1
   obtain ⟨Y,F,end'⟩:=LL q2
   obtain ⟨v,hv,b,aa⟩:=Ze n _ _ q3
   cases n with
   | zero=>simp [DataW.trod] at q4
   | succ n =>
   obtain ⟨dl,vd,r,C,ed,t,bd⟩:=LG CZ Vl.wf Vl.bulk Tryz.underlying31 (sz:=6) (by kernel_rfl) (by omega) (fun cs x h=>by
    obtain ⟨v,hv,b,e⟩:=Yn n cs x h
    exact ⟨v,.agg cs.toArray,hv,by simp [Value.cells],b.agg v.ones,e⟩) q4
   have e1:Tryz.prog.cellsOf 3=1:=by kernel_rfl
   have e2:Tryz.prog.cellsOf 26=7:=by kernel_rfl
   have e3:Tryz.prog.cellsOf 9=1:=by kernel_rfl
   have e4:Tryz.prog.cellsOf 31=1:=by kernel_rfl
   simp only [List.getElem_toArray,List.getElem_cons_zero,List.getElem_cons_succ,e1,e2,e3,e4] at enu en end' b ed
   match cs,c with
   | [c0,c1,c2,c3,c4,c5,c6,c7,c8,c9,c10],_ =>
   simp only [List.drop_zero,List.take_succ_cons,List.take_zero,List.cons.injEq,and_true,List.drop_succ_cons] at enu en end' b ed
   subst enu en end' ed
   refine ⟨(u,f,Y,v,dl),.agg #[.int .i64 u,.string f,.int .i64 Y,c3,c4,c5,c6,c7,c8,c9,c10],⟨D,d,F,hv,C,r⟩,rfl,?_,by simp only [List.map_cons,List.map_nil,Rows.uptoBulk,Rows.uptoBulkAll,OW];omega⟩
   exact RC.agg (cs:=[.int .i64 u,.string f,.int .i64 Y]++([c3,c4,c5,c6,c7,c8,c9]++[c10])) (.cons (.flat rfl) (.cons (.flat (show FB (.string f)=true from Ah d)) (.cons (.flat rfl) (b.app (.cons t .nil))))) (fun x hx=>by
    simp only [List.mem_cons,List.mem_append,List.not_mem_nil,or_false] at hx
    rcases hx with rfl | rfl | rfl | hx | rfl
    ·rfl
    ·rfl
    ·rfl
    ·exact v.ones x hx
    ·rfl)) f6
  have J:Tryz.prog.cellsOf 3=1:=by kernel_rfl
  have V:Tryz.prog.cellsOf 22=1:=by kernel_rfl
  have Z:Tryz.prog.cellsOf 23=1:=by kernel_rfl
  have y:Tryz.prog.cellsOf 24=1:=by kernel_rfl
  simp only [List.getElem_toArray,List.getElem_cons_zero,List.getElem_cons_succ,J,V,Z,y,List.drop_zero,List.take_succ_cons,List.take_zero,List.cons.injEq,and_true,List.drop_succ_cons] at ek elo ehi es ew ee ef
  subst ek elo ehi es ew ee ef
  refine ⟨.mk k lo hi s w el fl,?_,?_,by simp only [List.map_cons,List.map_nil,Rows.uptoBulk,Rows.uptoBulkAll,Ty.bulk,R9,SG,QG];omega⟩
  ·unfold Ty.wf
   exact ⟨hk,o,K,hs,q,i,G,N,(Xg el).2 Q,(Uu fl).2 O⟩
  ·rw [Ty.cs,Xm,Ux,Zb3]
   exact .cons (.flat rfl) (.cons (.flat rfl) (.cons (.flat rfl) (.cons (.flat rfl) (.cons E (.cons j (.cons U .nil))))))
end
section
variable {H:Type} {enc:TypeId × Value→H} {W:World} {base:Nat} {v:Value} {d:DataW H} {p:List MemPlace}
theorem Zga {t:TypeId} {fs:Array Field} (ht:Tryz.prog.underlying t=some (.struct fs)) (hv:Value.okWide Tryz.prog W .any base t v):∃ cs,v = .agg cs:=by
 unfold Value.okWide at hv
 rw [ht] at hv
 obtain ⟨cs,h,_⟩:=hv
 exact ⟨cs,h⟩
theorem ZgC (hv:Value.okWide Tryz.prog W .any base 26 v) (h:DataW.Trod enc Tryz.prog W 0 (fun _=>true) true 26 v d p):∃ t:Ty,t.wf∧R W Mem.start W v (.agg t.cs)∧t.bulk≤Rows.uptoBulk d:=by
 obtain ⟨cs,rfl⟩:=Zga Tryz.underlying26 hv
 obtain ⟨n,c⟩:=h
 obtain ⟨t,b,e,a⟩:=Ze n _ _ c
 exact ⟨t,b,by simpa [Value.cells] using e.agg t.ones,a⟩
end
end Go.Proofs.YtmcnjijeocmkgaaGreatDoor
namespace Go.Proofs.YtmcnjijeocmkgaaGreatDoor
open Go Go.RowKit Go.Ev
theorem AN {α:Type} {l:List α} {k:Nat} (h:k<l.length):Cj l (k:Int)=some l[k]:=ZgA h
theorem AU {a b:Nat}:decide ((a:Int)<(b:Int))=decide (a<b):=by simp
theorem AW {k:Nat} (h:k<1000000000000):Bg ((k:Int)+1):=by unfold Bg;omega
theorem Ty.size_pos (t:Ty):0<t.size:=by cases t;simp [Ty.size];omega
theorem Ty.size_eq (t:Ty):t.size=1+Fh t.elem+DD t.fields:=by cases t;simp [Ty.size,Ty.elem,Ty.fields]
theorem Sl:∀ (l:List Ty) (v:Ty),v∈l→v.size≤Fh l
 | [],_,h=>by simp at h
 | a::r,v,h=>by
  rcases List.mem_cons.1 h with rfl | h
  ·simp [Fh]
  ·have:=Sl r v h
   simp [Fh];omega
theorem QO:∀ (l:List (Int × ByteArray × Int × Ty × List Vl)) (p:Int × ByteArray × Int × Ty × List Vl),p∈l→p.2.2.2.1.size≤DD l
 | [],_,h=>by simp at h
 | (a,b,c,t,d)::r,p,h=>by
  rcases List.mem_cons.1 h with rfl | h
  ·simp [DD]
  ·have:=QO r p h
   simp [DD];omega
theorem RL:∀ l:List Ty,l.length≤Fh l
 | []=>Nat.le_refl _
 | v::r=>by have:=RL r;have:=v.size_pos;simp [Fh];omega
theorem Qx:∀ l:List (Int × ByteArray × Int × Ty × List Vl),l.length≤DD l
 | []=>Nat.le_refl _
 | (_,_,_,t,_)::r=>by have:=Qx r;have:=t.size_pos;simp [DD];omega
theorem Ty.elem_size (t x:Ty) (h:x∈t.elem):x.size<t.size:=by have:=Sl _ _ h;have:=t.size_eq;omega
theorem Ty.field_size (t:Ty) (p) (h:p∈t.fields):p.2.2.2.1.size<t.size:=by have:=QO _ _ h;have:=t.size_eq;omega
theorem Ty.lens (t:Ty):t.elem.length<t.size∧t.fields.length<t.size:=by have:=RL t.elem;have:=Qx t.fields;have:=t.size_eq;omega
theorem Vl.list_size (v x:Vl) (h:x∈v.list):x.size<v.size:=by have:=LJ _ _ h;have:=v.size_eq;omega
theorem Vl.field_size (v:Vl) (p) (h:p∈v.fields):p.2.size<v.size:=by have:=L8 _ _ h;have:=v.size_eq;omega
mutual
def Ty.depth:Ty→Nat
 | .mk _ _ _ _ _ e f=>1+max (GT e) (E2 f)
def GT:List Ty→Nat
 | []=>0
 | t::r=>max t.depth (GT r)
def E2:List (Int × ByteArray × Int × Ty × List Vl)→Nat
 | []=>0
 | (_,_,_,t,_)::r=>max t.depth (E2 r)
end
mutual
def Vl.ok:Vl→Prop
 | .mk _ _ _ t l f=>t.size≤1048576∧ZaL l∧ZaO f
def ZaL:List Vl→Prop
 | []=>True
 | v::r=>v.ok∧ZaL r
def ZaO:List (ByteArray × Vl)→Prop
 | []=>True
 | (n,v)::r=>n.size≤1048576∧v.ok∧ZaO r
end
theorem W4:∀ l,ZaL l↔∀ v∈l,v.ok
 | []=>by simp [ZaL]
 | v::r=>by simp [ZaL,W4 r]
theorem XW:∀ l,ZaO l↔∀ p∈l,p.1.size≤1048576∧p.2.ok
 | []=>by simp [ZaO]
 | (n,v)::r=>by simp [ZaO,XW r,and_assoc]
def Vl.small (v:Vl):Prop:=v.size≤1048575∧v.depth≤1048576∧v.ok
mutual
def Ty.ok:Ty→Prop
 | .mk _ _ _ _ w e f=>w.length≤1048576∧(∀ x∈w,x.size≤1048576)∧Zb7 e∧WQ f
def Zb7:List Ty→Prop
 | []=>True
 | v::r=>v.ok∧Zb7 r
def WQ:List (Int × ByteArray × Int × Ty × List Vl)→Prop
 | []=>True
 | (_,n,_,t,d)::r=>(n.size≤1048576∧t.ok∧d.length≤1048576∧∀ v∈d,v.small)∧WQ r
end
theorem X0:∀ l,Zb7 l↔∀ v∈l,v.ok
 | []=>by simp [Zb7]
 | v::r=>by simp [Zb7,X0 r]
theorem UE:∀ l,WQ l↔∀ p∈l,p.2.1.size≤1048576∧p.2.2.2.1.ok∧p.2.2.2.2.length≤1048576∧∀ v∈p.2.2.2.2,v.small
 | []=>by simp [WQ]
 | (_,n,_,t,d)::r=>by simp [WQ,UE r]
theorem Ty.ok_eq (t:Ty):t.ok↔t.words.length≤1048576∧(∀ x∈t.words,x.size≤1048576)∧(∀ v∈t.elem,v.ok)∧∀ p∈t.fields,p.2.1.size≤1048576∧p.2.2.2.1.ok∧p.2.2.2.2.length≤1048576∧∀ v∈p.2.2.2.2,v.small:=by
 cases t;simp only [Ty.ok,Ty.words,Ty.elem,Ty.fields,X0,UE]
theorem Vl.ok_eq (v:Vl):v.ok↔v.text.size≤1048576∧(∀ x∈v.list,x.ok)∧∀ p∈v.fields,p.1.size≤1048576∧p.2.ok:=by
 cases v;simp only [Vl.ok,Vl.text,Vl.list,Vl.fields,W4,XW]
theorem Iw:∀ (l:List Ty) (d:Nat),GT l≤d↔∀ v∈l,v.depth≤d
 | [],d=>by simp [GT]
 | v::r,d=>by simp [GT,Nat.max_le,Iw r d]
theorem Hr:∀ (l:List (Int × ByteArray × Int × Ty × List Vl)) (d:Nat),E2 l≤d↔∀ v∈l,v.2.2.2.1.depth≤d
 | [],d=>by simp [E2]
 | (_,_,_,t,_)::r,d=>by simp [E2,Nat.max_le,Hr r d]
theorem Ty.depth_eq (t:Ty):t.depth=1+Max.max (GT t.elem) (E2 t.fields):=by cases t;simp [Ty.depth,Ty.elem,Ty.fields]
theorem Vl.eta (v:Vl):Vl.mk v.kind v.int v.scale v.text v.list v.fields=v:=by cases v;rfl
theorem Ty.eta (v:Ty):Ty.mk v.kind v.min v.max v.scale v.words v.elem v.fields=v:=by cases v;rfl
theorem Su (rec:Vl→Option Vl) (n:Nat) (v:Vl) (hs:v.fields.length≤1000000000000) (hr:∀ p∈v.fields,rec p.2=some p.2) (b:List Vl):∀ (k m i:Nat),i+k=v.fields.length→k<m→FO rec n v m i b (v.fields.take i)=some (Vl.mk v.kind v.int v.scale v.text b v.fields)
 | k,0,i,_,h=>absurd h (Nat.not_lt_zero _)
 | 0,m+1,i,hi,_=>by
  rw [FO,AU,Ac]
  simp only [Bool.false_eq_true,if_false,KE]
  rw [List.take_of_length_le (by omega)]
 | k+1,m+1,i,hi,hm=>by
  have a:i<v.fields.length:=by omega
  rw [FO,AU,Ah a]
  simp only [if_true,AN a,Af,hr _ (List.getElem_mem a)]
  rw [Ai (by rw [List.length_take];omega),Ai (AW (by omega))]
  have e:v.fields.take i++[(v.fields[i].1,v.fields[i].2)]=v.fields.take (i+1):=by rw [List.take_succ_eq_append_getElem a]
  rw [e]
  exact Su rec n v hs hr b k m (i+1) (by omega) (by omega)
theorem UN (rec:Vl→Option Vl) (n:Nat) (v:Vl) (hs:v.fields.length≤1000000000000∧v.list.length≤1000000000000) (hn:v.fields.length<n) (hr:(∀ x∈v.list,rec x=some x)∧∀ p∈v.fields,rec p.2=some p.2):∀ (k m i:Nat),i+k=v.list.length→k<m→G1 rec n v m i (v.list.take i)=some v
 | k,0,i,_,h=>absurd h (Nat.not_lt_zero _)
 | 0,m+1,i,hi,_=>by
  rw [G1,AU,Ac]
  simp only [Bool.false_eq_true,if_false,MC]
  rw [List.take_of_length_le (by omega)]
  have:=Su rec n v hs.1 hr.2 v.list v.fields.length n 0 (by omega) hn
  rw [List.take_zero] at this
  exact this.trans (by rw [Vl.eta])
 | k+1,m+1,i,hi,hm=>by
  have a:i<v.list.length:=by omega
  rw [G1,AU,Ah a]
  simp only [if_true,AN a,Af,hr.1 _ (List.getElem_mem a)]
  rw [Ai (by rw [List.length_take];omega),Ai (AW (by omega))]
  have e:v.list.take i++[v.list[i]]=v.list.take (i+1):=by rw [List.take_succ_eq_append_getElem a]
  rw [e]
  exact UN rec n v hs hn hr k m (i+1) (by omega) (by omega)
theorem OQ:∀ (n:Nat) (v:Vl),v.size<n→v.wide=true→C5 n v=some v
 | 0,v,h,_=>absurd h (Nat.not_lt_zero _)
 | n+1,v,h,hs=>by
  have f:=NU v
  obtain ⟨g,e,c,d⟩:=v.wide_iff.1 hs
  rw [C5,N5]
  have:=UN (C5 n) n v ⟨by omega,by omega⟩ (by omega) ⟨fun x b=>OQ n x (by have:=v.list_size x b;omega) (c x b),fun p a=>OQ n p.2 (by have:=v.field_size p a;omega) (d p a)⟩ v.list.length n 0 (by omega) (by omega)
  rw [List.take_zero] at this
  exact this
theorem P4 (n:Nat) (v:Vl) (h:v.size<n) (hs:v.size≤1000000000):C5 n v=some v:=OQ n v h (HB _ v (Nat.le_refl _) (by omega))
abbrev TF:=Int × ByteArray × Int × Ty × List Vl
theorem Zv (rec:Ty→Option Ty) (n:Nat) (p:TF) (y:Ty) (hs:p.2.2.2.2.length≤1000000000) (hr:∀ v∈p.2.2.2.2,C5 n v=some v):∀ (k m i:Nat),i+k=p.2.2.2.2.length→k<m→CJ rec n p y m (p.2.2.2.2.take i) i=some (p.1,p.2.1,p.2.2.1,y,p.2.2.2.2)
 | k,0,i,_,h=>absurd h (Nat.not_lt_zero _)
 | 0,m+1,i,hi,_=>by
  rw [CJ,AU,Ac]
  simp only [Bool.false_eq_true,if_false,GR]
  rw [List.take_of_length_le (by omega)]
 | k+1,m+1,i,hi,hm=>by
  have a:i<p.2.2.2.2.length:=by omega
  rw [CJ,AU,Ah a]
  simp only [if_true,AN a,Af,hr _ (List.getElem_mem a)]
  rw [Ai (by rw [List.length_take];omega),Ai (AW (by omega))]
  have e:p.2.2.2.2.take i++[p.2.2.2.2[i]]=p.2.2.2.2.take (i+1):=by rw [List.take_succ_eq_append_getElem a]
  rw [e]
  exact Zv rec n p y hs hr k m (i+1) (by omega) (by omega)
theorem Zcq (rec:Ty→Option Ty) (n:Nat) (p:TF) (hs:p.2.2.2.2.length≤1000000000) (hn:p.2.2.2.2.length<n) (hr:∀ v∈p.2.2.2.2,C5 n v=some v) (ht:rec p.2.2.2.1=some p.2.2.2.1):CU rec n p=some p:=by
 rw [CU,ht]
 simp only [Af]
 rw [Ab]
 have:=Zv rec n p p.2.2.2.1 hs hr p.2.2.2.2.length n 0 (by omega) hn
 rw [List.take_zero] at this
 exact this
theorem TJ (rec:Ty→Option Ty) (n:Nat) (t:Ty) (hw:t.words.length≤1000000000) (hs:t.fields.length≤1000000000) (hr:∀ p∈t.fields,CU rec n p=some p) (e:List Ty):∀ (k m i:Nat),i+k=t.fields.length→k<m→F9 rec n t m e (t.fields.take i) i=some (Ty.mk t.kind t.min t.max t.scale t.words e t.fields)
 | k,0,i,_,h=>absurd h (Nat.not_lt_zero _)
 | 0,m+1,i,hi,_=>by
  rw [F9,AU,Ac]
  simp only [Bool.false_eq_true,if_false,Kw]
  rw [List.take_of_length_le (by omega),Ab]
 | k+1,m+1,i,hi,hm=>by
  have a:i<t.fields.length:=by omega
  rw [F9,AU,Ah a]
  simp only [if_true,AN a,Af,hr _ (List.getElem_mem a)]
  rw [Ai (by rw [List.length_take];omega),Ai (AW (by omega))]
  have b:t.fields.take i++[t.fields[i]]=t.fields.take (i+1):=by rw [List.take_succ_eq_append_getElem a]
  rw [b]
  exact TJ rec n t hw hs hr e k m (i+1) (by omega) (by omega)
theorem UM (rec:Ty→Option Ty) (n:Nat) (t:Ty) (hw:t.words.length≤1000000000) (hs:t.fields.length≤1000000000∧t.elem.length≤1000000000) (hn:t.fields.length<n) (hr:(∀ x∈t.elem,rec x=some x)∧∀ p∈t.fields,CU rec n p=some p):∀ (k m i:Nat),i+k=t.elem.length→k<m→G7 rec n t m (t.elem.take i) i=some t
 | k,0,i,_,h=>absurd h (Nat.not_lt_zero _)
 | 0,m+1,i,hi,_=>by
  rw [G7,AU,Ac]
  simp only [Bool.false_eq_true,if_false,LS]
  rw [List.take_of_length_le (by omega),Ab]
  have:=TJ rec n t hw hs.1 hr.2 t.elem t.fields.length n 0 (by omega) hn
  rw [List.take_zero] at this
  exact this.trans (by rw [Ty.eta])
 | k+1,m+1,i,hi,hm=>by
  have a:i<t.elem.length:=by omega
  rw [G7,AU,Ah a]
  simp only [if_true,AN a,Af,hr.1 _ (List.getElem_mem a)]
  rw [Ai (by rw [List.length_take];omega),Ai (AW (by omega))]
  have e:t.elem.take i++[t.elem[i]]=t.elem.take (i+1):=by rw [List.take_succ_eq_append_getElem a]
  rw [e]
  exact UM rec n t hw hs hn hr k m (i+1) (by omega) (by omega)
theorem Qp:∀ (n:Nat) (t:Ty),t.size+1400000<n→t.size≤1000000000→t.ok→Gu n t=some t
 | 0,t,h,_,_=>absurd h (Nat.not_lt_zero _)
 | n+1,t,h,hs,hok=>by
  have g:=t.lens
  obtain ⟨f,i,d,e⟩:=t.ok_eq.1 hok
  rw [Gu,NM,Ab]
  have:=UM (Gu n) n t (by omega) ⟨by omega,by omega⟩ (by omega) ⟨fun x a=>Qp n x (by have:=t.elem_size x a;omega) (by have:=t.elem_size x a;omega) (d x a),fun p b=>by
   obtain ⟨_,q2,q3,c⟩:=e p b
   have:=t.field_size p b
   exact Zcq _ n p (by omega) (by omega) (fun v hv=>P4 n v (by have:=(c v hv).1;omega) (by have:=(c v hv).1;omega)) (Qp n _ (by omega) (by omega) q2)⟩ t.elem.length n 0 (by omega) (by omega)
  rw [List.take_zero] at this
  exact this
def Ty.small (t:Ty):Prop:=t.size≤600∧t.depth≤12∧t.ok
section
variable {P:Program} {w0:World} {n:Nat} {l:List Oper} {ef dn:List Nat} {F:St→Prop} {T:Env→St→Prop} {k:Nat} {ev:Env} {s:St}
theorem gm1 {i:Nat} (_:Tg i) (hr:Zi l ef dn=[i]) (hn:(ef.all fun i=>dn.contains i)=false) (hF:F s) (h:∃ o,l[i]? = some o∧o.guard=none∧Js n o.dst∧∃ Post:AV→St→Prop,UI P w0 (BP true l o ev) s o Post∧∀ v s',Post v s'→Ev.Good P w0 n l ef F T k (i::dn) (JA ev o.dst true v) s'):Ev.Good P w0 n l ef F T (k+1) dn ev s :=
 Ev.Good.mk [i] hr hF (fun q=>by rw [hn] at q;cases q) (fun j hj=>by obtain rfl:=List.mem_singleton.1 hj;exact h)
theorem gm0 {L:List Nat} {nb:Nat} {e2:Env} (_:Tg L) (hr:Zi l ef dn=[]) (hF:F s) (hT:Du L ev=e2):Ev.Good P w0 n l ef F (fun ev s'=>Conv w0 n nb ev s' e2 s) (k+1) dn ev s :=
 Ev.Good.mk [] hr hF (fun _=>NW L hT) (fun i hi=>by cases hi)
theorem stI {o:Oper} {v:AV} {s':St} (h:Dw P w0 ev s o v s'):Dw P w0 ev s o v s':=h
theorem kpI {L:List Nat} {e e':Env} (h:Du L e=e'):Du L e=e':=h
end
theorem gd {T F p:Prop} (tL:T) (hs:F) (k:T→F→p:=by
  intro tL hs
  repeat' first
    | ((with_reducible refine gm1 (tgh tL) kr rfl ?_ ?_)<;>replace tL:=tgt tL)
    | (with_reducible apply gm0 tL kr)
    | (apply Ci rfl rfl ev
       case' hs=>((simp +decide only [go_sem,Nat.reduceAdd,Dw,hs]);(repeat' apply Ae)<;>first | rfl | exact cl)
       case' hk=>simp +decide only [go_sem,Nat.reduceAdd,hs])
    | ((with_reducible refine stI ?_);simp +decide only [go_sem,Nat.reduceAdd,Dw,hs];(repeat' apply Ae)<;>first | rfl | exact cl)
    | ((with_reducible apply kpI);first | (simp +decide only [go_sem,Nat.reduceAdd,hs];done) | (simp +decide only [go_sem,Nat.reduceAdd,hs];rfl) | (simp +decide only [go_sem,Nat.reduceAdd,and_self,imp_self,hs];done) | (simp +decide only [go_sem,Nat.reduceAdd,and_self,imp_self,hs];rfl))
    | exact ⟨[],_,rfl⟩
    | exact ⟨[],_,_,rfl⟩
    | exact ⟨[],_,_,_,rfl⟩
    | exact ⟨_,_,rfl⟩
    | exact ⟨_,_,_,rfl⟩
    | exact ⟨[],_,by simp only [List.append_nil,List.nil_append]⟩
    | exact ⟨[],_,_,by simp only [List.append_nil,List.nil_append]⟩
    | exact ⟨_,_,by simp only [List.append_nil,List.nil_append]⟩):p:=k tL hs
def FD (rec:Vl→Int→Option Vl) (n:Nat) (h:Vl) (g:List Vl) (b:List (ByteArray × Vl)):Option Vl :=
 some (Vl.mk h.kind h.int h.scale (h.text.extract 0 ((if 40<(h.text.size:Int) then 40 else (h.text.size:Int))).toNat) g b)
def Dc (rec:Vl→Int→Option Vl) (n:Nat) (y:Vl) (z:Int):Nat→(List Vl)→(List (ByteArray × Vl))→Int→Option Vl
 | 0,_,_,_=>none
 | m+1,q,g,b =>
  if ((decide (b<(y.fields.length:Int)))&&(decide (b<6)))&&(decide (1<z)) then
   (Cj y.fields b).bind fun h =>
   if 0≤0∧0≤(if 40<(h.1.size:Int) then 40 else (h.1.size:Int))∧(if 40<(h.1.size:Int) then 40 else (h.1.size:Int))≤(h.1.size:Int) then
    if Bg (z-1) then
     (rec h.2 (z-1)).bind fun y35 =>
     if (g.length+1)*104≤140737488355328∧g.length+1≤4611686018427387904 then
      if Bg (b+1) then
       (Dc rec n y z m) q (g++([(h.1.extract 0 ((if 40<(h.1.size:Int) then 40 else (h.1.size:Int))).toNat,y35)])) (b+1)
      else none
     else none
    else none
   else none
  else
   FD rec n y q g
def Gt (rec:Vl→Int→Option Vl) (n:Nat) (h:Vl) (g:Int) (b:List Vl):Option Vl :=
 Dc rec n h g n b ([]) 0
def Da (rec:Vl→Int→Option Vl) (n:Nat) (q:Vl) (h:Int):Nat→(List Vl)→Int→Option Vl
 | 0,_,_=>none
 | m+1,g,b =>
  if ((decide (b<(q.list.length:Int)))&&(decide (b<6)))&&(decide (1<h)) then
   (Cj q.list b).bind fun y =>
   if Bg (h-1) then
    (rec y (h-1)).bind fun z =>
    if (g.length+1)*88≤140737488355328∧g.length+1≤4611686018427387904 then
     if Bg (b+1) then
      (Da rec n q h m) (g++([z])) (b+1)
     else none
    else none
   else none
  else
   Gt rec n q h g
def EY (rec:Vl→Int→Option Vl) (n:Nat) (b:Vl) (g:Int):Option Vl :=
 if 0≤0∧0≤(if 40<(b.text.size:Int) then 40 else (b.text.size:Int))∧(if 40<(b.text.size:Int) then 40 else (b.text.size:Int))≤(b.text.size:Int) then
  Da rec n b g n ([]) 0
 else none
def BG:Nat→Vl→Int→Option Vl
 | 0,_,_=>none
 | n+1,b,g=>EY (BG n) n b g
def Jm (w0:World) (F:Vl→Int→Option Vl):Prop:=∀ (B:Ao) (Rw:Av) (L:As) (b:Vl) (g:Int) (r:Vl),F b g=some r→ACalls Tryz.prog w0 149 [.agg (b.cs),Am g] ⟨B,Rw,L⟩ fun x st=>x = .agg (r.cs)∧st=⟨B,Rw,L⟩
theorem OU (w0:World) (rec:Vl→Int→Option Vl) (ih:Jm w0 rec) (n:Nat):Jm w0 (EY rec n):=by
 intro B Rw L a0 a1 r h
 rw [EY] at h
 refine hd [.cell 4 34] Tryz.func149 Tryz.ntmps149 fun M0 W0 z y x t K w hs=>?_
 simp only [AA]
 refine rg [1,2,4] hs ?_
 obtain ⟨H,h⟩:=Aw h
 have hs:=Ae (Vl.cs_eqs a0) hs
 refine rg [1,2,4] hs ?_
 refine rg [1,2,4,5] hs ?_
 refine rg [1,2,4,5,6] hs ?_
 refine AB (fun e st=>∃ (q:List Vl) (g:Ev.Own),Ck e st B Rw L [(1,true,Am a1),(2,true,.box B.length 0),(4,true,.box (B.length+1) 0),(5,true,.list (q.map CZ) g),(6,true,.list ([]) .full)] [[Am a0.kind,Am a0.int,Am a0.scale,.val (.string (a0.text.extract 0 ((if 40<(a0.text.size:Int) then 40 else (a0.text.size:Int))).toNat)),.list (a0.list.map CZ) .none,.list (a0.fields.map QY) .none],KO] [(6,q.length,g)] (Gt rec n a0 a1 q=some r)) ?_ ?_
 ·intro K8 F
  refine rg [1,2,4,5,6,7] hs ?_
  apply Ar
  refine AC (fun m e st=>∃ (i:List Vl) (u:Int) (l:Ev.Own),Ck e st B Rw L [(1,true,Am a1),(2,true,.box B.length 0),(4,true,.box (B.length+1) 0),(5,true,.list (i.map CZ) l),(6,true,.list ([]) .full),(7,true,Am u)] [[Am a0.kind,Am a0.int,Am a0.scale,.val (.string (a0.text.extract 0 ((if 40<(a0.text.size:Int) then 40 else (a0.text.size:Int))).toNat)),.list (a0.list.map CZ) .none,.list (a0.fields.map QY) .none],KO] [(6,i.length,l)] (Da rec n a0 a1 m i u=some r)) n ⟨([]),0,.full,([]),Rw,ef hs,ef hs,Owns.of_eq ((w).full 6 0) Ew,h⟩ ?_
  rintro ml10 e st ⟨i,u,l,Xl10,Rl10,rfl,rfl,w,h⟩ Ul10 Vl10
  cases ml10 with
  | zero=>cases h
  | succ ml10 =>
  rw [Da] at h
  exact go (tg (a:=([1,2,4,5,6,7,29],([1,2,4,5,6,7],[1,2,4,5,6,7],[1,2,4,5,6,7],()),[1,2,4,5,6],()))) h hs z y x t w (q2 (ae LZ H2) ih) (q2 F (fun e s=>Vl10 ml10 e s (Nat.lt_succ_self _)))
 ·clear h;rintro e st ⟨q,g,Xk7,Rk7,rfl,rfl,w,h⟩
  rw [Gt] at h
  have E:=w.unders
  simp only [List.mem_cons,List.not_mem_nil,or_false,forall_eq_or_imp,forall_eq] at E
  refine td z y x t w ?_
  refine AB (fun e st=>∃ (k:List Vl) (j:List (ByteArray × Vl)) (p:Ev.Own) (o:Ev.Own),Ck e st B Rw L [(2,true,.box B.length 0),(4,true,.box (B.length+1) 0),(5,true,.list (k.map CZ) p),(6,true,.list (j.map QY) o)] [[Am a0.kind,Am a0.int,Am a0.scale,.val (.string (a0.text.extract 0 ((if 40<(a0.text.size:Int) then 40 else (a0.text.size:Int))).toNat)),.list (a0.list.map CZ) .none,.list (a0.fields.map QY) .none],KO] [(6,k.length,p),(7,j.length,o)] (FD rec n a0 k j=some r)) ?_ ?_
  ·intro K25 C
   refine rg [1,2,4,5,6,8] hs ?_
   apply Ar
   refine AC (fun m e st=>∃ (f:List Vl) (d:List (ByteArray × Vl)) (v:Int) (b:Ev.Own) (c:Ev.Own),Ck e st B Rw L [(1,true,Am a1),(2,true,.box B.length 0),(4,true,.box (B.length+1) 0),(5,true,.list (f.map CZ) b),(6,true,.list (d.map QY) c),(8,true,Am v)] [[Am a0.kind,Am a0.int,Am a0.scale,.val (.string (a0.text.extract 0 ((if 40<(a0.text.size:Int) then 40 else (a0.text.size:Int))).toNat)),.list (a0.list.map CZ) .none,.list (a0.fields.map QY) .none],KO] [(6,f.length,b),(7,d.length,c)] (Dc rec n a0 a1 m f d v=some r)) n ⟨q,([]),0,g,.full,([]),Rk7,ef hs,ef hs,Owns.of_eq (((w).full 7 0).swap (List.Perm.swap _ _ _)) Ew,h⟩ ?_
   rintro ml27 e st ⟨f,d,v,b,c,Xl27,Rl27,rfl,rfl,w,h⟩ Ul27 Vl27
   cases ml27 with
   | zero=>cases h
   | succ ml27 =>
   rw [Dc] at h
   have E:=w.unders
   simp only [List.mem_cons,List.not_mem_nil,or_false,forall_eq_or_imp,forall_eq] at E
   obtain ⟨G,J⟩:=E
   refine td z y x t w ?_
   apply An;intro K28 D
   refine rg [1,2,4,5,6,8,55] hs ?_
   refine B6 h hs ?_ ?_<;>intro hs h
   rotate_left
   ·refine sx [2,4,5,6] hs C ?_
    exact ⟨f,d,b,c,([]),Rl27,ef hs,ef hs,Owns.of_eq (((w).swap (List.Perm.swap _ _ _)).swap (List.Perm.swap _ _ _)) Ew,h⟩
   exact go (tg (a:=([1,2,4,5,6,8],[27,1,2,4,5,6,8],[1,2,4,5,6,8],()))) h hs z y x t w (q2 (ae Zbl XP) ih) (q2 D (fun e s=>Vl27 ml27 e s (Nat.lt_succ_self _)))
  ·clear h;rintro e st ⟨k,j,p,o,Xk24,Rk24,rfl,rfl,w,h⟩
   rw [FD] at h
   exact go (tg (a:=([2,4],[4],()))) h hs z y x t w trivial trivial
theorem LE (w0:World):∀ n:Nat,Jm w0 (BG n)
 | 0=>fun _ _ _ _ _ _ h=>(nomatch h)
 | n+1=>OU w0 (BG n) (LE w0 n) n
def Gw (rec:Ty→Int→Option Ty) (n:Nat) (g:(List ByteArray)→(List Ty)→(List (Int × ByteArray × Int × Ty × List Vl))→Int→Option Ty) (b:Int) (q:List ByteArray) (y:List Ty) (h:List (Int × ByteArray × Int × Ty × List Vl)):Option Ty :=
 if Bg (b+1) then
  g q y h (b+1)
 else none
def Gm (rec:Ty→Int→Option Ty) (n:Nat) (q:Ty) (h:List ByteArray) (b:List Ty) (g:List (Int × ByteArray × Int × Ty × List Vl)):Option Ty :=
 some (Ty.mk q.kind q.min q.max q.scale h b g)
def ED (rec:Ty→Int→Option Ty) (n:Nat) (h:(List ByteArray)→(List Ty)→(List (Int × ByteArray × Int × Ty × List Vl))→Int→Option Ty) (a1:Int) (y:Int) (b:Int × ByteArray × Int × Ty × List Vl) (z:List ByteArray) (x6_k53:List Ty) (g:List (Int × ByteArray × Int × Ty × List Vl)) (q:List Vl):Option Ty :=
 if 0≤0∧0≤(if 40<(b.2.1.size:Int) then 40 else (b.2.1.size:Int))∧(if 40<(b.2.1.size:Int) then 40 else (b.2.1.size:Int))≤(b.2.1.size:Int) then
  if Bg (a1-1) then
   (rec b.2.2.2.1 (a1-1)).bind fun y71 =>
   if (g.length+1)*160≤140737488355328∧g.length+1≤4611686018427387904 then
    Gw rec n h y z x6_k53 (g++([(b.1,b.2.1.extract 0 ((if 40<(b.2.1.size:Int) then 40 else (b.2.1.size:Int))).toNat,b.2.2.1,y71,q)]))
   else none
  else none
 else none
def CL (rec:Ty→Int→Option Ty) (n:Nat) (h:(List ByteArray)→(List Ty)→(List (Int × ByteArray × Int × Ty × List Vl))→Int→Option Ty) (a1:Int) (q:Int) (x50:Int × ByteArray × Int × Ty × List Vl):Nat→(List ByteArray)→(List Ty)→(List (Int × ByteArray × Int × Ty × List Vl))→(List Vl)→Int→Option Ty
 | 0,_,_,_,_,_=>none
 | m+1,y,z,x7_l56,g,b =>
  if (decide (b<(x50.2.2.2.2.length:Int)))&&(decide (b<2)) then
   (Cj x50.2.2.2.2 b).bind fun x61 =>
   (BG n x61 3).bind fun y62 =>
   if (g.length+1)*88≤140737488355328∧g.length+1≤4611686018427387904 then
    if Bg (b+1) then
     (CL rec n h a1 q x50 m) y z x7_l56 (g++([y62])) (b+1)
    else none
   else none
  else
   ED rec n h a1 q x50 y z x7_l56 g
def Bc (rec:Ty→Int→Option Ty) (n:Nat) (y:Ty) (a1:Int):Nat→(List ByteArray)→(List Ty)→(List (Int × ByteArray × Int × Ty × List Vl))→Int→Option Ty
 | 0,_,_,_,_=>none
 | m+1,g,h,q,b =>
  if ((decide (b<(y.fields.length:Int)))&&(decide (b<6)))&&(decide (1<a1)) then
   (Cj y.fields b).bind fun z =>
   CL rec n (Bc rec n y a1 m) a1 b z n g h q ([]) 0
  else
   Gm rec n y g h q
def Gi (rec:Ty→Int→Option Ty) (n:Nat) (h:Ty) (q:Int) (b:List ByteArray) (g:List Ty):Option Ty :=
 Bc rec n h q n b g ([]) 0
def Dn (rec:Ty→Int→Option Ty) (n:Nat) (y:Ty) (q:Int):Nat→(List ByteArray)→(List Ty)→Int→Option Ty
 | 0,_,_,_=>none
 | m+1,h,g,b =>
  if ((decide (b<(y.elem.length:Int)))&&(decide (b<2)))&&(decide (1<q)) then
   (Cj y.elem b).bind fun z =>
   if Bg (q-1) then
    (rec z (q-1)).bind fun y32 =>
    if (g.length+1)*104≤140737488355328∧g.length+1≤4611686018427387904 then
     if Bg (b+1) then
      (Dn rec n y q m) h (g++([y32])) (b+1)
     else none
    else none
   else none
  else
   Gi rec n y q h g
def GX (rec:Ty→Int→Option Ty) (n:Nat) (g:Ty) (h:Int) (b:List ByteArray):Option Ty :=
 Dn rec n g h n b ([]) 0
def D5 (rec:Ty→Int→Option Ty) (n:Nat) (q:Ty) (y:Int):Nat→(List ByteArray)→Int→Option Ty
 | 0,_,_=>none
 | m+1,g,b =>
  if (decide (b<(q.words.length:Int)))&&(decide (b<6)) then
   (Cj q.words b).bind fun h =>
   if 0≤0∧0≤(if 40<(h.size:Int) then 40 else (h.size:Int))∧(if 40<(h.size:Int) then 40 else (h.size:Int))≤(h.size:Int) then
    if (g.length+1)*16≤140737488355328∧g.length+1≤4611686018427387904 then
     if Bg (b+1) then
      (D5 rec n q y m) (g++([h.extract 0 ((if 40<(h.size:Int) then 40 else (h.size:Int))).toNat])) (b+1)
     else none
    else none
   else none
  else
   GX rec n q y g
def F2 (rec:Ty→Int→Option Ty) (n:Nat) (b:Ty) (g:Int):Option Ty :=
 D5 rec n b g n ([]) 0
def BO:Nat→Ty→Int→Option Ty
 | 0,_,_=>none
 | n+1,b,g=>F2 (BO n) n b g
def Ko (w0:World) (F:Ty→Int→Option Ty):Prop:=∀ (B:Ao) (Rw:Av) (L:As) (b:Ty) (g:Int) (r:Ty),F b g=some r→ACalls Tryz.prog w0 62 [.agg (b.cs),Am g] ⟨B,Rw,L⟩ fun x st=>x = .agg (r.cs)∧st=⟨B,Rw,L⟩
theorem PN (w0:World) (rec:Ty→Int→Option Ty) (ih:Ko w0 rec) (n:Nat):Ko w0 (F2 rec n):=by
 intro B Rw L a0 a1 r h
 rw [F2] at h
 refine hd [.cell 4 26] Tryz.func62 Tryz.ntmps62 fun M0 W0 hN a4 a3 j hu i hs=>?_
 simp only [AA]
 refine rg [1,2,4] hs ?_
 refine rg [1,2,4,5] hs ?_
 refine rg [1,2,4,5,6] hs ?_
 refine rg [1,2,4,5,6,7] hs ?_
 refine AB (fun e st=>∃ (aw:List ByteArray) (ar:Ev.Own),Ck e st B Rw L [(1,true,Am a1),(2,true,.box B.length 0),(4,true,.box (B.length+1) 0),(5,true,.list (aw.map C0) ar),(6,true,.list ([]) .full),(7,true,.list ([]) .full)] [a0.cs,[Am 0,Am 0,Am 0,Am 0,.list ([]) .full,.list ([]) .full,.list ([]) .full]] [(1,aw.length,ar)] (GX rec n a0 a1 aw=some r)) ?_ ?_
 ·intro K7 bw
  refine rg [1,2,4,5,6,7,8] hs ?_
  apply Ar
  refine AC (fun m e st=>∃ (a7:List ByteArray) (a9:Int) (a6:Ev.Own),Ck e st B Rw L [(1,true,Am a1),(2,true,.box B.length 0),(4,true,.box (B.length+1) 0),(5,true,.list (a7.map C0) a6),(6,true,.list ([]) .full),(7,true,.list ([]) .full),(8,true,Am a9)] [a0.cs,[Am 0,Am 0,Am 0,Am 0,.list ([]) .full,.list ([]) .full,.list ([]) .full]] [(1,a7.length,a6)] (D5 rec n a0 a1 m a7 a9=some r)) n ⟨([]),0,.full,([]),Rw,ef hs,ef hs,Owns.of_eq ((i).full 1 0) Ew,h⟩ ?_
  rintro ml9 e st ⟨a7,a9,a6,Xl9,Rl9,rfl,rfl,i,h⟩ Ul9 Vl9
  cases ml9 with
  | zero=>cases h
  | succ ml9 =>
  rw [D5] at h
  exact go (tg (a:=([1,2,4,5,6,7,8,22],([1,2,4,5,6,7,8],[15,1,2,4,5,6,7,8],[1,2,4,5,6,7,8],()),[1,2,4,5,6,7],()))) h hs hN a4 a3 j i (q1 (ae Qf NJ)) (q2 bw (fun e s=>Vl9 ml9 e s (Nat.lt_succ_self _)))
 ·clear h;rintro e st ⟨aw,ar,Xk6,Rk6,rfl,rfl,i,h⟩
  rw [GX] at h
  have hU:=i.unders
  simp only [List.mem_cons,List.not_mem_nil,or_false,forall_eq_or_imp,forall_eq] at hU
  refine td hN a4 a3 j i ?_
  refine AB (fun e st=>∃ (am:List ByteArray) (Z:List Ty) (ad:Ev.Own) (V:Ev.Own),Ck e st B Rw L [(1,true,Am a1),(2,true,.box B.length 0),(4,true,.box (B.length+1) 0),(5,true,.list (am.map C0) ad),(6,true,.list (Z.map IX) V),(7,true,.list ([]) .full)] [a0.cs,[Am 0,Am 0,Am 0,Am 0,.list ([]) .full,.list ([]) .full,.list ([]) .full]] [(1,am.length,ad),(7,Z.length,V)] (Gi rec n a0 a1 am Z=some r)) ?_ ?_
  ·intro K23 bo
   refine rg [1,2,4,5,6,7,9] hs ?_
   apply Ar
   refine AC (fun m e st=>∃ (aa:List ByteArray) (Q:List Ty) (a8:Int) (aj:Ev.Own) (ah:Ev.Own),Ck e st B Rw L [(1,true,Am a1),(2,true,.box B.length 0),(4,true,.box (B.length+1) 0),(5,true,.list (aa.map C0) aj),(6,true,.list (Q.map IX) ah),(7,true,.list ([]) .full),(9,true,Am a8)] [a0.cs,[Am 0,Am 0,Am 0,Am 0,.list ([]) .full,.list ([]) .full,.list ([]) .full]] [(1,aa.length,aj),(7,Q.length,ah)] (Dn rec n a0 a1 m aa Q a8=some r)) n ⟨aw,([]),0,ar,.full,([]),Rk6,ef hs,ef hs,Owns.of_eq (((i).full 7 0).swap (List.Perm.swap _ _ _)) Ew,h⟩ ?_
   rintro ml25 e st ⟨aa,Q,a8,aj,ah,Xl25,Rl25,rfl,rfl,i,h⟩ Ul25 Vl25
   cases ml25 with
   | zero=>cases h
   | succ ml25 =>
   rw [Dn] at h
   have hU:=i.unders
   simp only [List.mem_cons,List.not_mem_nil,or_false,forall_eq_or_imp,forall_eq] at hU
   obtain ⟨ba,bb⟩:=hU
   refine td hN a4 a3 j i ?_
   apply An;intro K26 bq
   refine rg [1,2,4,5,6,7,9,53] hs ?_
   refine B6 h hs ?_ ?_<;>intro hs h
   rotate_left
   ·refine sx [1,2,4,5,6,7] hs bo ?_
    exact ⟨aa,Q,aj,ah,([]),Rl25,ef hs,ef hs,Owns.of_eq (((i).swap (List.Perm.swap _ _ _)).swap (List.Perm.swap _ _ _)) Ew,h⟩
   exact go (tg (a:=([1,2,4,5,6,7,9],[1,2,4,5,6,7,9],[1,2,4,5,6,7,9],()))) h hs hN a4 a3 j i (q2 (ae YQ RI) ih) (q2 bq (fun e s=>Vl25 ml25 e s (Nat.lt_succ_self _)))
  ·clear h;rintro e st ⟨am,Z,ad,V,Xk22,Rk22,rfl,rfl,i,h⟩
   rw [Gi] at h
   have hU:=i.unders
   simp only [List.mem_cons,List.not_mem_nil,or_false,forall_eq_or_imp,forall_eq] at hU
   obtain ⟨ba,bb⟩:=hU
   refine td hN a4 a3 j i ?_
   refine AB (fun e st=>∃ (aq:List ByteArray) (au:List Ty) (av:List (Int × ByteArray × Int × Ty × List Vl)) (ax:Ev.Own) (a2:Ev.Own) (ay:Ev.Own),Ck e st B Rw L [(2,true,.box B.length 0),(4,true,.box (B.length+1) 0),(5,true,.list (aq.map C0) ax),(6,true,.list (au.map IX) a2),(7,true,.list (av.map BS) ay)] [a0.cs,[Am 0,Am 0,Am 0,Am 0,.list ([]) .full,.list ([]) .full,.list ([]) .full]] [(1,aq.length,ax),(7,au.length,a2),(11,av.length,ay)] (Gm rec n a0 aq au av=some r)) ?_ ?_
   ·intro K40 bp
    refine rg [1,2,4,5,6,7,10] hs ?_
    apply Ar
    refine AC (fun m e st=>∃ (D:List ByteArray) (G:List Ty) (K:List (Int × ByteArray × Int × Ty × List Vl)) (c:Int) (w:Ev.Own) (v:Ev.Own) (t:Ev.Own),Ck e st B Rw L [(1,true,Am a1),(2,true,.box B.length 0),(4,true,.box (B.length+1) 0),(5,true,.list (D.map C0) w),(6,true,.list (G.map IX) v),(7,true,.list (K.map BS) t),(10,true,Am c)] [a0.cs,[Am 0,Am 0,Am 0,Am 0,.list ([]) .full,.list ([]) .full,.list ([]) .full]] [(1,D.length,w),(7,G.length,v),(11,K.length,t)] (Bc rec n a0 a1 m D G K c=some r)) n ⟨am,Z,([]),0,ad,V,.full,([]),Rk22,ef hs,ef hs,Owns.of_eq ((((i).full 11 0).swap ((List.Perm.cons _ (List.Perm.swap _ _ _)).trans (List.Perm.swap _ _ _))).swap ((List.Perm.cons _ (List.Perm.swap _ _ _)).trans (List.Perm.swap _ _ _))) Ew,h⟩ ?_
    rintro ml42 e st ⟨D,G,K,c,w,v,t,Xl42,Rl42,rfl,rfl,i,h⟩ Ul42 Vl42
    cases ml42 with
    | zero=>cases h
    | succ ml42 =>
    rw [Bc] at h
    have hU:=i.unders
    simp only [List.mem_cons,List.not_mem_nil,or_false,forall_eq_or_imp,forall_eq] at hU
    obtain ⟨ba,bb,bm⟩:=hU
    refine td hN a4 a3 j i ?_
    apply An;intro K43 bk
    refine rg [1,2,4,5,6,7,10,79] hs ?_
    refine B6 h hs ?_ ?_<;>intro hs h
    rotate_left
    ·have a5:=hs.1
     refine sx [2,4,5,6,7] hs bp ?_
     exact ⟨D,G,K,w,v,t,([]),Rl42,ef hs,ef hs,Owns.of_eq ((((i).swap ((List.Perm.cons _ (List.Perm.swap _ _ _)).trans (List.Perm.swap _ _ _))).swap ((List.Perm.cons _ (List.Perm.swap _ _ _)).trans (List.Perm.swap _ _ _))).swap ((List.Perm.cons _ (List.Perm.swap _ _ _)).trans (List.Perm.swap _ _ _))) Ew,h⟩
    have a5:=hs.1
    refine sk [1,2,4,5,6,7,10] hs bk ?_
    clear bk
    refine AB (fun e st=>∃ (ak:List ByteArray) (ab:List Ty) (ag:List (Int × ByteArray × Int × Ty × List Vl)) (ai:Ev.Own) (Y:Ev.Own) (U:Ev.Own),Ck e st B Rw L [(1,true,Am a1),(2,true,.box B.length 0),(4,true,.box (B.length+1) 0),(5,true,.list (ak.map C0) ai),(6,true,.list (ab.map IX) Y),(7,true,.list (ag.map BS) U),(10,true,Am c)] [a0.cs,[Am 0,Am 0,Am 0,Am 0,.list ([]) .full,.list ([]) .full,.list ([]) .full]] [(1,ak.length,ai),(7,ab.length,Y),(11,ag.length,U)] (Gw rec n (Bc rec n a0 a1 ml42) c ak ab ag=some r)) ?_ ?_
    ·intro K48 bt
     apply Ar
     obtain ⟨b,br,h⟩:=bind_some h
     obtain ⟨b5,b2,bn⟩:=Bl br
     have O:=Bn (f:=BS) bn
     have hs:=Ae O hs
     refine rg [1,2,4,5,6,7,10,11] hs ?_
     refine rg [1,2,4,5,6,7,10,11,12] hs ?_
     refine AB (fun e st=>∃ (C:List ByteArray) (N:List Ty) (l:List (Int × ByteArray × Int × Ty × List Vl)) (d:List Vl) (u:Ev.Own) (p:Ev.Own) (az:Ev.Own) (k:Ev.Own),Ck e st B Rw L [(1,true,Am a1),(2,true,.box B.length 0),(4,true,.box (B.length+1) 0),(5,true,.list (C.map C0) u),(6,true,.list (N.map IX) p),(7,true,.list (l.map BS) az),(10,true,Am c),(11,true,.box (B.length+2) 0),(12,true,.list (d.map CZ) k)] [a0.cs,[Am 0,Am 0,Am 0,Am 0,.list ([]) .full,.list ([]) .full,.list ([]) .full],Am b.1::(.val (.string b.2.1)::(Am b.2.2.1::((b.2.2.2.1.cs)++([.list (b.2.2.2.2.map CZ) .none]))))] [(1,C.length,u),(7,N.length,p),(11,l.length,az),(6,d.length,k)] (ED rec n (Bc rec n a0 a1 ml42) a1 c b C N l d=some r)) ?_ ?_
     ·intro K54 bu
      refine rg [1,2,4,5,6,7,10,11,12,13] hs ?_
      apply Ar
      refine AC (fun m e st=>∃ (F:List ByteArray) (J:List Ty) (E:List (Int × ByteArray × Int × Ty × List Vl)) (g:List Vl) (af:Int) (x:Ev.Own) (z:Ev.Own) (q:Ev.Own) (H:Ev.Own),Ck e st B Rw L [(1,true,Am a1),(2,true,.box B.length 0),(4,true,.box (B.length+1) 0),(5,true,.list (F.map C0) x),(6,true,.list (J.map IX) z),(7,true,.list (E.map BS) q),(10,true,Am c),(11,true,.box (B.length+2) 0),(12,true,.list (g.map CZ) H),(13,true,Am af)] [a0.cs,[Am 0,Am 0,Am 0,Am 0,.list ([]) .full,.list ([]) .full,.list ([]) .full],Am b.1::(.val (.string b.2.1)::(Am b.2.2.1::((b.2.2.2.1.cs)++([.list (b.2.2.2.2.map CZ) .none]))))] [(1,F.length,x),(7,J.length,z),(11,E.length,q),(6,g.length,H)] (CL rec n (Bc rec n a0 a1 ml42) a1 c b m F J E g af=some r)) n ⟨D,G,K,([]),0,w,v,t,.full,([]),Rl42,ef hs,ef hs,Owns.of_eq (((((i).full 6 0).swap ((List.Perm.cons _ ((List.Perm.cons _ (List.Perm.swap _ _ _)).trans (List.Perm.swap _ _ _))).trans (List.Perm.swap _ _ _))).swap ((List.Perm.cons _ ((List.Perm.cons _ (List.Perm.swap _ _ _)).trans (List.Perm.swap _ _ _))).trans (List.Perm.swap _ _ _))).swap ((List.Perm.cons _ ((List.Perm.cons _ (List.Perm.swap _ _ _)).trans (List.Perm.swap _ _ _))).trans (List.Perm.swap _ _ _))) Ew,h⟩ ?_
      rintro ml56 e st ⟨F,J,E,g,af,x,z,q,H,Xl56,Rl56,rfl,rfl,i,h⟩ Ul56 Vl56
      cases ml56 with
      | zero=>cases h
      | succ ml56 =>
      rw [CL] at h
      have hU:=i.unders
      simp only [List.mem_cons,List.not_mem_nil,or_false,forall_eq_or_imp,forall_eq] at hU
      obtain ⟨ba,bb,bm,b3⟩:=hU
      refine td hN a4 a3 j i ?_
      apply An;intro K57 bg
      refine rg [1,2,4,5,6,7,10,11,12,13,95] hs ?_
      refine B6 h hs ?_ ?_<;>intro hs h
      rotate_left
      ·refine sx [1,2,4,5,6,7,10,11,12] hs bu ?_
       exact ⟨F,J,E,g,x,z,q,H,([]),Rl56,ef hs,ef hs,Owns.of_eq (((((i).swap ((List.Perm.cons _ ((List.Perm.cons _ (List.Perm.swap _ _ _)).trans (List.Perm.swap _ _ _))).trans (List.Perm.swap _ _ _))).swap ((List.Perm.cons _ ((List.Perm.cons _ (List.Perm.swap _ _ _)).trans (List.Perm.swap _ _ _))).trans (List.Perm.swap _ _ _))).swap ((List.Perm.cons _ ((List.Perm.cons _ (List.Perm.swap _ _ _)).trans (List.Perm.swap _ _ _))).trans (List.Perm.swap _ _ _))).swap ((List.Perm.cons _ ((List.Perm.cons _ (List.Perm.swap _ _ _)).trans (List.Perm.swap _ _ _))).trans (List.Perm.swap _ _ _))) Ew,h⟩
      refine sk [1,2,4,5,6,7,10,11,12,13] hs bg ?_
      clear bg
      apply An;intro K60 bf
      apply Ar
      obtain ⟨bx,b0,b4,bl,h⟩:=ix CZ h
      obtain ⟨b1,bs,h⟩:=bind_some h
      obtain ⟨bh,h⟩:=Aw h
      have i:=i.swap ((List.Perm.cons _ ((List.Perm.cons _ (List.Perm.swap _ _ _)).trans (List.Perm.swap _ _ _))).trans (List.Perm.swap _ _ _))
      obtain ⟨bz,bc,i,ap⟩:=i.append (P:=Tryz.prog) LZ (by rw [H2];rfl) (by decide) 1 bh.1 bh.2
      replace ap:=fun (ys:List AV) B L o2=>ap (g.map CZ) ys B L o2 Ew
      replace ap:=fun (y:AV) B L o2=>ap [y] B L o2 Ew ev
      try simp only [List.mem_singleton,List.mem_cons,List.not_mem_nil,or_false,forall_eq_or_imp,forall_eq,List.map_append,List.map_cons,List.map_nil,Fe,Fj,Fq,Eu,Eo,Ft,CO,DN,Fz,Ce,Cd,DG,DK,DO,Fg,DL,Fo] at ap
      have hs:=Ae bl hs
      have hs:=Ae ap hs
      refine rk 2 [1,2,4,5,6,7,10,11,12,13] hs ?_
      refine Ax _ (LE w0 n _ _ _ bx 3 _ bs) (hv hs) ?_
      refine ne hs bf ?_
      clear bf
      obtain ⟨b8,h⟩:=Aw h
      refine rl [1,2,4,5,6,7,10,11,12,13] hs (fun e s=>Vl56 ml56 e s (Nat.lt_succ_self _)) ?_
      exact ⟨F,J,E,(g++([b1])),(af+1),x,z,q,bz,([]),bc,ef hs,ef hs,Owns.of_eq ((((i).swap ((List.Perm.cons _ ((List.Perm.cons _ (List.Perm.swap _ _ _)).trans (List.Perm.swap _ _ _))).trans (List.Perm.swap _ _ _))).swap ((List.Perm.cons _ ((List.Perm.cons _ (List.Perm.swap _ _ _)).trans (List.Perm.swap _ _ _))).trans (List.Perm.swap _ _ _))).swap ((List.Perm.cons _ ((List.Perm.cons _ (List.Perm.swap _ _ _)).trans (List.Perm.swap _ _ _))).trans (List.Perm.swap _ _ _))) Ew,h⟩
     ·clear h;rintro e st ⟨C,N,l,d,u,p,az,k,Xk53,Rk53,rfl,rfl,i,h⟩
      rw [ED] at h
      have hU:=i.unders
      simp only [List.mem_cons,List.not_mem_nil,or_false,forall_eq_or_imp,forall_eq] at hU
      obtain ⟨ba,bb,bm,b3⟩:=hU
      refine td hN a4 a3 j i ?_
      apply An;intro K68 bi
      obtain ⟨b7,h⟩:=Aw h
      obtain ⟨b9,h⟩:=Aw h
      obtain ⟨o,bj,h⟩:=bind_some h
      apply XF PS [14,16,18] [1,3,8] [1,2,4,5,6,7,10,11] kr (fun s=>∃ (X:Ao) (rows:Av) (c2:List AV),s=⟨B++([a0.cs,[Am 0,Am 0,Am 0,Am 0,.list ([]) .full,.list ([]) .full,.list ([]) .full],c2]++X),rows,L⟩) 4 (B.length+3)
      ·simp +decide only [go_sem,Nat.reduceAdd]
      ·refine ⟨2,?_⟩
       rw [Ap];simp +decide only [go_sem,Nat.reduceAdd,C6,a5,O,Ty.cs_eqs b.2.2.2.1,Ty.cs_eqs o]
       have hs:=Ae (Ty.cs_eqs b.2.2.2.1) hs
       have hs:=Ae (Ty.cs_eqs o) hs
       (repeat' apply Ae)<;>first | refine Ax _ (ih _ _ _ b.2.2.2.1 (a1-1) _ bj) (hv hs) ?_ | exact cl
       rw [Ap];simp +decide only [go_sem,Nat.reduceAdd,a5,O,Ty.cs_eqs b.2.2.2.1,Ty.cs_eqs o]
       (repeat' apply Ae)<;>first | rfl | exact cl
      ·rintro s ⟨X,rows,c2,rfl⟩
       refine ⟨2,?_⟩
       rw [Ap];simp +decide only [go_sem,Nat.reduceAdd,C6,List.append_eq,List.cons_append,List.nil_append,a5,O,Ty.cs_eqs b.2.2.2.1,Ty.cs_eqs o]
       have hs:=Ae (Ty.cs_eqs b.2.2.2.1) hs
       have hs:=Ae (Ty.cs_eqs o) hs
       (repeat' apply Ae)<;>first | refine Ax _ (ih _ _ _ b.2.2.2.1 (a1-1) _ bj) (hv hs) ?_ | exact cl
       rw [Ap];simp +decide only [go_sem,Nat.reduceAdd,a5,O,Ty.cs_eqs b.2.2.2.1,Ty.cs_eqs o]
       (repeat' apply Ae)<;>first | rfl | ((repeat (first | exact .nil | refine .cons (ef hs) ?_));done) | exact cl
      ·exact gd (tg (a:=(14,16,18,[1,2,4,5,6,7,10,11]))) (Ae (Ty.cs_eqs o) (Ae (Ty.cs_eqs b.2.2.2.1) (Ae O hs)))
      simp +decide only [go_sem,Nat.reduceAdd,a5,O,Ty.cs_eqs b.2.2.2.1,Ty.cs_eqs o]
      (repeat' apply Ae)<;>first | refine bi _ _ ?_ | exact cl
      clear bi
      obtain ⟨be,h⟩:=Aw h
      have i:=i.swap ((List.Perm.cons _ (List.Perm.swap _ _ _)).trans (List.Perm.swap _ _ _))
      obtain ⟨bv,bd,i,ao⟩:=i.append (P:=Tryz.prog) S8 (by rw [M9];rfl) (by decide) 1 be.1 be.2
      replace ao:=fun (ys:List AV) B L o2=>ao (l.map BS) ys B L o2 Ew
      replace ao:=fun (y:AV) B L o2=>ao [y] B L o2 Ew ev
      try simp only [List.mem_singleton,List.mem_cons,List.not_mem_nil,or_false,forall_eq_or_imp,forall_eq,List.map_append,List.map_cons,List.map_nil,Fe,Fj,Fq,Eu,Eo,Ft,CO,DN,Fz,Ce,Cd,DG,DK,DO,Fg,DL,Fo] at ao
      have hs:=Ae (Ty.cs_eqs b.2.2.2.1) hs
      have hs:=Ae (Ty.cs_eqs o) hs
      have hs:=Ae ao hs
      refine rl [1,2,4,5,6,7,10] hs bt ?_
      exact ⟨C,N,(l++([(b.1,b.2.1.extract 0 ((if 40<(b.2.1.size:Int) then 40 else (b.2.1.size:Int))).toNat,b.2.2.1,o,d)])),u,p,bv,([[Am b.1,.val (.string (b.2.1.extract 0 ((if 40<(b.2.1.size:Int) then 40 else (b.2.1.size:Int))).toNat)),Am b.2.2.1,Am o.kind,Am o.min,Am o.max,Am o.scale,.list (o.words.map C0) .none,.list (o.elem.map IX) .none,.list (o.fields.map BS) .none,.list (d.map CZ) k]]),bd,ef hs,ef hs,Owns.of_eq ((((i).swap ((List.Perm.cons _ (List.Perm.swap _ _ _)).trans (List.Perm.swap _ _ _))).swap ((List.Perm.cons _ (List.Perm.swap _ _ _)).trans (List.Perm.swap _ _ _))).sub (List.sublist_append_left [(1,C.length,u),(7,N.length,p),(11,l.length+1,bv)] [(6,d.length,k)])) Ew,h⟩
    ·clear h;rintro e st ⟨ak,ab,ag,ai,Y,U,Xk47,Rk47,rfl,rfl,i,h⟩
     rw [Gw] at h
     have hU:=i.unders
     simp only [List.mem_cons,List.not_mem_nil,or_false,forall_eq_or_imp,forall_eq] at hU
     obtain ⟨ba,bb,bm⟩:=hU
     refine td hN a4 a3 j i ?_
     obtain ⟨b6,h⟩:=Aw h
     refine rl [1,2,4,5,6,7,10] hs (fun e s=>Vl42 ml42 e s (Nat.lt_succ_self _)) ?_
     exact ⟨ak,ab,ag,(c+1),ai,Y,U,([]),Rk47,ef hs,ef hs,Owns.of_eq ((((i).swap ((List.Perm.cons _ (List.Perm.swap _ _ _)).trans (List.Perm.swap _ _ _))).swap ((List.Perm.cons _ (List.Perm.swap _ _ _)).trans (List.Perm.swap _ _ _))).swap ((List.Perm.cons _ (List.Perm.swap _ _ _)).trans (List.Perm.swap _ _ _))) Ew,h⟩
   ·clear h;rintro e st ⟨aq,au,av,ax,a2,ay,Xk39,Rk39,rfl,rfl,i,h⟩
    rw [Gm] at h
    exact go (tg (a:=([2,4],[4],()))) h (Ae (Ty.cs_eqs a0) hs) hN a4 a3 j i trivial trivial
theorem MQ (w0:World):∀ n:Nat,Ko w0 (BO n)
 | 0=>fun _ _ _ _ _ _ h=>(nomatch h)
 | n+1=>PN w0 (BO n) (MQ w0 n) n
def IW (n:Nat) (b:Ty):Option Ty :=
 (BO n b 4).bind fun g =>
 some (g)
theorem Wq (w0:World) (n:Nat) (B:Ao) (Rw:Av) (L:As) (a0:Ty) (r:Ty) (h:IW n a0=some r) :
  ACalls Tryz.prog w0 20 [.agg (a0.cs)] ⟨B,Rw,L⟩ fun x st=>x = .agg (r.cs)∧st=⟨B,Rw,L⟩:=by
 rw [IW] at h
 refine hd [.cell 2 26] Tryz.func20 Tryz.ntmps20 fun M0 W0 f d c b g e hs=>?_
 simp only [AA]
 exact go (tg (a:=([1,2],[2],()))) h hs f d c b e (q1 (MQ w0 n)) trivial
theorem Xq (b:ByteArray) {c:Int} (hc:0≤c):(0:Nat)≤0∧(0:Int)≤(if c<(b.size:Int) then c else (b.size:Int))∧(if c<(b.size:Int) then c else (b.size:Int))≤(b.size:Int):=by
 refine ⟨Nat.le_refl _,?_,?_⟩<;>split<;>omega
theorem VI (b:ByteArray) {c:Int} (hc:0≤c):((b.extract 0 ((if c<(b.size:Int) then c else (b.size:Int))).toNat).size:Int)≤c:=by
 rw [ByteArray.size_extract];split<;>omega
theorem Tq:∀ (l:List Vl) (w:Vl),DV (l++[w])=DV l+w.size
 | [],w=>by simp [DV]
 | x::l,w=>by rw [List.cons_append,DV,Tq l w,DV];omega
theorem QH:∀ (l:List (ByteArray × Vl)) (w:ByteArray × Vl),Em (l++[w])=Em l+w.2.size
 | [],(a,w)=>by simp [Em]
 | (a,x)::l,w=>by rw [List.cons_append,Em,QH l w,Em];omega
theorem SX:∀ (l:List Ty) (w:Ty),Fh (l++[w])=Fh l+w.size
 | [],w=>by simp [Fh]
 | x::l,w=>by rw [List.cons_append,Fh,SX l w,Fh];omega
theorem QD:∀ (l:List TF) (w:TF),DD (l++[w])=DD l+w.2.2.2.1.size
 | [],(a,b,c,w,d)=>by simp [DD]
 | (a,b,c,x,d)::l,w=>by rw [List.cons_append,DD,QD l w,DD];omega
theorem NH {α:Type} {p:α→Prop} {l:List α} {x:α} (h:∀ y∈l,p y) (hx:p x):∀ y∈l++[x],p y:=by
 intro y hy
 rcases List.mem_append.1 hy with hy | hy
 ·exact h y hy
 ·rw [List.mem_singleton.1 hy];exact hx
theorem IF {α:Type} (l:List α) (x:α):(l++[x]).length=l.length+1:=by simp
def szV:Nat→Nat
 | 0=>0
 | d+1=>1+12*szV d
theorem ZbI (rec:Vl→Int→Option Vl) (n:Nat) (v:Vl) (a:Int) (K:Nat) (hI:Bg (a-1)) (hr:1<a→∀ x,∃ w,rec x (a-1)=some w∧w.size≤K∧w.ok) (l:List Vl) (hl:DV l≤6*K) (ho:∀ x∈l,x.ok) :
  ∀ (m k i:Nat) (f:List (ByteArray × Vl)),i+k=6→k<m→f.length=i→Em f≤i*K→(∀ p∈f,p.1.size≤1048576∧p.2.ok)→∃ w,Dc rec n v a m l f (i:Int)=some w∧w.size≤1+12*K∧w.ok
 | 0,k,i,f,_,h,_,_,_=>absurd h (Nat.not_lt_zero _)
 | m+1,k,i,f,hi,hm,hf,hs,hp=>by
  rw [Dc]
  by_cases c:(((decide ((i:Int)<(v.fields.length:Int)))&&(decide ((i:Int)<6)))&&(decide (1<a)))=true
  ·rw [Ai c]
   simp only [Bool.and_eq_true,decide_eq_true_eq] at c
   obtain ⟨⟨o,s⟩,j⟩:=c
   have b:i<v.fields.length:=by omega
   obtain ⟨w,e,r,g⟩:=hr j v.fields[i].2
   obtain ⟨k,rfl⟩:∃ q,k=q+1:=⟨k-1,by omega⟩
   rw [AN b,Af,Ai (Xq _ (by decide)),Ai hI,e,Af,Ab,Ai (AW (by omega))]
   have d:=VI v.fields[i].1 (c:=40) (by decide)
   exact ZbI rec n v a K hI hr l hl ho m k (i+1) _ (by omega) (by omega) (by rw [IF];omega) (by rw [QH,Nat.add_mul];simp only;omega) (NH hp ⟨by simp only;omega,g⟩)
  ·rw [Aj c,FD]
   have d:=VI v.text (c:=40) (by decide)
   have:i*K≤6*K:=Nat.mul_le_mul_right _ (by omega)
   refine ⟨_,rfl,?_,(Vl.ok_eq _).2 ⟨?_,ho,hp⟩⟩
   ·rw [Vl.size_eq];simp only [Vl.list,Vl.fields];omega
   ·show (v.text.extract 0 _).size≤1048576;omega
theorem YA (rec:Vl→Int→Option Vl) (n:Nat) (hn:8≤n) (v:Vl) (a:Int) (K:Nat) (hI:Bg (a-1)) (hr:1<a→∀ x,∃ w,rec x (a-1)=some w∧w.size≤K∧w.ok) :
  ∀ (m k i:Nat) (l:List Vl),i+k=6→k<m→l.length=i→DV l≤i*K→(∀ p∈l,p.ok)→∃ w,Da rec n v a m l (i:Int)=some w∧w.size≤1+12*K∧w.ok
 | 0,k,i,f,_,h,_,_,_=>absurd h (Nat.not_lt_zero _)
 | m+1,k,i,f,hi,hm,hf,hs,hp=>by
  rw [Da]
  by_cases c:(((decide ((i:Int)<(v.list.length:Int)))&&(decide ((i:Int)<6)))&&(decide (1<a)))=true
  ·rw [Ai c]
   simp only [Bool.and_eq_true,decide_eq_true_eq] at c
   obtain ⟨⟨r,j⟩,g⟩:=c
   have b:i<v.list.length:=by omega
   obtain ⟨w,e,o,d⟩:=hr g v.list[i]
   obtain ⟨k,rfl⟩:∃ q,k=q+1:=⟨k-1,by omega⟩
   rw [AN b,Af,Ai hI,e,Af,Ab,Ai (AW (by omega))]
   exact YA rec n hn v a K hI hr m k (i+1) _ (by omega) (by omega) (by rw [IF];omega) (by rw [Tq,Nat.add_mul];omega) (NH hp d)
  ·rw [Aj c,Gt]
   have:i*K≤6*K:=Nat.mul_le_mul_right _ (by omega)
   exact ZbI rec n v a K hI hr f (by omega) hp n 6 0 [] (by omega) (by omega) rfl (by simp [Em]) (by simp)
theorem U3:∀ (d n:Nat) (v:Vl),d≤50→d+9≤n→∃ w,BG n v ((d+1:Nat):Int)=some w∧w.size≤szV (d+1)∧w.ok
 | 0,n,v,h1,h2=>by
  obtain ⟨n,rfl⟩:∃ q,n=q+1:=⟨n-1,by omega⟩
  rw [BG,EY,Ai (Xq _ (by decide)),szV]
  exact YA (BG n) n (by omega) v _ 0 (by unfold Bg;omega) (fun c x=>by omega) n 6 0 [] (by omega) (by omega) rfl (by simp [DV]) (by simp)
 | d+1,n,v,h1,h2=>by
  obtain ⟨n,rfl⟩:∃ q,n=q+1:=⟨n-1,by omega⟩
  rw [BG,EY,Ai (Xq _ (by decide)),szV]
  exact YA (BG n) n (by omega) v _ (szV (d+1)) (by unfold Bg;omega) (fun c x=>by
   rw [show (((d+1+1:Nat):Int)-1)=((d+1:Nat):Int) from by omega]
   exact U3 d n x (by omega) (by omega)) n 6 0 [] (by omega) (by omega) rfl (by simp [DV]) (by simp)
def szT:Nat→Nat
 | 0=>0
 | d+1=>1+8*szT d
def Ry (K D:Nat) (t:Ty):Prop:=t.size≤K∧t.depth≤D∧t.ok
theorem Zb1 (rec:Ty→Int→Option Ty) (n:Nat) (hn:20≤n) (ag:List ByteArray→List Ty→List TF→Int→Option Ty) (a z:Int) (p:TF) (ws:List ByteArray) (es:List Ty) (fs:List TF) :
  ∀ (m k i:Nat) (f:List Vl),i+k=2→k<m→f.length=i→(∀ v∈f,v.small)→∃ dl:List Vl,CL rec n ag a z p m ws es fs f (i:Int)=ED rec n ag a z p ws es fs dl∧dl.length≤2∧∀ v∈dl,v.small
 | 0,k,i,f,_,h,_,_=>absurd h (Nat.not_lt_zero _)
 | m+1,k,i,f,hi,hm,hf,hp=>by
  rw [CL]
  by_cases c:((decide ((i:Int)<(p.2.2.2.2.length:Int)))&&(decide ((i:Int)<2)))=true
  ·rw [Ai c]
   simp only [Bool.and_eq_true,decide_eq_true_eq] at c
   obtain ⟨o,l⟩:=c
   have b:i<p.2.2.2.2.length:=by omega
   obtain ⟨w,e,d,g⟩:=U3 2 n p.2.2.2.2[i] (by omega) (by omega)
   have e:BG n p.2.2.2.2[i] 3=some w:=e
   have d:w.size≤157:=d
   have j:=w.depth_size
   obtain ⟨k,rfl⟩:∃ q,k=q+1:=⟨k-1,by omega⟩
   rw [AN b,Af,e,Af,Ab,Ai (AW (by omega))]
   exact Zb1 rec n hn ag a z p ws es fs m k (i+1) _ (by omega) (by omega) (by rw [IF];omega) (NH hp ⟨by omega,by omega,g⟩)
  ·rw [Aj c]
   exact ⟨_,rfl,by omega,hp⟩
theorem Zbs (rec:Ty→Int→Option Ty) (n:Nat) (hn:20≤n) (t:Ty) (a:Int) (K D:Nat) (hI:Bg (a-1)) (hr:1<a→∀ x,∃ w,rec x (a-1)=some w∧Ry K D w)
  (ws:List ByteArray) (hw:ws.length≤6∧∀ w∈ws,w.size≤40) (es:List Ty) (he:Fh es≤2*K∧∀ w∈es,Ry K D w) :
  ∀ (m k i:Nat) (f:List TF),i+k=6→k<m→f.length=i→DD f≤i*K→(∀ p∈f,p.2.1.size≤40∧Ry K D p.2.2.2.1∧p.2.2.2.2.length≤2∧∀ v∈p.2.2.2.2,v.small)→∃ w,Bc rec n t a m ws es f (i:Int)=some w∧Ry (1+8*K) (D+1) w
 | 0,k,i,f,_,h,_,_,_=>absurd h (Nat.not_lt_zero _)
 | m+1,k,i,f,hi,hm,hf,hs,hp=>by
  rw [Bc]
  by_cases c:(((decide ((i:Int)<(t.fields.length:Int)))&&(decide ((i:Int)<6)))&&(decide (1<a)))=true
  ·rw [Ai c]
   simp only [Bool.and_eq_true,decide_eq_true_eq] at c
   obtain ⟨⟨F,G⟩,s⟩:=c
   have g:i<t.fields.length:=by omega
   obtain ⟨w,e,y,j,l⟩:=hr s t.fields[i].2.2.2.1
   obtain ⟨k,rfl⟩:∃ q,k=q+1:=⟨k-1,by omega⟩
   obtain ⟨dl,d,u,r⟩:=Zb1 rec n hn (Bc rec n t a m) a i t.fields[i] ws es f n 2 0 [] (by omega) (by omega) rfl (by simp)
   have d:CL rec n (Bc rec n t a m) a i t.fields[i] n ws es f [] 0=_:=d
   have z:=VI t.fields[i].2.1 (c:=40) (by decide)
   rw [AN g,Af,d,ED,Ai (Xq _ (by decide)),Ai hI,e,Af,Ab,Gw,Ai (AW (by omega))]
   exact Zbs rec n hn t a K D hI hr ws hw es he m k (i+1) _ (by omega) (by omega) (by rw [IF];omega) (by rw [QD,Nat.add_mul];simp only;omega) (NH hp ⟨by simp only;omega,⟨y,j,l⟩,u,r⟩)
  ·rw [Aj c,Gm]
   have:i*K≤6*K:=Nat.mul_le_mul_right _ (by omega)
   refine ⟨_,rfl,?_,?_,(Ty.ok_eq _).2 ⟨?_,fun x b=>?_,fun x b=>(he.2 x b).2.2,fun p b=>?_⟩⟩
   ·rw [Ty.size_eq];simp only [Ty.elem,Ty.fields];omega
   ·rw [Ty.depth_eq];simp only [Ty.elem,Ty.fields]
    have E:=(Iw es D).2 fun x b=>(he.2 x b).2.1
    have C:=(Hr f D).2 fun x b=>(hp x b).2.1.2.1
    omega
   ·simp only [Ty.words];omega
   ·have:=hw.2 x b;omega
   ·obtain ⟨q1,q2,q3,o⟩:=hp p b
    exact ⟨by omega,q2.2.2,by omega,o⟩
theorem ZbL (rec:Ty→Int→Option Ty) (n:Nat) (hn:20≤n) (t:Ty) (a:Int) (K D:Nat) (hI:Bg (a-1)) (hr:1<a→∀ x,∃ w,rec x (a-1)=some w∧Ry K D w)
  (ws:List ByteArray) (hw:ws.length≤6∧∀ w∈ws,w.size≤40) :
  ∀ (m k i:Nat) (f:List Ty),i+k=2→k<m→f.length=i→Fh f≤i*K→(∀ p∈f,Ry K D p)→∃ w,Dn rec n t a m ws f (i:Int)=some w∧Ry (1+8*K) (D+1) w
 | 0,k,i,f,_,h,_,_,_=>absurd h (Nat.not_lt_zero _)
 | m+1,k,i,f,hi,hm,hf,hs,hp=>by
  rw [Dn]
  by_cases c:(((decide ((i:Int)<(t.elem.length:Int)))&&(decide ((i:Int)<2)))&&(decide (1<a)))=true
  ·rw [Ai c]
   simp only [Bool.and_eq_true,decide_eq_true_eq] at c
   obtain ⟨⟨o,l⟩,g⟩:=c
   have b:i<t.elem.length:=by omega
   obtain ⟨w,e,d⟩:=hr g t.elem[i]
   have j:=d.1
   obtain ⟨k,rfl⟩:∃ q,k=q+1:=⟨k-1,by omega⟩
   rw [AN b,Af,Ai hI,e,Af,Ab,Ai (AW (by omega))]
   exact ZbL rec n hn t a K D hI hr ws hw m k (i+1) _ (by omega) (by omega) (by rw [IF];omega) (by rw [SX,Nat.add_mul];omega) (NH hp d)
  ·rw [Aj c,Gi]
   have:i*K≤2*K:=Nat.mul_le_mul_right _ (by omega)
   exact Zbs rec n hn t a K D hI hr ws hw f ⟨by omega,hp⟩ n 6 0 [] (by omega) (by omega) rfl (by simp [DD]) (by simp)
theorem ZcR (rec:Ty→Int→Option Ty) (n:Nat) (hn:20≤n) (t:Ty) (a:Int) (K D:Nat) (hI:Bg (a-1)) (hr:1<a→∀ x,∃ w,rec x (a-1)=some w∧Ry K D w) :
  ∀ (m k i:Nat) (f:List ByteArray),i+k=6→k<m→f.length=i→(∀ p∈f,p.size≤40)→∃ w,D5 rec n t a m f (i:Int)=some w∧Ry (1+8*K) (D+1) w
 | 0,k,i,f,_,h,_,_=>absurd h (Nat.not_lt_zero _)
 | m+1,k,i,f,hi,hm,hf,hp=>by
  rw [D5]
  by_cases c:((decide ((i:Int)<(t.words.length:Int)))&&(decide ((i:Int)<6)))=true
  ·rw [Ai c]
   simp only [Bool.and_eq_true,decide_eq_true_eq] at c
   obtain ⟨e,g⟩:=c
   have b:i<t.words.length:=by omega
   obtain ⟨k,rfl⟩:∃ q,k=q+1:=⟨k-1,by omega⟩
   have d:=VI t.words[i] (c:=40) (by decide)
   rw [AN b,Af,Ai (Xq _ (by decide)),Ab,Ai (AW (by omega))]
   exact ZcR rec n hn t a K D hI hr m k (i+1) _ (by omega) (by omega) (by rw [IF];omega) (NH hp (by omega))
  ·rw [Aj c,GX]
   exact ZbL rec n hn t a K D hI hr f ⟨by omega,hp⟩ n 2 0 [] (by omega) (by omega) rfl (by simp [Fh]) (by simp)
theorem Vh:∀ (d n:Nat) (v:Ty),d≤50→d+21≤n→∃ w,BO n v ((d+1:Nat):Int)=some w∧Ry (szT (d+1)) (d+1) w
 | 0,n,v,h1,h2=>by
  obtain ⟨n,rfl⟩:∃ q,n=q+1:=⟨n-1,by omega⟩
  rw [BO,F2,szT]
  exact ZcR (BO n) n (by omega) v _ 0 0 (by unfold Bg;omega) (fun c x=>by omega) n 6 0 [] (by omega) (by omega) rfl (by simp)
 | d+1,n,v,h1,h2=>by
  obtain ⟨n,rfl⟩:∃ q,n=q+1:=⟨n-1,by omega⟩
  rw [BO,F2,szT]
  exact ZcR (BO n) n (by omega) v _ (szT (d+1)) (d+1) (by unfold Bg;omega) (fun c x=>by
   rw [show (((d+1+1:Nat):Int)-1)=((d+1:Nat):Int) from by omega]
   exact Vh d n x (by omega) (by omega)) n 6 0 [] (by omega) (by omega) rfl (by simp)
theorem Zd8 (n:Nat) (hn:30≤n) (t:Ty):∃ w,IW n t=some w∧Ry 585 4 w:=by
 obtain ⟨w,e,h⟩:=Vh 3 n t (by omega) (by omega)
 have e:BO n t 4=some w:=e
 exact ⟨w,by rw [IW,e];rfl,h⟩
def KJ (n:Nat)  (b:List Ty):Option ((List Ty)) :=
 some (b)
def Oy (n:Nat)  : Option ((List Ty)) :=
 some ([])
def Gf (n:Nat) (h:Ty):Nat→(List Ty)→Int→Option ((List Ty))
 | 0,_,_=>none
 | m+1,g,b =>
  if decide (b<(h.fields.length:Int)) then
   (Cj h.fields b).bind fun q =>
   if (g.length+1)*104≤140737488355328∧g.length+1≤4611686018427387904 then
    if Bg (b+1) then
     (Gf n h m) (g++([q.2.2.2.1])) (b+1)
    else none
   else none
  else
   KJ n g
def Hl (n:Nat) (g:Ty) (b:Bool):Option ((List Ty)) :=
 if b then
  if 0≤(g.fields.length:Int)∧(g.fields.length:Int)*104≤140737488355328∧(g.fields.length:Int)≤4611686018427387904 then
   Gf n g n ([]) 0
  else none
 else
  Oy n 
def Ik (n:Nat) (b:Ty):Option ((List Ty)) :=
 if decide (b.kind=8) then
  some (b.elem)
 else
  if decide (b.kind=9) then
   Hl n b true
  else
   Hl n b (decide (b.kind=10))
theorem OY (w0:World) (n:Nat) (B:Ao) (Rw:Av) (L:As) (a0:Ty) (r:(List Ty)) (h:Ik n a0=some r) :
  ACalls Tryz.prog w0 93 [.agg (a0.cs)] ⟨B,Rw,L⟩ fun x st=>x = .list (r.map IX) .none∧st=⟨B,Rw,L⟩:=by
 rw [Ik] at h
 refine hd [.tmp 2] Tryz.func93 Tryz.ntmps93 fun M0 W0 p o l b w k hs=>?_
 simp only [AA]
 refine rg [1] hs ?_
 refine AB (fun e st=>Ck e st B Rw L [] [a0.cs] [] (Oy n  = some r)) ?_ ?_
 ·intro K4 u
  refine rg [1,7] hs ?_
  apply Ar
  refine rg [1,7,8] hs ?_
  refine B6 h hs ?_ ?_<;>intro hs h
  ·refine rg [2] hs ?_
   exact rt h hs b k
  refine AB (fun e st=>∃ (j:Bool),Ck e st B Rw L [(1,true,.box B.length 0),(12,true,.val (.bool j))] [a0.cs] [] (Hl n a0 j=some r)) ?_ ?_
  ·intro K11 t
   exact go (tg (a:=([1,7,12],([1,12],()),[1,12],()))) h hs p o l b k trivial (q1 t)
  ·clear h;rintro e st ⟨j,Xk10,Rk10,rfl,rfl,k,h⟩
   rw [Hl] at h
   refine td p o l b k ?_
   refine B6 h hs ?_ ?_<;>intro hs h
   ·obtain ⟨v,h⟩:=Aw h
    have k:=k.make 7 0
    refine rg [1,3] hs ?_
    refine AB (fun e st=>∃ (d:List Ty) (i:Ev.Own),Ck e st B Rw L [(3,true,.list (d.map IX) i)] [a0.cs] [(7,d.length,i)] (KJ n d=some r)) ?_ ?_
    ·intro K20 q
     refine rg [3,20,21,22] hs ?_
     apply Ar
     refine AC (fun m e st=>∃ (c:List Ty) (f:Int) (g:Ev.Own),Ck e st B Rw L [(3,true,.list (c.map IX) g),(20,true,.list (a0.fields.map BS) .none),(21,true,Am (a0.fields.length:Int)),(22,true,Am f)] [a0.cs] [(7,c.length,g)] (Gf n a0 m c f=some r)) n ⟨([]),0,((.row Rk10.length)),([]),((Rk10++[.grow 0 7])),ef hs,ef hs,Owns.of_eq (k) Ew,h⟩ ?_
     rintro ml22 e st ⟨c,f,g,Xl22,Rl22,rfl,rfl,k,h⟩ Ul22 Vl22
     cases ml22 with
     | zero=>cases h
     | succ ml22 =>
     rw [Gf] at h
     exact go (tg (a:=([3,20,21,22,23],([3,20,21,22],[3,5,20,21,22],[3,20,21,22],[3,20,21,22],()),[3],()))) h hs p o l b k (q1 (ae YQ RI)) (q2 q (fun e s=>Vl22 ml22 e s (Nat.lt_succ_self _)))
    ·clear h;rintro e st ⟨d,i,Xk19,Rk19,rfl,rfl,k,h⟩
     rw [KJ] at h
     exact go (tg (a:=([2],()))) h hs p o l b k trivial trivial
   refine sk [] hs u ?_
   exact ⟨([]),Rk10,ef hs,ef hs,k,h⟩
 ·clear h;rintro e st ⟨Xk3,Rk3,rfl,rfl,k,h⟩
  rw [Oy] at h
  refine td p o l b k ?_
  refine rg [2] hs ?_
  exact rt h hs b k
def Ir (t:Ty):List Ty:=if t.kind=8 then t.elem else if t.kind=9∨t.kind=10 then t.fields.map fun p=>p.2.2.2.1 else []
theorem ZcZ (n:Nat) (t:Ty) (hs:t.fields.length≤1000000000):∀ (k m i:Nat) (x:List Ty),i+k=t.fields.length→k<m→x.length=i→Gf n t m x i=some (x++(t.fields.drop i).map fun p=>p.2.2.2.1)
 | k,0,i,_,_,h,_=>absurd h (Nat.not_lt_zero _)
 | 0,m+1,i,x,hi,_,_=>by
  rw [Gf,AU,Ac]
  simp only [Bool.false_eq_true,if_false,KJ]
  rw [List.drop_eq_nil_of_le (by omega),List.map_nil,List.append_nil]
 | k+1,m+1,i,x,hi,hm,hx=>by
  have a:i<t.fields.length:=by omega
  rw [Gf,AU,Ah a]
  simp only [if_true,AN a,Af]
  rw [Ab,Ai (AW (by omega))]
  have ih:=ZcZ n t hs k m (i+1) (x++[t.fields[i].2.2.2.1]) (by omega) (by omega) (by simp [hx])
  rw [List.drop_eq_getElem_cons a,List.map_cons]
  rw [List.append_assoc] at ih
  exact ih
theorem Un (n:Nat) (t:Ty) (hn:t.fields.length<n) (hs:t.fields.length≤1000000000):Ik n t=some (Ir t):=by
 have a:Hl n t true=some (t.fields.map fun p=>p.2.2.2.1):=by
  rw [Hl,Ai rfl,Ab]
  have:=ZcZ n t hs t.fields.length n 0 [] (by omega) hn rfl
  rw [List.drop_zero,List.nil_append] at this
  exact this
 rw [Ik,Ir]
 by_cases h1:t.kind=8
 ·rw [Ai (Ah h1),Ai h1]
 rw [Aj (by rw [decide_eq_true_eq];exact h1),Aj h1]
 by_cases h2:t.kind=9
 ·rw [Ai (Ah h2),a,Ai (.inl h2)]
 rw [Aj (by rw [decide_eq_true_eq];exact h2)]
 by_cases h3:t.kind=10
 ·rw [Ah h3,a,Ai (.inr h3)]
 ·rw [Ag h3,Aa];rfl
theorem ZgR {a b:ByteArray} (h:a.data.toList=b.data.toList):a=b:=by
 cases a;cases b;simp at h;rw [h]
theorem Re (x y:ByteArray):GP x y=true↔x=y:=by
 unfold GP
 rw [beq_iff_eq]
 exact ⟨ZgR,fun h=>by rw [h]⟩
theorem Zby (x:ByteArray):GP x x=true:=(Re x x).2 rfl
theorem Yz {n:Nat} (h:n≤1048576):n≤maxLen:=by unfold maxLen;omega
theorem Vl.ext' {a b:Vl} (h1:a.kind=b.kind) (h2:a.int=b.int) (h3:a.scale=b.scale) (h4:a.text=b.text) (h5:a.list=b.list) (h6:a.fields=b.fields):a=b:=by
 rw [←a.eta,←b.eta,h1,h2,h3,h4,h5,h6]
theorem TF.ext' {p q:TF} (h1:p.1=q.1) (h2:p.2.1=q.2.1) (h3:p.2.2.1=q.2.2.1) (h4:p.2.2.2.1=q.2.2.2.1) (h5:p.2.2.2.2=q.2.2.2.2):p=q:=by
 obtain ⟨a,b,c,d,e⟩:=p
 obtain ⟨i,f,h,g,j⟩:=q
 simp only at h1 h2 h3 h4 h5
 rw [h1,h2,h3,h4,h5]
theorem Ty.ext' {a b:Ty} (h1:a.kind=b.kind) (h2:a.min=b.min) (h3:a.max=b.max) (h4:a.scale=b.scale) (h5:a.words=b.words) (h6:a.elem=b.elem) (h7:a.fields=b.fields):a=b:=by
 rw [←a.eta,←b.eta,h1,h2,h3,h4,h5,h6,h7]
def EW (b:Vl):Bool :=
 (((((decide (b.kind=0))&&(decide (b.int=0)))&&(decide (b.scale=0)))&&(GP b.text (⟨#[]⟩:ByteArray)))&&(decide ((b.list.length:Int)=0)))&&(decide ((b.fields.length:Int)=0))
theorem Xt (w0:World) (B:Ao) (Rw:Av) (L:As) (a0:Vl) (r:Bool) (h:EW a0=r) :
  ACalls Tryz.prog w0 147 [.agg (a0.cs)] ⟨B,Rw,L⟩ fun x st=>x = .val (.bool r)∧st=⟨B,Rw,L⟩:=by
 rw [EW] at h
 refine hd [.tmp 2] Tryz.func147 Tryz.ntmps147 fun M0 W0 f c b a e d hs=>?_
 simp only [AA]
 refine rg [1] hs ?_
 refine rg [2] hs ?_
 exact rT h hs a d
theorem Vt (w0:World) (B:Ao) (Rw:Av) (L:As) (a0:Vl) :
  ACalls Tryz.prog w0 147 [.agg (a0.cs)] ⟨B,Rw,L⟩ fun x st=>x = .val (.bool (EW a0))∧st=⟨B,Rw,L⟩:=Xt w0 B Rw L a0 _ rfl
def BL (b:Int) (g:Int) (h:Int):Int :=
 if (decide (b<g))||(decide (h<b)) then
  2
 else
  0
theorem VZ (w0:World) (B:Ao) (Rw:Av) (L:As) (a0:Int) (a1:Int) (a2:Int) (r:Int) (h:BL a0 a1 a2=r) :
  ACalls Tryz.prog w0 216 [Am a0,Am a1,Am a2] ⟨B,Rw,L⟩ fun x st=>x=Am r∧st=⟨B,Rw,L⟩:=by
 rw [BL] at h
 refine hd [.tmp 6] Tryz.func216 Tryz.ntmps216 fun M0 W0 f d c b g e hs=>?_
 simp only [AA]
 exact go (tg (a:=([0,1,2],[14],([6],()),[],[6],()))) h hs f d c b e trivial trivial
theorem GH (w0:World) (B:Ao) (Rw:Av) (L:As) (a0:Int) (a1:Int) (a2:Int) :
  ACalls Tryz.prog w0 216 [Am a0,Am a1,Am a2] ⟨B,Rw,L⟩ fun x st=>x=Am (BL a0 a1 a2)∧st=⟨B,Rw,L⟩:=VZ w0 B Rw L a0 a1 a2 _ rfl
def Ge (b:Vl):Int :=
 BL b.int 0 1
theorem VC (w0:World) (B:Ao) (Rw:Av) (L:As) (a0:Vl) (r:Int) (h:Ge a0=r) :
  ACalls Tryz.prog w0 215 [.agg (a0.cs)] ⟨B,Rw,L⟩ fun x st=>x=Am r∧st=⟨B,Rw,L⟩:=by
 rw [Ge] at h
 refine hd [.tmp 2] Tryz.func215 Tryz.ntmps215 fun M0 W0 f d c b g e hs=>?_
 simp only [AA]
 exact go (tg (a:=([1],[2],()))) h hs f d c b e (q1 (GH w0)) trivial
theorem Ub (w0:World) (B:Ao) (Rw:Av) (L:As) (a0:Vl) :
  ACalls Tryz.prog w0 215 [.agg (a0.cs)] ⟨B,Rw,L⟩ fun x st=>x=Am (Ge a0)∧st=⟨B,Rw,L⟩:=VC w0 B Rw L a0 _ rfl
def CY (b:Int) (g:Int) (h:Int):Int :=
 if decide (g<b) then
  h
 else
  0
theorem Zab (w0:World) (B:Ao) (Rw:Av) (L:As) (a0:Int) (a1:Int) (a2:Int) (r:Int) (h:CY a0 a1 a2=r) :
  ACalls Tryz.prog w0 221 [Am a0,Am a1,Am a2] ⟨B,Rw,L⟩ fun x st=>x=Am r∧st=⟨B,Rw,L⟩:=by
 rw [CY] at h
 refine hd [.tmp 6] Tryz.func221 Tryz.ntmps221 fun M0 W0 f d c b g e hs=>?_
 simp only [AA]
 exact go (tg (a:=([0,1,2],[2,9],([6],()),[],[6],()))) h hs f d c b e trivial trivial
theorem J5 (w0:World) (B:Ao) (Rw:Av) (L:As) (a0:Int) (a1:Int) (a2:Int) :
  ACalls Tryz.prog w0 221 [Am a0,Am a1,Am a2] ⟨B,Rw,L⟩ fun x st=>x=Am (CY a0 a1 a2)∧st=⟨B,Rw,L⟩:=Zab w0 B Rw L a0 a1 a2 _ rfl
def HH (b:Vl):Option Int :=
 if b.text.size≤maxLen then
  if !(EK b.text) then
   some (12)
  else
   if decide ((b.list.length:Int)=0) then
    some (4)
   else
    some (CY (b.list.length:Int) 1 3)
 else none
theorem Uk (w0:World) (B:Ao) (Rw:Av) (L:As) (a0:Vl) (r:Int) (h:HH a0=some r) :
  ACalls Tryz.prog w0 228 [.agg (a0.cs)] ⟨B,Rw,L⟩ fun x st=>x=Am r∧st=⟨B,Rw,L⟩:=by
 rw [HH] at h
 refine hd [.tmp 2] Tryz.func228 Tryz.ntmps228 fun M0 W0 f d c b g e hs=>?_
 simp only [AA]
 exact go (tg (a:=([1],[1,3],([2],()),[1,8],([2],()),[1],[2],()))) h hs f d c b e (q2 (NV w0) (J5 w0)) trivial
def FM (b:Vl):Int :=
 BL b.int ((-999999999999999)) 999999999999999
theorem VF (w0:World) (B:Ao) (Rw:Av) (L:As) (a0:Vl) (r:Int) (h:FM a0=r) :
  ACalls Tryz.prog w0 217 [.agg (a0.cs)] ⟨B,Rw,L⟩ fun x st=>x=Am r∧st=⟨B,Rw,L⟩:=by
 rw [FM] at h
 refine hd [.tmp 2] Tryz.func217 Tryz.ntmps217 fun M0 W0 f d c b g e hs=>?_
 simp only [AA]
 exact go (tg (a:=([1],[2],()))) h hs f d c b e (q1 (GH w0)) trivial
theorem TX (w0:World) (B:Ao) (Rw:Av) (L:As) (a0:Vl) :
  ACalls Tryz.prog w0 217 [.agg (a0.cs)] ⟨B,Rw,L⟩ fun x st=>x=Am (FM a0)∧st=⟨B,Rw,L⟩:=VF w0 B Rw L a0 _ rfl
def L0 (n:Nat)  : Option Int :=
 some (0)
def GZ (n:Nat) (h:List Int):Nat→Int→Option Int
 | 0,_=>none
 | m+1,b =>
  if decide (b<(h.length:Int)) then
   (Cj h b).bind fun g =>
   if !(decide (g=0)) then
    some (g)
   else
    if Bg (b+1) then
     (GZ n h m) (b+1)
    else none
  else
   L0 n 
def LH (n:Nat) (b:List Int):Option Int :=
 GZ n b n 0
theorem Zh (w0:World) (n:Nat) (B:Ao) (Rw:Av) (L:As) (a0:List Int) (r:Int) (h:LH n a0=some r) :
  ACalls Tryz.prog w0 219 [.list (a0.map Yi) .none] ⟨B,Rw,L⟩ fun x st=>x=Am r∧st=⟨B,Rw,L⟩:=by
 rw [LH] at h
 refine hd [.tmp 2] Tryz.func219 Tryz.ntmps219 fun M0 W0 j g f b k d hs=>?_
 simp only [AA]
 refine rg [0] hs ?_
 refine AB (fun e st=>Ck e st B Rw L [] [] [] (L0 n  = some r)) ?_ ?_
 ·intro K4 i
  refine rg [5,6,7] hs ?_
  apply Ar
  refine AC (fun m e st=>∃ (c:Int),Ck e st B Rw L [(5,true,.list (a0.map Yi) .none),(6,true,Am (a0.length:Int)),(7,true,Am c)] [] [] (GZ n a0 m c=some r)) n ⟨0,([]),Rw,ef hs,ef hs,d,h⟩ ?_
  rintro ml6 e st ⟨c,Xl6,Rl6,rfl,rfl,d,h⟩ Ul6 Vl6
  cases ml6 with
  | zero=>cases h
  | succ ml6 =>
  rw [GZ] at h
  exact go (tg (a:=([5,6,7,8],([5,6,7],[4,5,6,7],[4,5,6,7,12],([2],()),[5,6,7],[5,6,7],()),[],()))) h hs j g f b d trivial (q2 i (fun e s=>Vl6 ml6 e s (Nat.lt_succ_self _)))
 ·clear h;rintro e st ⟨Xk3,Rk3,rfl,rfl,d,h⟩
  rw [L0] at h
  refine td j g f b d ?_
  refine rg [2] hs ?_
  exact rt h hs b d
def I2 (n:Nat) (b:Vl):Option Int :=
 (LH n ([BL b.int ((-999999999999999)) 999999999999999,BL b.scale 0 12])).bind fun g =>
 some (g)
theorem Wi (w0:World) (n:Nat) (B:Ao) (Rw:Av) (L:As) (a0:Vl) (r:Int) (h:I2 n a0=some r) :
  ACalls Tryz.prog w0 218 [.agg (a0.cs)] ⟨B,Rw,L⟩ fun x st=>x=Am r∧st=⟨B,Rw,L⟩:=by
 rw [I2] at h
 refine hd [.tmp 2] Tryz.func218 Tryz.ntmps218 fun M0 W0 f d c b g e hs=>?_
 simp only [AA]
 exact go (tg (a:=([1],[9,2],()))) h hs f d c b e (q2 (GH w0) (Zh w0 n)) trivial
def Gg  (b:Int):Option Int :=
 some (b)
def IR (b:Vl):Option Int :=
 if decide ((CY (b.text.size:Int) 1024 5)=0) then
  if b.text.size≤maxLen then
   if !(Lib.validD b.text.data.toList) then
    Gg  16
   else
    Gg  (CY (b.text.size:Int) 1024 5)
  else none
 else
  Gg  (CY (b.text.size:Int) 1024 5)
theorem Wb (w0:World) (hT:Lib.Utf8Tabs 2 3 w0) (B:Ao) (Rw:Av) (L:As) (a0:Vl) (r:Int) (h:IR a0=some r) :
  ACalls Tryz.prog w0 220 [.agg (a0.cs)] ⟨B,Rw,L⟩ fun x st=>x=Am r∧st=⟨B,Rw,L⟩:=by
 rw [IR] at h
 refine hd [.tmp 2] Tryz.func220 Tryz.ntmps220 fun M0 W0 k f d c l i hs=>?_
 simp only [AA]
 refine rg [1] hs ?_
 refine rc 2 [1,3] hs ?_;intro K2 g
 refine Ax _ (J5 w0 _ _ _ (a0.text.size:Int) 1024 5) (hv hs) ?_
 refine ne hs g ?_
 clear g
 refine AB (fun e st=>∃ (b:Int),Ck e st B Rw L [(3,true,Am b)] [a0.cs] [] (Gg  b=some r)) ?_ ?_
 ·intro K5 j
  exact go (tg (a:=(([3,15],([3],()),[3],()),[3,15],[3],()))) h hs k f d c i (q1 (Yc w0)) (q1 j)
 ·clear h;rintro e st ⟨b,Xk4,Rk4,rfl,rfl,i,h⟩
  rw [Gg] at h
  refine td k f d c i ?_
  refine rg [2] hs ?_
  exact rt h hs c i
def FK (b:Vl):Int :=
 CY (b.text.size:Int) 1024 5
theorem Wh (w0:World) (B:Ao) (Rw:Av) (L:As) (a0:Vl) (r:Int) (h:FK a0=r) :
  ACalls Tryz.prog w0 223 [.agg (a0.cs)] ⟨B,Rw,L⟩ fun x st=>x=Am r∧st=⟨B,Rw,L⟩:=by
 rw [FK] at h
 refine hd [.tmp 2] Tryz.func223 Tryz.ntmps223 fun M0 W0 f d c b g e hs=>?_
 simp only [AA]
 exact go (tg (a:=([1],[2],()))) h hs f d c b e (q1 (J5 w0)) trivial
theorem TY (w0:World) (B:Ao) (Rw:Av) (L:As) (a0:Vl) :
  ACalls Tryz.prog w0 223 [.agg (a0.cs)] ⟨B,Rw,L⟩ fun x st=>x=Am (FK a0)∧st=⟨B,Rw,L⟩:=Wh w0 B Rw L a0 _ rfl
def F8 (b:Vl):Int :=
 BL b.int ((-719162)) 2932896
theorem VK (w0:World) (B:Ao) (Rw:Av) (L:As) (a0:Vl) (r:Int) (h:F8 a0=r) :
  ACalls Tryz.prog w0 224 [.agg (a0.cs)] ⟨B,Rw,L⟩ fun x st=>x=Am r∧st=⟨B,Rw,L⟩:=by
 rw [F8] at h
 refine hd [.tmp 2] Tryz.func224 Tryz.ntmps224 fun M0 W0 f d c b g e hs=>?_
 simp only [AA]
 exact go (tg (a:=([1],[2],()))) h hs f d c b e (q1 (GH w0)) trivial
theorem Ue (w0:World) (B:Ao) (Rw:Av) (L:As) (a0:Vl) :
  ACalls Tryz.prog w0 224 [.agg (a0.cs)] ⟨B,Rw,L⟩ fun x st=>x=Am (F8 a0)∧st=⟨B,Rw,L⟩:=VK w0 B Rw L a0 _ rfl
def FR (b:Vl):Int :=
 BL b.int ((-62135596800000)) 253402300799999
theorem VG (w0:World) (B:Ao) (Rw:Av) (L:As) (a0:Vl) (r:Int) (h:FR a0=r) :
  ACalls Tryz.prog w0 225 [.agg (a0.cs)] ⟨B,Rw,L⟩ fun x st=>x=Am r∧st=⟨B,Rw,L⟩:=by
 rw [FR] at h
 refine hd [.tmp 2] Tryz.func225 Tryz.ntmps225 fun M0 W0 f d c b g e hs=>?_
 simp only [AA]
 exact go (tg (a:=([1],[2],()))) h hs f d c b e (q1 (GH w0)) trivial
theorem TV (w0:World) (B:Ao) (Rw:Av) (L:As) (a0:Vl) :
  ACalls Tryz.prog w0 225 [.agg (a0.cs)] ⟨B,Rw,L⟩ fun x st=>x=Am (FR a0)∧st=⟨B,Rw,L⟩:=VG w0 B Rw L a0 _ rfl
def FP (b:Vl):Int :=
 CY (b.list.length:Int) 256 9
theorem Vp (w0:World) (B:Ao) (Rw:Av) (L:As) (a0:Vl) (r:Int) (h:FP a0=r) :
  ACalls Tryz.prog w0 226 [.agg (a0.cs)] ⟨B,Rw,L⟩ fun x st=>x=Am r∧st=⟨B,Rw,L⟩:=by
 rw [FP] at h
 refine hd [.tmp 2] Tryz.func226 Tryz.ntmps226 fun M0 W0 f d c b g e hs=>?_
 simp only [AA]
 exact go (tg (a:=([1],[2],()))) h hs f d c b e (q1 (J5 w0)) trivial
theorem TT (w0:World) (B:Ao) (Rw:Av) (L:As) (a0:Vl) :
  ACalls Tryz.prog w0 226 [.agg (a0.cs)] ⟨B,Rw,L⟩ fun x st=>x=Am (FP a0)∧st=⟨B,Rw,L⟩:=Vp w0 B Rw L a0 _ rfl
def JG (n:Nat)  : Option Int :=
 some (0)
def Dk (n:Nat) (h:Vl):Nat→Int→Option Int
 | 0,_=>none
 | m+1,b =>
  if decide (b<(h.fields.length:Int)) then
   (Cj h.fields b).bind fun g =>
   if g.1.size≤maxLen then
    if !(EK g.1) then
     some (12)
    else
     if decide (0<b) then
      if Bg (b-1) then
       (Cj h.fields (b-1)).bind fun q =>
       if GP g.1 q.1 then
        some (7)
       else
        if Bg (b-1) then
         if ZP g.1 q.1 then
          some (24)
         else
          if Bg (b+1) then
           (Dk n h m) (b+1)
          else none
        else none
      else none
     else
      if Bg (b+1) then
       (Dk n h m) (b+1)
      else none
   else none
  else
   JG n 
def I0 (n:Nat) (b:Vl):Option Int :=
 if !(decide ((CY (b.fields.length:Int) 64 9)=0)) then
  some (CY (b.fields.length:Int) 64 9)
 else
  Dk n b n 0
theorem Wj (w0:World) (n:Nat) (B:Ao) (Rw:Av) (L:As) (a0:Vl) (r:Int) (h:I0 n a0=some r) :
  ACalls Tryz.prog w0 227 [.agg (a0.cs)] ⟨B,Rw,L⟩ fun x st=>x=Am r∧st=⟨B,Rw,L⟩:=by
 rw [I0] at h
 refine hd [.tmp 2] Tryz.func227 Tryz.ntmps227 fun M0 W0 l g f c o d hs=>?_
 simp only [AA]
 refine rg [1] hs ?_
 apply An;intro K2 i
 refine rc 2 [1,3] hs ?_;intro K3 j
 refine Ax _ (J5 w0 _ _ _ (a0.fields.length:Int) 64 9) (hv hs) ?_
 refine ne hs j ?_
 clear j
 refine rg [1,3,11] hs ?_
 refine B6 h hs ?_ ?_<;>intro hs h
 ·refine rg [2] hs ?_
  exact rt h hs c d
 refine sk [1] hs i ?_
 clear i
 refine AB (fun e st=>Ck e st B Rw L [] [a0.cs] [] (JG n  = some r)) ?_ ?_
 ·intro K9 k
  refine rg [1,14,15,16] hs ?_
  apply Ar
  refine AC (fun m e st=>∃ (b:Int),Ck e st B Rw L [(1,true,.box B.length 0),(14,true,.list (a0.fields.map QY) .none),(15,true,Am (a0.fields.length:Int)),(16,true,Am b)] [a0.cs] [] (Dk n a0 m b=some r)) n ⟨0,([]),Rw,ef hs,ef hs,d,h⟩ ?_
  rintro ml11 e st ⟨b,Xl11,Rl11,rfl,rfl,d,h⟩ Ul11 Vl11
  cases ml11 with
  | zero=>cases h
  | succ ml11 =>
  rw [Dk] at h
  exact go (tg (a:=([1,14,15,16,17],([1,14,15,16],[1,4,5,14,15,16],[1,4,5,14,15,16,21],([2],()),([15,1,4,5,14,15,16,26],([2],()),[15,1,14,15,16,41],([2],()),[1,14,15,16],[1,14,15,16],()),[15,1,4,5,14,15,16,26],[15,1,14,15,16,41],[1,14,15,16],[1,14,15,16],()),[],()))) h hs l g f c d (q1 (NV w0)) (q2 k (fun e s=>Vl11 ml11 e s (Nat.lt_succ_self _)))
 ·clear h;rintro e st ⟨Xk8,Rk8,rfl,rfl,d,h⟩
  rw [JG] at h
  refine td l g f c d ?_
  refine rg [2] hs ?_
  exact rt h hs c d
def Ll (b:Vl):Bool :=
 (((((((((decide (b.kind=1))||(decide (b.kind=2)))||(decide (b.kind=6)))||(decide (b.kind=7)))||(decide (b.kind=3)))||(decide (b.int=0)))&&((decide (b.kind=3))||(decide (b.scale=0))))&&((((decide (b.kind=4))||(decide (b.kind=5)))||(decide (b.kind=10)))||(GP b.text (⟨#[]⟩:ByteArray))))&&(((decide (b.kind=8))||(decide (b.kind=10)))||(decide ((b.list.length:Int)=0))))&&((decide (b.kind=9))||(decide ((b.fields.length:Int)=0)))
theorem ZaW (w0:World) (B:Ao) (Rw:Av) (L:As) (a0:Vl) (r:Bool) (h:Ll a0=r) :
  ACalls Tryz.prog w0 148 [.agg (a0.cs)] ⟨B,Rw,L⟩ fun x st=>x = .val (.bool r)∧st=⟨B,Rw,L⟩:=by
 rw [Ll] at h
 refine hd [.tmp 2] Tryz.func148 Tryz.ntmps148 fun M0 W0 f d c b g e hs=>?_
 simp only [AA]
 exact go (tg (a:=([1],[1,3],[1,3,4],[1,3,4,5],[2],()))) h (al hs) f d c b e trivial trivial
theorem Yb (w0:World) (B:Ao) (Rw:Av) (L:As) (a0:Vl) :
  ACalls Tryz.prog w0 148 [.agg (a0.cs)] ⟨B,Rw,L⟩ fun x st=>x = .val (.bool (Ll a0))∧st=⟨B,Rw,L⟩:=ZaW w0 B Rw L a0 _ rfl
def Bi (n:Nat)  : List (Nat × Vl)→Int→Option Int
 | [],b3_r7 =>
  some (0)
 | p_r7::rest,b3_r7 =>
  if Bg (b3_r7+1) then
   if decide (4096<(b3_r7+1)) then
    some (9)
   else
    if decide (8<(p_r7.1:Int)) then
     some (23)
    else
     if EW p_r7.2 then
      some (19)
     else
      if (decide (p_r7.2.kind<1))||(decide (10<p_r7.2.kind)) then
       some (11)
      else
       if !(Ll p_r7.2) then
        some (3)
       else
        if decide (p_r7.2.kind=0) then
         none
        else
         if decide (p_r7.2.kind=1) then
          if !(decide ((Ge p_r7.2)=0)) then
           some (Ge p_r7.2)
          else
           (Bi n rest) (b3_r7+1)
         else
          if decide (p_r7.2.kind=2) then
           if !(decide ((FM p_r7.2)=0)) then
            some (FM p_r7.2)
           else
            (Bi n rest) (b3_r7+1)
          else
           if decide (p_r7.2.kind=3) then
            (I2 n p_r7.2).bind fun g =>
            if !(decide (g=0)) then
             some (g)
            else
             (Bi n rest) (b3_r7+1)
           else
            if decide (p_r7.2.kind=4) then
             (IR p_r7.2).bind fun h =>
             if !(decide (h=0)) then
              some (h)
             else
              (Bi n rest) (b3_r7+1)
            else
             if decide (p_r7.2.kind=5) then
              if !(decide ((FK p_r7.2)=0)) then
               some (FK p_r7.2)
              else
               (Bi n rest) (b3_r7+1)
             else
              if decide (p_r7.2.kind=6) then
               if !(decide ((F8 p_r7.2)=0)) then
                some (F8 p_r7.2)
               else
                (Bi n rest) (b3_r7+1)
              else
               if decide (p_r7.2.kind=7) then
                if !(decide ((FR p_r7.2)=0)) then
                 some (FR p_r7.2)
                else
                 (Bi n rest) (b3_r7+1)
               else
                if decide (p_r7.2.kind=8) then
                 if !(decide ((FP p_r7.2)=0)) then
                  some (FP p_r7.2)
                 else
                  (Bi n rest) (b3_r7+1)
                else
                 if decide (p_r7.2.kind=9) then
                  (I0 n p_r7.2).bind fun b =>
                  if !(decide (b=0)) then
                   some (b)
                  else
                   (Bi n rest) (b3_r7+1)
                 else
                  if decide (p_r7.2.kind=10) then
                   (HH p_r7.2).bind fun q =>
                   if !(decide (q=0)) then
                    some (q)
                   else
                    (Bi n rest) (b3_r7+1)
                  else
                   none
  else none
def Gj (n:Nat) (b:Vl):Option Int :=
 if b.depth<4611686018427387904∧b.wide=true then
  Bi n (FH 1 b) 0
 else none
theorem OB (w0:World) (hT:Lib.Utf8Tabs 2 3 w0) (n:Nat) (B:Ao) (Rw:Av) (L:As) (a0:Vl) (r:Int) (h:Gj n a0=some r) :
  ACalls Tryz.prog w0 60 [.agg (a0.cs)] ⟨B,Rw,L⟩ fun x st=>x=Am r∧st=⟨B,Rw,L⟩:=by
 rw [Gj] at h
 refine hd [.cell 2 41] Tryz.func60 Tryz.ntmps60 fun M0 W0 o g f b hu j hs=>?_
 simp only [AA]
 refine rg [1,2] hs ?_
 apply An;intro K2 w
 apply Au 2 [1,2,3]
 rw [Ap];simp +decide only [go_sem,Nat.reduceAdd,Rz]
 (repeat' apply Ae)<;>first | refine Ax _ (ZbS w0 _ _ _ ) (by first | rfl | (simp +decide only [go_sem,Nat.reduceAdd,Rz];done) | (simp +decide only [go_sem,Nat.reduceAdd,Vl.cs,Ty.cs,Rz];done)) ?_ | exact cl
 rw [Ap];simp +decide only [go_sem,Nat.reduceAdd,Rz]
 (repeat' apply Ae)<;>first | refine w _ _ ?_ | exact cl
 clear w
 refine rg [1,2,3,4] hs ?_
 apply An;intro K4 O
 refine rc 2 [2,3,4,10] hs ?_;intro K5 af
 refine EI _ (QI w0 _ _ _ a0) (hv hs) ?_;rintro _ _ ⟨rfl,rfl⟩
 refine ne hs af ?_
 clear af
 apply Ar
 obtain ⟨ah,h⟩:=Aw h
 refine Us (Je a0) (fun st=>st.boxes[(B.length+4)]? = some a0.cs) (fun i st=>∃ (d:Int) (Rr7:Av),st=⟨B++([a0.cs,[Am 0],[.val .nilFunc,.clo 215 [],.clo 217 [],.clo 218 [],.clo 220 [],.clo 223 [],.clo 224 [],.clo 225 [],.clo 226 [],.clo 227 [],.clo 228 []],[Am d],a0.cs]),Rr7,L⟩∧Owns Rw Rr7 []∧Bi n ((FH 1 a0).drop i) d=some r) (fun ex st=>ex = .ret∧∃ (z0:List AV) (z2:List AV) (z3:List AV) (z4:List AV) (rows:Av),st=⟨B++[z0,[Am r],z2,z3,z4],rows,L⟩∧Owns Rw rows []) ev ev (Oe w0 a0 ah _) (fun x z=>S1 a0 x z) (by decide) ?_ ⟨0,Rw,ef hs,j,h⟩ (fun _ _ h => .inl h.1) ?_ ?_ ?_
 ·rintro i st la ⟨d,Rr7,rfl,j,h⟩ _ _;simp +decide [St.push]
 ·rintro i s1 ⟨XB,XR,XL⟩ x M1 W1 l la aa hX hI ai ag z Z K hK
  obtain ⟨c,aj,rfl,hi⟩:=SH a0 i x z
  (try simp only at hX)
  subst hX
  obtain ⟨d,Rr7,rfl,j,h⟩:=hI
  rw [W3 aj,Bi] at h
  have m:=j
  simp only [St.ext,St.push,List.append_assoc,List.append_nil]
  refine rg [2,3,4,5,12] hs ?_
  apply Au 1 [2,3,4,5,6]
  rw [Ap];simp +decide only [go_sem,Nat.reduceAdd]
  (repeat' apply Ae)<;>first | refine hK _ _ (by simp [St.ext,St.push]) (fun KQ ae=>?_) | exact cl
  clear hK
  dsimp only [St.ext,St.push]
  have kr:∀ (e:Env) (x:Int),x=r→∀ G,KQ .ret e ⟨B++(a0.cs::[Am x]::[.val .nilFunc,.clo 215 [],.clo 217 [],.clo 218 [],.clo 220 [],.clo 223 [],.clo 224 [],.clo 225 [],.clo 226 [],.clo 227 [],.clo 228 []]::[Am (d+1)]::a0.cs::(XB++G)),Rr7,L++aa::XL⟩:=by
   intro e x z G
   rw [z]
   exact ae _ _ _ ⟨⟨B++[a0.cs,[Am r],[.val .nilFunc,.clo 215 [],.clo 217 [],.clo 218 [],.clo 220 [],.clo 223 [],.clo 224 [],.clo 225 [],.clo 226 [],.clo 227 [],.clo 228 []],[Am (d+1)],a0.cs],Rr7,L⟩,G,by simp only [List.append_assoc,List.cons_append,List.nil_append],⟨by simp,by first | exact Nat.le_refl _ | (have:=j.len;simp;omega),rfl⟩,rfl,⟨rfl,_,_,_,_,Rr7,rfl,j.sub (List.nil_sublist _)⟩,.inr (TD Z m j rfl (ln j m) ap_ ow)⟩
  have p:∀ (e:Env) (G:Ao),Bi n ((FH 1 a0).drop (i+1)) (d+1)=some r→KQ .normal e ⟨B++(a0.cs::[Am 0]::[.val .nilFunc,.clo 215 [],.clo 217 [],.clo 218 [],.clo 220 [],.clo 223 [],.clo 224 [],.clo 225 [],.clo 226 [],.clo 227 [],.clo 228 []]::[Am (d+1)]::a0.cs::(XB++G)),Rr7,L++aa::XL⟩:=fun e G h=>ae _ _ _ ⟨⟨B++[a0.cs,[Am 0],[.val .nilFunc,.clo 215 [],.clo 217 [],.clo 218 [],.clo 220 [],.clo 223 [],.clo 224 [],.clo 225 [],.clo 226 [],.clo 227 [],.clo 228 []],[Am (d+1)],a0.cs],Rr7,L⟩,G,by simp only [List.append_assoc,List.cons_append,List.nil_append],⟨by simp,by first | exact Nat.le_refl _ | (have:=j.len;simp;omega),rfl⟩,rfl,⟨(d+1),Rr7,rfl,j,h⟩,.inr (TD Z m j rfl (ln j m) ap_ ow)⟩
  apply Ar
  obtain ⟨ak,h⟩:=Aw h
  refine rg [2,3,4,5,6] hs ?_
  apply An;intro K11 t
  apply Ar
  refine rg [2,3,5,6,15] hs ?_
  refine B6 h hs ?_ ?_<;>intro hs h
  ·have Q:=hs.1
   exact go (tg (a:=([2],()))) h hs o g f b j trivial (q2 kr p)
  have Q:=hs.1
  refine rg [2,3,6,18] hs ?_
  refine B6 h hs ?_ ?_<;>intro hs h
  ·have C:=hs.1
   exact go (tg (a:=([2],()))) h hs o g f b j trivial (q2 kr p)
  have C:=hs.1
  refine rc 2 [2,3,6,21] hs ?_;intro K18 u
  refine Ax _ (Vt w0 _ _ _ c.2) (hv hs) ?_
  refine ne hs u ?_
  clear u
  refine B6 h hs ?_ ?_<;>intro hs h
  ·have J:=hs.1
   exact go (tg (a:=([2],()))) h hs o g f b j trivial (q2 kr p)
  have J:=hs.1
  refine rg [2,3,6,24] hs ?_
  refine B6 h hs ?_ ?_<;>intro hs h
  ·have V:=hs.1
   exact go (tg (a:=([2],()))) h hs o g f b j trivial (q2 kr p)
  have V:=hs.1
  refine rc 2 [2,3,6,33] hs ?_;intro K24 q
  refine Ax _ (Yb w0 _ _ _ c.2) (hv hs) ?_
  refine ne hs q ?_
  clear q
  refine B6 h hs ?_ ?_<;>intro hs h
  ·have D:=hs.1
   exact go (tg (a:=([2],()))) h hs o g f b j trivial (q2 kr p)
  have D:=hs.1
  refine sk [2,3,6] hs t ?_
  clear t
  apply An;intro K27 k
  rcases Bool.eq_false_or_eq_true (decide (c.2.kind=0)) with hf28 | hf28
  ·replace h:=Bq h hf28
   have am:c.2.kind=0:=of_decide_eq_true hf28
   cases h
  ·replace h:=Bo h hf28
   rcases Bool.eq_false_or_eq_true (decide (c.2.kind=1)) with hf30 | hf30
   ·replace h:=Bq h hf30
    have H:c.2.kind=1:=of_decide_eq_true hf30
    exact go (tg (a:=([7,2,7],[2,7,44],([2],()),([]:List Nat),()))) h (Ae H (Ae hf30 (Ae hf28 hs))) o g f b j (q1 (Ub w0)) (q3 kr p k)
   ·replace h:=Bo h hf30
    rcases Bool.eq_false_or_eq_true (decide (c.2.kind=2)) with hf35 | hf35
    ·replace h:=Bq h hf35
     have U:c.2.kind=2:=of_decide_eq_true hf35
     exact go (tg (a:=([7,2,7],[2,7,44],([2],()),([]:List Nat),()))) h (Ae U (Ae hf35 (Ae hf30 (Ae hf28 hs)))) o g f b j (q1 (TX w0)) (q3 kr p k)
    ·replace h:=Bo h hf35
     rcases Bool.eq_false_or_eq_true (decide (c.2.kind=3)) with hf40 | hf40
     ·replace h:=Bq h hf40
      have E:c.2.kind=3:=of_decide_eq_true hf40
      exact go (tg (a:=([7,2,7],[2,7,44],([2],()),([]:List Nat),()))) h (Ae E (Ae hf40 (Ae hf35 (Ae hf30 (Ae hf28 hs))))) o g f b j (q1 (Wi w0 n)) (q3 kr p k)
     ·replace h:=Bo h hf40
      rcases Bool.eq_false_or_eq_true (decide (c.2.kind=4)) with hf46 | hf46
      ·replace h:=Bq h hf46
       have ab:c.2.kind=4:=of_decide_eq_true hf46
       exact go (tg (a:=([7,2,7],[2,7,44],([2],()),([]:List Nat),()))) h (Ae ab (Ae hf46 (Ae hf40 (Ae hf35 (Ae hf30 (Ae hf28 hs)))))) o g f b j (q1 (Wb w0 hT)) (q3 kr p k)
      ·replace h:=Bo h hf46
       rcases Bool.eq_false_or_eq_true (decide (c.2.kind=5)) with hf52 | hf52
       ·replace h:=Bq h hf52
        have ad:c.2.kind=5:=of_decide_eq_true hf52
        exact go (tg (a:=([7,2,7],[2,7,44],([2],()),([]:List Nat),()))) h (Ae ad (Ae hf52 (Ae hf46 (Ae hf40 (Ae hf35 (Ae hf30 (Ae hf28 hs))))))) o g f b j (q1 (TY w0)) (q3 kr p k)
       ·replace h:=Bo h hf52
        rcases Bool.eq_false_or_eq_true (decide (c.2.kind=6)) with hf57 | hf57
        ·replace h:=Bq h hf57
         have N:c.2.kind=6:=of_decide_eq_true hf57
         exact go (tg (a:=([7,2,7],[2,7,44],([2],()),([]:List Nat),()))) h (Ae N (Ae hf57 (Ae hf52 (Ae hf46 (Ae hf40 (Ae hf35 (Ae hf30 (Ae hf28 hs)))))))) o g f b j (q1 (Ue w0)) (q3 kr p k)
        ·replace h:=Bo h hf57
         rcases Bool.eq_false_or_eq_true (decide (c.2.kind=7)) with hf62 | hf62
         ·replace h:=Bq h hf62
          have y:c.2.kind=7:=of_decide_eq_true hf62
          exact go (tg (a:=([7,2,7],[2,7,44],([2],()),([]:List Nat),()))) h (Ae y (Ae hf62 (Ae hf57 (Ae hf52 (Ae hf46 (Ae hf40 (Ae hf35 (Ae hf30 (Ae hf28 hs))))))))) o g f b j (q1 (TV w0)) (q3 kr p k)
         ·replace h:=Bo h hf62
          rcases Bool.eq_false_or_eq_true (decide (c.2.kind=8)) with hf67 | hf67
          ·replace h:=Bq h hf67
           have Y:c.2.kind=8:=of_decide_eq_true hf67
           exact go (tg (a:=([7,2,7],[2,7,44],([2],()),([]:List Nat),()))) h (Ae Y (Ae hf67 (Ae hf62 (Ae hf57 (Ae hf52 (Ae hf46 (Ae hf40 (Ae hf35 (Ae hf30 (Ae hf28 hs)))))))))) o g f b j (q1 (TT w0)) (q3 kr p k)
          ·replace h:=Bo h hf67
           rcases Bool.eq_false_or_eq_true (decide (c.2.kind=9)) with hf72 | hf72
           ·replace h:=Bq h hf72
            have F:c.2.kind=9:=of_decide_eq_true hf72
            exact go (tg (a:=([7,2,7],[2,7,44],([2],()),([]:List Nat),()))) h (Ae F (Ae hf72 (Ae hf67 (Ae hf62 (Ae hf57 (Ae hf52 (Ae hf46 (Ae hf40 (Ae hf35 (Ae hf30 (Ae hf28 hs))))))))))) o g f b j (q1 (Wj w0 n)) (q3 kr p k)
           ·replace h:=Bo h hf72
            rcases Bool.eq_false_or_eq_true (decide (c.2.kind=10)) with hf78 | hf78
            ·replace h:=Bq h hf78
             have v:c.2.kind=10:=of_decide_eq_true hf78
             exact go (tg (a:=([7,2,7],[2,7,44],([2],()),([]:List Nat),()))) h (Ae v (Ae hf78 (Ae hf72 (Ae hf67 (Ae hf62 (Ae hf57 (Ae hf52 (Ae hf46 (Ae hf40 (Ae hf35 (Ae hf30 (Ae hf28 hs)))))))))))) o g f b j (q1 (Uk w0)) (q3 kr p k)
            ·replace h:=Bo h hf78
             cases h
 ·rintro s la ⟨XB,XR,XL⟩ hXR ⟨d,Rr7,rfl,j,h⟩ _ _
  simp only at hXR
  subst hXR
  rw [List.drop_eq_nil_of_le (by rw [Of];exact Nat.le_refl _),Bi] at h
  simp only [St.ext,St.push,List.append_assoc,List.append_nil]
  (repeat' apply Ae)<;>first | refine O _ _ ?_ | exact cl
  clear O
  refine U9 (bs:=[a0.cs,[Am 0],[.val .nilFunc,.clo 215 [],.clo 217 [],.clo 218 [],.clo 220 [],.clo 223 [],.clo 224 [],.clo 225 [],.clo 226 [],.clo 227 [],.clo 228 []],[Am d],a0.cs]) o g f rfl b j ow ow ?_
  refine rg [2] hs ?_
  exact rt h hs b j
 ·rintro ex s la ⟨XB,XR,XL⟩ hXR ⟨rfl,z0,z2,z3,z4,rows,rfl,j⟩ _ _
  simp only at hXR
  subst hXR
  simp only [St.ext,St.push,List.append_assoc,List.append_nil]
  simp +decide only [go_sem,Nat.reduceAdd]
  (repeat' with_reducible apply Ae)<;>first | refine Ziq b rfl j.pre ev ⟨?_,rfl⟩ | (intros;omega) | (intros;simp_all;done)
  first | rfl | (simp +decide only [go_sem,Nat.reduceAdd];done)
def BV (b:Int) (g:Int) (h:Int):Bool :=
 (decide (b<g))||(decide (h<b))
def Dm (b:Vl):Bool :=
 (((((!((((decide (1≤b.kind))&&(decide (b.kind≤3)))||(decide (b.kind=6)))||(decide (b.kind=7))))&&(!(decide (b.int=0))))||((!(decide (b.kind=3)))&&(!(decide (b.scale=0)))))||((!(((decide (b.kind=4))||(decide (b.kind=5)))||(decide (b.kind=10))))&&(!(GP b.text (⟨#[]⟩:ByteArray)))))||((!((decide (b.kind=8))||(decide (b.kind=10))))&&(decide (0<(b.list.length:Int)))))||((!(decide (b.kind=9)))&&(decide (0<(b.fields.length:Int))))
def BM (b:Ty) (g:Int) (h:Int):Bool :=
 ((decide (g≤b.min))&&(decide (b.max≤h)))&&(decide (b.min≤b.max))
def KW (b:Int) (g:Bool):(Int × Int) :=
 if g then
  (0,1024)
 else
  if decide (b=6) then
   ((-719162),2932896)
  else
   if decide (b=7) then
    ((-62135596800000),253402300799999)
   else
    (0,256)
def ME (b:Int) (g:Bool):(Int × Int) :=
 if g then
  ((-999999999999999),999999999999999)
 else
  if decide (b=4) then
   KW b true
  else
   KW b (decide (b=5))
def AO (b:Int):(Int × Int) :=
 if decide (b=2) then
  ME b true
 else
  ME b (decide (b=3))
def A8 (b:Ty):Bool :=
 (((((!(decide (2≤b.kind)&&decide (b.kind≤8)))&&((!(decide (b.min=0)))||(!(decide (b.max=0)))))||((!(decide (b.kind=3)))&&(!(decide (b.scale=0)))))||((!(decide (b.kind=4)))&&(decide (0<(b.words.length:Int)))))||((!(decide (b.kind=8)))&&(decide (0<(b.elem.length:Int)))))||(((!(decide (b.kind=9)))&&(!(decide (b.kind=10))))&&(decide (0<(b.fields.length:Int))))
theorem XA {j:Nat}:((j+1:Nat):Int)-1=(j:Int):=by omega
theorem ZJ {j:Nat}:decide (0<((j+1:Nat):Int))=true:=Ah (by omega)
theorem ZF {k:Nat} (h:k<1000000000000):Bg (k:Int):=by unfold Bg;omega
def Zar:Option ByteArray→List ByteArray→Int
 | _,[]=>0
 | none,x::r=>if EK x=true then Zar (some x) r else 12
 | some p,x::r=>if EK x=true then (if GP x p=true then 7 else if ZP x p=true then 24 else Zar (some x) r) else 12
def YH (l:List (ByteArray × Vl)):Nat→Option ByteArray
 | 0=>none
 | i+1=>(l[i]?).map Prod.fst
theorem Zt (n:Nat) (v:Vl) (hl:(v.fields).length≤1000000000000) (hz:∀ p∈v.fields,p.1.size≤maxLen):∀ (k m i:Nat),i+k=(v.fields).length→k<m→Dk n v m i=some (Zar (YH (v.fields) i) (((v.fields).map Prod.fst).drop i))
 | k,0,i,_,h=>absurd h (Nat.not_lt_zero _)
 | 0,m+1,i,hi,_=>by
  rw [Dk,AU,Ac]
  simp only [Bool.false_eq_true,if_false,JG]
  rw [List.drop_eq_nil_of_le (by rw [List.length_map];omega)]
  cases YH (v.fields) i<;>rfl
 | k+1,m+1,i,hi,hm=>by
  have a:i<(v.fields).length:=by omega
  have ih:=Zt n v hl hz k m (i+1) (by omega) (by omega)
  rw [Dk,AU,Ah a]
  simp only [if_true,AN a,Af]
  rw [Ai (hz _ (List.getElem_mem a)),List.drop_eq_getElem_cons (by rw [List.length_map];omega),List.getElem_map]
  have c:YH (v.fields) (i+1)=some (v.fields)[i].1:=by simp only [YH,List.getElem?_eq_getElem a];rfl
  rw [c] at ih
  cases i with
  | zero =>
   simp only [YH,Zar]
   by_cases hb:EK (v.fields)[0].1=true
   ·rw [Ai hb,hb]
    simp only [Bool.not_true,Bool.false_eq_true,if_false]
    rw [Aj (by decide),Ai (AW (by omega))]
    exact ih
   ·rw [Aj hb,Bool.eq_false_iff.2 hb];rfl
  | succ j =>
   have b:j<(v.fields).length:=by omega
   have d:YH (v.fields) (j+1)=some (v.fields)[j].1:=by simp only [YH,List.getElem?_eq_getElem b];rfl
   rw [d]
   simp only [Zar]
   by_cases hb:EK (v.fields)[j+1].1=true
   ·rw [Ai hb,hb]
    simp only [Bool.not_true,Bool.false_eq_true,if_false,ZJ,if_true,XA]
    have e:Bg (j:Int):=ZF (by omega)
    simp only [Ai e,AN b,Af]
    by_cases h1:GP (v.fields)[j+1].1 (v.fields)[j].1=true
    ·rw [Ai h1,Ai h1]
    ·rw [Aj h1,Aj h1]
     by_cases h2:ZP (v.fields)[j+1].1 (v.fields)[j].1=true
     ·rw [Ai h2,Ai h2]
     ·rw [Aj h2,Aj h2,Ai (AW (by omega))]
      exact ih
   ·rw [Aj hb,Bool.eq_false_iff.2 hb];rfl
def EX (v:Vl):Int :=
 if EW v=true then 19
 else if v.kind<1∨10<v.kind then 11
 else if Dm v=true then 3
 else if v.kind=1 then (if BV v.int 0 1=true then 2 else 0)
 else if v.kind=2 then (if BV v.int (-999999999999999) 999999999999999=true∨BV v.scale 0 12=true then 2 else 0)
 else if v.kind=3 then (if BV v.int (-999999999999999) 999999999999999=true∨BV v.scale 0 12=true then 2 else 0)
 else if v.kind=4 then (if 1024<v.text.size then 5 else if Lib.validD v.text.data.toList=true then 0 else 16)
 else if v.kind=5 then (if 1024<v.text.size then 5 else 0)
 else if v.kind=6 then (if BV v.int (-719162) 2932896=true then 2 else 0)
 else if v.kind=7 then (if BV v.int (-62135596800000) 253402300799999=true then 2 else 0)
 else if v.kind=8 then (if 256<v.list.length then 9 else 0)
 else if v.kind=9 then (if 64<v.fields.length then 9 else Zar none (v.fields.map Prod.fst))
 else if EK v.text=true then (if v.list.length=0 then 4 else if 1<v.list.length then 3 else 0) else 12
theorem Ha {k:Int} (h:¬ (k<1∨10<k)):k=1∨k=2∨k=3∨k=4∨k=5∨k=6∨k=7∨k=8∨k=9∨k=10:=by omega
theorem Zfp (v:Vl) (h:¬ (v.kind<1∨10<v.kind)):Ll v = !Dm v:=by
 have a:∀ x:Nat,decide (0<(x:Int)) = !decide ((x:Int)=0):=fun x=>by
  by_cases h:x=0
  ·subst h;rfl
  ·rw [Ah (show 0<(x:Int) by omega),Ag (show ¬ (x:Int)=0 by omega)];rfl
 rw [Ll,Dm]
 simp only [a]
 rcases Ha h with hk | hk | hk | hk | hk | hk | hk | hk | hk | hk<;>simp only [hk]<;>simp [Bool.and_assoc]
theorem ZgM (n:Nat) (hn:3≤n) (a b:Int):LH n [a,b]=some (if a=0 then b else a):=by
 obtain ⟨m,rfl⟩:∃ m,n=m+3:=⟨n-3,by omega⟩
 rw [LH,GZ]
 simp only [List.length_cons,List.length_nil]
 rw [Ai (by simp),show Cj [a,b] 0=some a from rfl]
 simp only [Af]
 by_cases h:a=0
 ·rw [Ah h,Aj (by decide),Ai (by decide),Ai h,GZ]
  simp only [List.length_cons,List.length_nil]
  rw [Ai (by simp),show Cj [a,b] (0+1)=some b from rfl]
  simp only [Af]
  by_cases h2:b=0
  ·rw [Ah h2,Aj (by decide),Ai (by decide),GZ]
   simp only [List.length_cons,List.length_nil]
   rw [Aj (by simp),L0,h2]
  ·rw [Ag h2,Ai (by decide)]
 ·rw [Ag h,Ai (by decide),Aj h]
theorem ZcK (n:Nat) (hn:3≤n) (v:Vl) (hfl:v.fields.length<n) (hs:v.fields.length≤1000000000000) (hv:v.ok) (h1:¬ EW v=true) (h2:¬ (v.kind<1∨10<v.kind)) (h3:¬ Dm v=true) :
  (v.kind=1→Ge v=EX v)∧(v.kind=2→FM v=EX v)∧(v.kind=3→I2 n v=some (EX v))∧(v.kind=4→IR v=some (EX v))∧(v.kind=5→FK v=EX v) ∧
  (v.kind=6→F8 v=EX v)∧(v.kind=7→FR v=EX v)∧(v.kind=8→FP v=EX v)∧(v.kind=9→I0 n v=some (EX v))∧(v.kind=10→HH v=some (EX v)):=by
 obtain ⟨f,_,g⟩:=v.ok_eq.1 hv
 have i:∀ p∈v.fields,p.1.size≤maxLen:=fun p d=>Yz (by have:=(g p d).1;omega)
 have c:v.text.size≤maxLen:=Yz f
 rw [EX,Aj h1,Aj h2,Aj h3]
 refine ⟨fun a=>?_,fun a=>?_,fun a=>?_,fun a=>?_,fun a=>?_,fun a=>?_,fun a=>?_,fun a=>?_,fun a=>?_,fun a=>?_⟩
 ·simp [a,Ge,BL,BV]
 ·have b:v.scale=0:=by
   rw [Dm] at h3
   simp [a] at h3
   exact h3.1.1.1
  simp [a,b,FM,BL,BV]
 ·rw [I2,ZgM n hn]
  simp [a,BL,BV]
  by_cases q:v.int < -999999999999999∨999999999999999<v.int
  ·simp [q];omega
  ·simp [q];omega
 ·rw [IR]
  simp only [a,CY,Gg,Ai c]
  simp
  (repeat' split)<;>first | rfl | (exfalso;omega) | simp_all
 ·simp [a,FK,CY]
  (repeat' split)<;>first | rfl | (exfalso;omega) | simp_all
 ·simp [a,F8,BL,BV]
 ·simp [a,FR,BL,BV]
 ·simp [a,FP,CY]
  (repeat' split)<;>first | rfl | (exfalso;omega) | simp_all
 ·rw [I0]
  by_cases h:64<v.fields.length
  ·simp [a,CY,h,show (64:Int)<(v.fields.length:Int) by omega]
  ·have e:=Zt n v hs i v.fields.length n 0 (by omega) hfl
   simp only [List.drop_zero] at e
   simp only [a,CY,Ag (show ¬ (64:Int)<(v.fields.length:Int) by omega),Bool.false_eq_true,if_false,decide_true,Bool.not_true,Aj h]
   exact e
 ·rw [HH,Ai c]
  simp only [a,CY]
  simp
  (repeat' split)<;>first | rfl | (exfalso;omega) | simp_all
theorem Zfj (n:Nat) (hn:3≤n) (lv:Nat) (v:Vl) (rest:List (Nat × Vl)) (c:Int) (hfl:v.fields.length<n) (hs:v.fields.length≤1000000000000) (hv:v.ok) :
  Bi n ((lv,v)::rest) c=if Bg (c+1) then (if 4096<c+1 then some 9 else if 8<(lv:Int) then some 23 else if EX v=0 then Bi n rest (c+1) else some (EX v)) else none:=by
 rw [Bi]
 by_cases hI:Bg (c+1)
 rotate_left
 ·rw [Aj hI,Aj hI]
 rw [Ai hI,Ai hI]
 by_cases q1:4096<c+1
 ·rw [Ai q1,Ai (Ah q1)]
 rw [Aj q1,Aj (by simpa using q1)]
 by_cases q2:8<(lv:Int)
 ·rw [Ai q2,Ai (Ah q2)]
 rw [Aj q2,Aj (by simpa using q2)]
 simp only
 by_cases h1:EW v=true
 ·have:EX v=19:=by rw [EX,Ai h1]
  rw [Ai h1,this];rfl
 rw [Aj h1]
 by_cases h2:v.kind<1∨10<v.kind
 ·have:EX v=11:=by rw [EX,Aj h1,Ai h2]
  rw [Ai (by simpa using h2),this];rfl
 rw [Aj (by simpa using h2),Zfp v h2]
 by_cases h3:Dm v=true
 ·have:EX v=3:=by rw [EX,Aj h1,Aj h2,Ai h3]
  rw [h3,this];rfl
 rw [Bool.eq_false_iff.2 h3]
 obtain ⟨i,h,d,g,l,k,b,j,f,a⟩:=ZcK n hn v hfl hs hv h1 h2 h3
 rcases Ha h2 with hk | hk | hk | hk | hk | hk | hk | hk | hk | hk
 ·have e:=i hk;by_cases z:EX v=0<;>simp [hk,e,z]
 ·have e:=h hk;by_cases z:EX v=0<;>simp [hk,e,z]
 ·have e:=d hk;by_cases z:EX v=0<;>simp [hk,e,z]
 ·have e:=g hk;by_cases z:EX v=0<;>simp [hk,e,z]
 ·have e:=l hk;by_cases z:EX v=0<;>simp [hk,e,z]
 ·have e:=k hk;by_cases z:EX v=0<;>simp [hk,e,z]
 ·have e:=b hk;by_cases z:EX v=0<;>simp [hk,e,z]
 ·have e:=j hk;by_cases z:EX v=0<;>simp [hk,e,z]
 ·have e:=f hk;by_cases z:EX v=0<;>simp [hk,e,z]
 ·have e:=a hk;by_cases z:EX v=0<;>simp [hk,e,z]
def Uo:List (Nat × Vl)→Int→Int
 | [],_=>0
 | p::r,c=>if 4096<c+1 then 9 else if 8<(p.1:Int) then 23 else if EX p.2=0 then Uo r (c+1) else EX p.2
def TM (v:Vl):Int:=Uo (FH 1 v) 0
theorem UT {v x:Vl} (h:x∈BH v):x∈v.list∨∃ p∈v.fields,p.2=x:=by
 unfold BH at h
 split at h
 ·exact .inl h
 ·split at h
  ·obtain ⟨p,a,rfl⟩:=List.mem_map.1 h;exact .inr ⟨p,a,rfl⟩
  ·simp at h
theorem LP {v x:Vl} (h:x∈BH v):x.size<v.size:=by
 rcases UT h with h | ⟨p,hp,rfl⟩
 ·exact v.list_size x h
 ·exact v.field_size p hp
theorem Zb0 {v x:Vl} (hv:v.ok) (h:x∈BH v):x.ok:=by
 obtain ⟨_,a,b⟩:=v.ok_eq.1 hv
 rcases UT h with h | ⟨p,hp,rfl⟩
 ·exact a x h
 ·exact (b p hp).2
theorem ZbA:∀ (k:Nat) (v:Vl) (lv:Nat),v.size≤k→v.ok→∀ p∈FH lv v,p.2.ok∧p.2.size≤v.size
 | 0,v,lv,h,hv,p,hp=>absurd h (by have:=v.size_eq;omega)
 | k+1,v,lv,h,hv,p,hp=>by
  rw [Pe] at hp
  rcases List.mem_cons.1 hp with rfl | hp
  ·exact ⟨hv,Nat.le_refl _⟩
  ·obtain ⟨x,a,hp⟩:=List.mem_flatMap.1 hp
   have:=LP a
   obtain ⟨b,c⟩:=ZbA k x (lv+1) (by omega) (Zb0 hv a) p hp
   exact ⟨b,by omega⟩
theorem XI:∀ (k:Nat) (v:Vl) (lv:Nat),v.size≤k→v.wide=true→∀ p∈FH lv v,p.2.wide=true
 | 0,v,lv,h,hv,p,hp=>absurd h (by have:=v.size_eq;omega)
 | k+1,v,lv,h,hv,p,hp=>by
  rw [Pe] at hp
  rcases List.mem_cons.1 hp with rfl | hp
  ·exact hv
  ·obtain ⟨x,a,hp⟩:=List.mem_flatMap.1 hp
   have:=LP a
   exact XI k x (lv+1) (by omega) (Ut hv a) p hp
theorem N1 (v:Vl):v.fields.length<v.size:=by have:=OJ v.fields;have:=v.size_eq;omega
theorem US (n:Nat) (hn:3≤n):∀ (l:List (Nat × Vl)) (c:Int),(∀ p∈l,p.2.ok∧p.2.fields.length≤1000000000000∧p.2.fields.length<n)→0≤c→c≤4096→Bi n l c=some (Uo l c)
 | [],c,_,_,_=>rfl
 | p::r,c,hl,h1,h2=>by
  obtain ⟨a,d,e⟩:=hl p (List.mem_cons_self ..)
  have:=N1 p.2
  rw [show p=(p.1,p.2) from rfl,Zfj n hn p.1 p.2 r c (by omega) (by omega) a,Ai (by unfold Bg;omega),Uo]
  simp only
  split
  ·rfl
  ·split
   ·rfl
   ·split
    ·exact US n hn r (c+1) (fun q b=>hl q (List.mem_cons_of_mem _ b)) (by omega) (by omega)
    ·rfl
theorem YL (n:Nat) (v:Vl) (hn:v.size+3≤n) (hs:v.depth<4611686018427387904) (hw:v.wide=true) (hv:v.ok):Gj n v=some (TM v):=by
 rw [Gj,Ai ⟨hs,hw⟩]
 exact US n (by omega) _ 0 (fun p a=>by obtain ⟨b,c⟩:=ZbA v.size v 1 (Nat.le_refl _) hv p a;exact ⟨b,(p.2.wide_iff.1 (XI v.size v 1 (Nat.le_refl _) hw p a)).2.1,by have:=N1 p.2;omega⟩) (by omega) (by omega)
theorem UX (n:Nat) (v:Vl) (hn:v.size+3≤n) (hs:v.size<1048576) (hv:v.ok):Gj n v=some (TM v) :=
 YL n v hn (by have:=v.depth_size;omega) (HB _ v (Nat.le_refl _) (by omega)) hv
theorem Xf:∀ l:List Vl,DV l=(l.map Vl.size).sum
 | []=>rfl
 | v::r=>by simp [DV,Xf r]
theorem Xs:∀ l:List (ByteArray × Vl),Em l=(l.map fun p=>p.2.size).sum
 | []=>rfl
 | (_,v)::r=>by simp [Em,Xs r]
theorem ZaZ (v:Vl):((BH v).map Vl.size).sum<v.size:=by
 have c:=v.size_eq
 unfold BH
 split
 ·rw [←Xf];omega
 ·split
  ·rw [List.map_map]
   have:=Xs v.fields
   have e:(v.fields.map (Vl.size∘fun x=>x.2)).sum=Em v.fields:=this.symm
   omega
  ·simp;omega
def Oh {α:Type} (p:α→Bool) (l:List α) (j:Nat):Int :=
 if (l.drop j).findIdx p<(l.drop j).length then (j:Int)+((l.drop j).findIdx p:Nat) else -1
theorem Ju {α:Type} (p:α→Bool) (l:List α) (j:Nat) (h:l.length≤j):Oh p l j = -1:=by
 unfold Oh
 rw [List.drop_eq_nil_of_le h];rfl
theorem H3 {α:Type} (p:α→Bool) (l:List α) (j:Nat) (h:j<l.length):Oh p l j=if p l[j]=true then (j:Int) else Oh p l (j+1):=by
 unfold Oh
 rw [List.drop_eq_getElem_cons h,List.findIdx_cons]
 cases hp:p l[j] with
 | true=>simp;omega
 | false =>
  simp only [cond_false,List.length_cons,Bool.false_eq_true,if_false]
  by_cases q:(l.drop (j+1)).findIdx p<(l.drop (j+1)).length
  ·rw [Ab,Ai q];push_cast;omega
  ·rw [Aa,Aj q]
theorem PV {α:Type} (p:α→Bool) (l:List α):∀ (k j:Nat),j+k=l.length→Oh p l j = -1∨∃ i,∃ h:i<l.length,Oh p l j=(i:Int)∧p l[i]=true
 | 0,j,h => .inl (Ju p l j (by omega))
 | k+1,j,h=>by
  have a:j<l.length:=by omega
  rw [H3 p l j a]
  by_cases hp:p l[j]=true
  ·rw [Ai hp];exact .inr ⟨j,a,rfl,hp⟩
  ·rw [Aj hp];exact PV p l k (j+1) (by omega)
theorem P1 (n:Nat) (l:List TF) (p:TF→Bool) (hl:l.length≤1000000000):∀ (k m i:Nat),i+k=l.length→k<m→AK n l (fun x=>some (p x)) m i=some (Oh p l i)
 | k,0,i,_,h=>absurd h (Nat.not_lt_zero _)
 | 0,m+1,i,hi,_=>by
  rw [AK,AU,Ac,Ju p l i (by omega)]
  rfl
 | k+1,m+1,i,hi,hm=>by
  have a:i<l.length:=by omega
  rw [AK,AU,Ah a]
  simp only [if_true,AN a,Af]
  rw [H3 p l i a]
  by_cases hp:p l[i]=true
  ·rw [Ai hp,Ai hp]
  ·rw [Aj hp,Aj hp,Ai (AW (by omega))]
   exact P1 n l p hl k m (i+1) (by omega) (by omega)
def Yt:TF:=(0,(⟨#[]⟩:ByteArray),0,Ty.mk 0 0 0 0 [] [] [],[])
theorem ZU (n:Nat) (t:Ty) (p:TF→Bool) (hn:t.size+1450000≤n) (ht:t.small) :
  (t.kind≠9∧t.kind≠10∧GI n t (fun x=>some (p x))=some (Yt,false)) ∨
  ((t.kind=9∨t.kind=10)∧((Oh p t.fields 0 = -1∧GI n t (fun x=>some (p x))=some (Yt,false))∨∃ i,∃ h:i<t.fields.length,Oh p t.fields 0=(i:Int)∧GI n t (fun x=>some (p x))=some (t.fields[i],true))):=by
 obtain ⟨f,d,b⟩:=ht
 have c:=t.lens
 rw [GI]
 by_cases hk:t.kind=9∨t.kind=10
 ·right
  refine ⟨hk,?_⟩
  rw [Aj (by simp only [Bool.and_eq_true,Bool.not_eq_true',decide_eq_false_iff_not];omega)]
  rw [A5]
  have e:=P1 n t.fields p (by omega) t.fields.length n 0 (by omega) (by omega)
  rw [show ((0:Nat):Int)=0 from rfl] at e
  rw [e]
  simp only [Af]
  rcases PV p t.fields t.fields.length 0 (by omega) with q | ⟨i,hi,q,hp⟩
  ·rw [q];left;exact ⟨rfl,rfl⟩
  ·rw [q];right
   refine ⟨i,hi,rfl,?_⟩
   rw [Ac]
   simp only [Bool.false_eq_true,if_false,AN hi,Af]
   obtain ⟨_,q2,q3,a⟩:=(t.ok_eq.1 b).2.2.2 _ (List.getElem_mem hi)
   have hs:=t.field_size _ (List.getElem_mem hi)
   rw [Zcq (Gu n) n t.fields[i] (by omega) (by omega) (fun v hv=>P4 n v (by have:=(a v hv).1;omega) (by have:=(a v hv).1;omega)) (Qp n _ (by omega) (by omega) q2)]
   rfl
 ·left
  refine ⟨fun h=>hk (.inl h),fun h=>hk (.inr h),?_⟩
  rw [Ai (by simp only [Bool.and_eq_true,Bool.not_eq_true',decide_eq_false_iff_not];omega)]
  rfl
def JI (rec:Ty→Vl→Option Bool) (g:Vl) (q:Ty):Option Bool :=
 (Cj q.elem 0).bind fun b =>
 (rec b g).bind fun h =>
 some (!h)
theorem YT (w0:World) (rec:Ty→Vl→Option Bool) (ih:∀ (B:Ao) (Rw:Av) (L:As) (a0:Ty) (a1:Vl) (r:Bool) (h:rec a0 a1=some r),ACalls Tryz.prog w0 201 [.agg (a0.cs),.agg (a1.cs)] ⟨B,Rw,L⟩ fun x st=>x = .val (.bool r)∧st=⟨B,Rw,L⟩) (B:Ao) (Rw:Av) (L:As) (a0:Vl) (la1:Nat) (a1:Ty) (hla1:B[la1]? = some (a1.cs)) (r:Bool) (h:JI rec a0 a1=some r) :
  ACalls Tryz.prog w0 269 [.agg (a0.cs),.box la1 0] ⟨B,Rw,L⟩ fun x st=>x = .val (.bool r)∧st=⟨B,Rw,L⟩:=by
 rw [JI] at h
 refine hd [.tmp 3] Tryz.func269 Tryz.ntmps269 fun M0 W0 g e d b i f hs=>?_
 simp only [AA]
 have c:=(Ak.1 hla1).1
 have hs:=Ae (Aq hla1) hs
 exact go (tg (a:=([1,2],[8,3],()))) h hs g e d b f (q1 ih) trivial
def Ff (n:Nat)  : Option Int :=
 some ((-1))
def Bt (n:Nat) (h:List (ByteArray × Vl)) (y:(ByteArray × Vl)→Option Bool):Nat→Int→Option Int
 | 0,_=>none
 | m+1,b =>
  if decide (b<(h.length:Int)) then
   (Cj h b).bind fun q =>
   (y q).bind fun g =>
   if g then
    some (b)
   else
    if Bg (b+1) then
     (Bt n h y m) (b+1)
    else none
  else
   Ff n 
def CW (n:Nat) (b:List (ByteArray × Vl)) (g:(ByteArray × Vl)→Option Bool):Option Int :=
 Bt n b g n 0
theorem H9 (w0:World) (n:Nat) (B:Ao) (Rw:Av) (L:As) (a0:List (ByteArray × Vl)) (fa1:FuncId) (ca1:List AV) (a1:(ByteArray × Vl)→Option Bool) (ha1:∀ (x0:ByteArray × Vl) r,a1 x0=some r→∀ B' rows,B <+: B'→Rw <+: rows→ACalls Tryz.prog w0 fa1 ([.agg (.val (.string x0.1)::(x0.2.cs))]++ca1) ⟨B',rows,L⟩ fun v s=>v = .val (.bool r)∧s=⟨B',rows,L⟩) (r:Int) (h:CW n a0 a1=some r) :
  ACalls Tryz.prog w0 199 [.list (a0.map QY) .none,.clo fa1 ca1] ⟨B,Rw,L⟩ fun x st=>x=Am r∧st=⟨B,Rw,L⟩:=by
 rw [CW] at h
 refine hd [.tmp 4] Tryz.func199 Tryz.ntmps199 fun M0 W0 k i g b l f hs=>?_
 simp only [AA]
 have c:=BJ (l (.clo fa1 ca1) (by simp))
 refine rg [0,1] hs ?_
 refine AB (fun e st=>Ck e st B Rw L [] [] [] (Ff n  = some r)) ?_ ?_
 ·intro K4 j
  refine rg [0,1,7,8] hs ?_
  apply Ar
  refine AC (fun m e st=>∃ (d:Int),Ck e st B Rw L [(0,true,.list (a0.map QY) .none),(1,true,.clo fa1 ca1),(7,true,Am (a0.length:Int)),(8,true,Am d)] [] [] (Bt n a0 a1 m d=some r)) n ⟨0,([]),Rw,ef hs,ef hs,f,h⟩ ?_
  rintro ml6 e st ⟨d,Xl6,Rl6,rfl,rfl,f,h⟩ Ul6 Vl6
  cases ml6 with
  | zero=>cases h
  | succ ml6 =>
  rw [Bt] at h
  refine A1 k i g rfl b f (LI c f) (LI c f) ?_
  exact go (tg (a:=([0,1,7,8,9],([0,1,7,8],[0,1,5,7,8],[0,1,5,7,8,16],([4],()),[0,1,7,8],[0,1,7,8],()),[],()))) h hs k i g b f (q1 ha1) (q2 j (fun e s=>Vl6 ml6 e s (Nat.lt_succ_self _)))
 ·clear h;rintro e st ⟨Xk3,Rk3,rfl,rfl,f,h⟩
  rw [Ff] at h
  refine A1 k i g rfl b f (LI c f) (LI c f) ?_
  refine rg [4] hs ?_
  exact rt h hs b f
def Hq (b:ByteArray × Vl) (g:ByteArray):Bool :=
 GP b.1 g
theorem We (w0:World) (B:Ao) (Rw:Av) (L:As) (a0:ByteArray × Vl) (la1:Nat) (a1:ByteArray) (hla1:B[la1]? = some ([.val (.string a1)])) (r:Bool) (h:Hq a0 a1=r) :
  ACalls Tryz.prog w0 267 [.agg (.val (.string a0.1)::(a0.2.cs)),.box la1 0] ⟨B,Rw,L⟩ fun x st=>x = .val (.bool r)∧st=⟨B,Rw,L⟩:=by
 rw [Hq] at h
 refine hd [.tmp 3] Tryz.func267 Tryz.ntmps267 fun M0 W0 g d c a f e hs=>?_
 simp only [AA]
 have b:=(Ak.1 hla1).1
 have hs:=Ae (Aq hla1) hs
 refine rg [1,2] hs ?_
 refine rg [3] hs ?_
 exact rT h hs a e
theorem TQ (w0:World) (B:Ao) (Rw:Av) (L:As) (a0:ByteArray × Vl) (la1:Nat) (a1:ByteArray) (hla1:B[la1]? = some ([.val (.string a1)])) :
  ACalls Tryz.prog w0 267 [.agg (.val (.string a0.1)::(a0.2.cs)),.box la1 0] ⟨B,Rw,L⟩ fun x st=>x = .val (.bool (Hq a0 a1))∧st=⟨B,Rw,L⟩:=We w0 B Rw L a0 la1 a1 hla1 _ rfl
def NF (n:Nat) (g:Vl) (h:ByteArray):Option Int :=
 (CW n g.fields (fun (b:ByteArray × Vl)=>some (Hq b h))).bind fun q =>
 some (q)
theorem Ys (w0:World) (n:Nat) (B:Ao) (Rw:Av) (L:As) (a0:Vl) (a1:ByteArray) (r:Int) (h:NF n a0 a1=some r) :
  ACalls Tryz.prog w0 197 [.agg (a0.cs),.val (.string a1)] ⟨B,Rw,L⟩ fun x st=>x=Am r∧st=⟨B,Rw,L⟩:=by
 rw [NF] at h
 refine hd [.tmp 4] Tryz.func197 Tryz.ntmps197 fun M0 W0 k d c a j e hs=>?_
 simp only [AA]
 refine rg [2,3] hs ?_
 obtain ⟨i,hy3,h⟩:=bind_some h
 refine rc 2 [4] hs ?_;intro K2 b
 refine Ax _ (H9 w0 n _ _ _ a0.fields 267 [.box (B.length+1) 0] (fun (x0:ByteArray × Vl)=>some (Hq x0 a1)) (fun x0 r hx g rows' hB' f=>by cases hx;exact TQ w0 _ _ _ x0 _ a1 (Di hB' ev)) _ hy3) (hv hs) ?_
 refine ne hs b ?_
 clear b
 exact rt h hs a e
def LA (n:Nat) (g:Vl) (y:ByteArray):Option (Vl × Bool) :=
 (NF n g y).bind fun h =>
 if (!(decide (g.kind=9)))||(decide (h<0)) then
  some ((Vl.mk 0 0 0 (⟨#[]⟩:ByteArray) ([]) ([]),false))
 else
  (Cj g.fields h).bind fun q =>
  (C5 n q.2).bind fun b =>
  some ((b,true))
theorem Y6 (w0:World) (n:Nat) (B:Ao) (Rw:Av) (L:As) (a0:Vl) (a1:ByteArray) (r:Vl × Bool) (h:LA n a0 a1=some r) :
  ACalls Tryz.prog w0 207 [.agg (a0.cs),.val (.string a1)] ⟨B,Rw,L⟩ fun x st=>x = .tup [.agg (r.1.cs),.val (.bool r.2)]∧st=⟨B,Rw,L⟩:=by
 rw [LA] at h
 refine hd [.cell 4 34,.tmp 5] Tryz.func207 Tryz.ntmps207 fun M0 W0 f d c b g e hs=>?_
 simp only [AA]
 exact go (tg (a:=([1,2,4],[2,4,6],[2,4,6,16],([4,5],()),[2,4,6],[4,5],()))) h hs f d c b e (q2 (Ys w0 n) (Iy w0 n)) trivial
def JJ (n:Nat) (b:Int × ByteArray × Int × Ty × List Vl) (g:Vl):Option Bool :=
 (LA n g b.2.1).bind fun h =>
 some ((!h.2)&&(!(decide (b.2.2.1=2))))
theorem Y5 (w0:World) (n:Nat) (B:Ao) (Rw:Av) (L:As) (a0:Int × ByteArray × Int × Ty × List Vl) (la1:Nat) (a1:Vl) (hla1:B[la1]? = some (a1.cs)) (r:Bool) (h:JJ n a0 a1=some r) :
  ACalls Tryz.prog w0 270 [.agg (Am a0.1::(.val (.string a0.2.1)::(Am a0.2.2.1::((a0.2.2.2.1.cs)++([.list (a0.2.2.2.2.map CZ) .none]))))),.box la1 0] ⟨B,Rw,L⟩ fun x st=>x = .val (.bool r)∧st=⟨B,Rw,L⟩:=by
 rw [JJ] at h
 refine hd [.tmp 3] Tryz.func270 Tryz.ntmps270 fun M0 W0 g e d b i f hs=>?_
 simp only [AA]
 have c:=(Ak.1 hla1).1
 have hs:=Ae (Aq hla1) hs
 exact go (tg (a:=([1,2],[2,5],[3],()))) h hs g e d b f (q1 (Y6 w0 n)) trivial
def AL (n:Nat) (b:List (Int × ByteArray × Int × Ty × List Vl)) (g:(Int × ByteArray × Int × Ty × List Vl)→Option Bool):Option Bool :=
 (A5 n b g).bind fun h =>
 some (decide (0≤h))
theorem Dj (w0:World) (n:Nat) (B:Ao) (Rw:Av) (L:As) (a0:List (Int × ByteArray × Int × Ty × List Vl)) (fa1:FuncId) (ca1:List AV) (a1:(Int × ByteArray × Int × Ty × List Vl)→Option Bool) (ha1:∀ (x0:Int × ByteArray × Int × Ty × List Vl) r,a1 x0=some r→∀ B' rows,B <+: B'→Rw <+: rows→ACalls Tryz.prog w0 fa1 ([.agg (Am x0.1::(.val (.string x0.2.1)::(Am x0.2.2.1::((x0.2.2.2.1.cs)++([.list (x0.2.2.2.2.map CZ) .none])))))]++ca1) ⟨B',rows,L⟩ fun v s=>v = .val (.bool r)∧s=⟨B',rows,L⟩) (r:Bool) (h:AL n a0 a1=some r) :
  ACalls Tryz.prog w0 111 [.list (a0.map BS) .none,.clo fa1 ca1] ⟨B,Rw,L⟩ fun x st=>x = .val (.bool r)∧st=⟨B,Rw,L⟩:=by
 rw [AL] at h
 refine hd [.tmp 4] Tryz.func111 Tryz.ntmps111 fun M0 W0 o j i b l g hs=>?_
 simp only [AA]
 have e:=BJ (l (.clo fa1 ca1) (by simp))
 refine rg [0,1] hs ?_
 obtain ⟨m,f,h⟩:=bind_some h
 refine rc 2 [4] hs ?_;intro K2 c
 refine Ax _ (GF w0 n _ _ _ a0 fa1 ca1 a1 (fun x0 r k d a q1 q2=>ha1 x0 r k d a (List.IsPrefix.trans px q1) (g.pre.trans q2)) _ f) (hv hs) ?_
 refine ne hs c ?_
 clear c
 exact rt h hs b g
def Fv (n:Nat)  : Option Int :=
 some ((-1))
def Bz (n:Nat) (h:List Vl) (y:Vl→Option Bool):Nat→Int→Option Int
 | 0,_=>none
 | m+1,b =>
  if decide (b<(h.length:Int)) then
   (Cj h b).bind fun q =>
   (y q).bind fun g =>
   if g then
    some (b)
   else
    if Bg (b+1) then
     (Bz n h y m) (b+1)
    else none
  else
   Fv n 
def D7 (n:Nat) (b:List Vl) (g:Vl→Option Bool):Option Int :=
 Bz n b g n 0
theorem M7 (w0:World) (n:Nat) (B:Ao) (Rw:Av) (L:As) (a0:List Vl) (fa1:FuncId) (ca1:List AV) (a1:Vl→Option Bool) (ha1:∀ (x0:Vl) r,a1 x0=some r→∀ B' rows,B <+: B'→Rw <+: rows→ACalls Tryz.prog w0 fa1 ([.agg (x0.cs)]++ca1) ⟨B',rows,L⟩ fun v s=>v = .val (.bool r)∧s=⟨B',rows,L⟩) (r:Int) (h:D7 n a0 a1=some r) :
  ACalls Tryz.prog w0 314 [.list (a0.map CZ) .none,.clo fa1 ca1] ⟨B,Rw,L⟩ fun x st=>x=Am r∧st=⟨B,Rw,L⟩:=by
 rw [D7] at h
 refine hd [.tmp 4] Tryz.func314 Tryz.ntmps314 fun M0 W0 k i g b l f hs=>?_
 simp only [AA]
 have c:=BJ (l (.clo fa1 ca1) (by simp))
 refine rg [0,1] hs ?_
 refine AB (fun e st=>Ck e st B Rw L [] [] [] (Fv n  = some r)) ?_ ?_
 ·intro K4 j
  refine rg [0,1,7,8] hs ?_
  apply Ar
  refine AC (fun m e st=>∃ (d:Int),Ck e st B Rw L [(0,true,.list (a0.map CZ) .none),(1,true,.clo fa1 ca1),(7,true,Am (a0.length:Int)),(8,true,Am d)] [] [] (Bz n a0 a1 m d=some r)) n ⟨0,([]),Rw,ef hs,ef hs,f,h⟩ ?_
  rintro ml6 e st ⟨d,Xl6,Rl6,rfl,rfl,f,h⟩ Ul6 Vl6
  cases ml6 with
  | zero=>cases h
  | succ ml6 =>
  rw [Bz] at h
  refine A1 k i g rfl b f (LI c f) (LI c f) ?_
  exact go (tg (a:=([0,1,7,8,9],([0,1,7,8],[0,1,5,7,8],[0,1,5,7,8,16],([4],()),[0,1,7,8],[0,1,7,8],()),[],()))) h hs k i g b f (q1 ha1) (q2 j (fun e s=>Vl6 ml6 e s (Nat.lt_succ_self _)))
 ·clear h;rintro e st ⟨Xk3,Rk3,rfl,rfl,f,h⟩
  rw [Fv] at h
  refine A1 k i g rfl b f (LI c f) (LI c f) ?_
  refine rg [4] hs ?_
  exact rt h hs b f
def B1 (n:Nat) (b:List Vl) (g:Vl→Option Bool):Option Bool :=
 (D7 n b g).bind fun h =>
 some (decide (0≤h))
theorem KZ (w0:World) (n:Nat) (B:Ao) (Rw:Av) (L:As) (a0:List Vl) (fa1:FuncId) (ca1:List AV) (a1:Vl→Option Bool) (ha1:∀ (x0:Vl) r,a1 x0=some r→∀ B' rows,B <+: B'→Rw <+: rows→ACalls Tryz.prog w0 fa1 ([.agg (x0.cs)]++ca1) ⟨B',rows,L⟩ fun v s=>v = .val (.bool r)∧s=⟨B',rows,L⟩) (r:Bool) (h:B1 n a0 a1=some r) :
  ACalls Tryz.prog w0 268 [.list (a0.map CZ) .none,.clo fa1 ca1] ⟨B,Rw,L⟩ fun x st=>x = .val (.bool r)∧st=⟨B,Rw,L⟩:=by
 rw [B1] at h
 refine hd [.tmp 4] Tryz.func268 Tryz.ntmps268 fun M0 W0 o j i b l g hs=>?_
 simp only [AA]
 have e:=BJ (l (.clo fa1 ca1) (by simp))
 refine rg [0,1] hs ?_
 obtain ⟨m,f,h⟩:=bind_some h
 refine rc 2 [4] hs ?_;intro K2 c
 refine Ax _ (M7 w0 n _ _ _ a0 fa1 ca1 a1 (fun x0 r k d a q1 q2=>ha1 x0 r k d a (List.IsPrefix.trans px q1) (g.pre.trans q2)) _ f) (hv hs) ?_
 refine ne hs c ?_
 clear c
 exact rt h hs b g
def G3 (n:Nat)  : Option Int :=
 some ((-1))
def BW (n:Nat) (g:List ByteArray) (q:ByteArray):Nat→Int→Option Int
 | 0,_=>none
 | m+1,b =>
  if decide (b<(g.length:Int)) then
   (Cj g b).bind fun h =>
   if GP q h then
    some (b)
   else
    if Bg (b+1) then
     (BW n g q m) (b+1)
    else none
  else
   G3 n 
def FA (n:Nat) (b:List ByteArray) (g:ByteArray):Option Int :=
 BW n b g n 0
theorem Oo (w0:World) (n:Nat) (B:Ao) (Rw:Av) (L:As) (a0:List ByteArray) (a1:ByteArray) (r:Int) (h:FA n a0 a1=some r) :
  ACalls Tryz.prog w0 205 [.list (a0.map C0) .none,.val (.string a1)] ⟨B,Rw,L⟩ fun x st=>x=Am r∧st=⟨B,Rw,L⟩:=by
 rw [FA] at h
 refine hd [.tmp 4] Tryz.func205 Tryz.ntmps205 fun M0 W0 j g f b k d hs=>?_
 simp only [AA]
 refine rg [0,1] hs ?_
 refine AB (fun e st=>Ck e st B Rw L [] [] [] (G3 n  = some r)) ?_ ?_
 ·intro K4 i
  refine rg [0,1,7,8] hs ?_
  apply Ar
  refine AC (fun m e st=>∃ (c:Int),Ck e st B Rw L [(0,true,.list (a0.map C0) .none),(1,true,.val (.string a1)),(7,true,Am (a0.length:Int)),(8,true,Am c)] [] [] (BW n a0 a1 m c=some r)) n ⟨0,([]),Rw,ef hs,ef hs,d,h⟩ ?_
  rintro ml6 e st ⟨c,Xl6,Rl6,rfl,rfl,d,h⟩ Ul6 Vl6
  cases ml6 with
  | zero=>cases h
  | succ ml6 =>
  rw [BW] at h
  exact go (tg (a:=([0,1,7,8,9],([0,1,7,8],[0,1,5,7,8],[0,1,5,7,8,16],([4],()),[0,1,7,8],[0,1,7,8],()),[],()))) h hs j g f b d trivial (q2 i (fun e s=>Vl6 ml6 e s (Nat.lt_succ_self _)))
 ·clear h;rintro e st ⟨Xk3,Rk3,rfl,rfl,d,h⟩
  rw [G3] at h
  refine td j g f b d ?_
  refine rg [4] hs ?_
  exact rt h hs b d
def CS (n:Nat) (b:List ByteArray) (g:ByteArray):Option Bool :=
 (FA n b g).bind fun h =>
 some (decide (0≤h))
theorem MY (w0:World) (n:Nat) (B:Ao) (Rw:Av) (L:As) (a0:List ByteArray) (a1:ByteArray) (r:Bool) (h:CS n a0 a1=some r) :
  ACalls Tryz.prog w0 133 [.list (a0.map C0) .none,.val (.string a1)] ⟨B,Rw,L⟩ fun x st=>x = .val (.bool r)∧st=⟨B,Rw,L⟩:=by
 rw [CS] at h
 refine hd [.tmp 4] Tryz.func133 Tryz.ntmps133 fun M0 W0 f d c b g e hs=>?_
 simp only [AA]
 exact go (tg (a:=([0,1],[4],()))) h hs f d c b e (q1 (Oo w0 n)) trivial
def NZ (rec:Ty→Vl→Option Bool) (n:Nat) (h:Ty) (q:Vl):Option Bool :=
 (AL n h.fields (fun (g:Int × ByteArray × Int × Ty × List Vl)=>JJ n g q)).bind fun b =>
 some (!b)
def Pl (rec:Ty→Vl→Option Bool) (n:Nat)  : Option Bool :=
 some (true)
def Hi (rec:Ty→Vl→Option Bool) (n:Nat) (z:Ty) (q:Vl):Nat→Int→Option Bool
 | 0,_=>none
 | m+1,b =>
  if decide (b<(q.fields.length:Int)) then
   (Cj q.fields b).bind fun g =>
   (Ih n z g.1).bind fun h =>
   if !h.2 then
    some (false)
   else
    (rec h.1.2.2.2.1 g.2).bind fun y =>
    if !y then
     some (false)
    else
     if Bg (b+1) then
      (Hi rec n z q m) (b+1)
     else none
  else
   NZ rec n z q 
def BZ (rec:Ty→Vl→Option Bool) (n:Nat) (b:Ty) (g:Vl) (h:Bool):Option Bool :=
 if h then
  some ((decide (b.min≤g.int)&&decide (g.int≤b.max))&&(decide (g.scale=b.scale)))
 else
  if decide (b.kind=4) then
   if decide (0<(b.words.length:Int)) then
    (CS n b.words g.text).bind fun y27 =>
    some (y27)
   else
    some (decide (b.min≤(g.text.size:Int))&&decide ((g.text.size:Int)≤b.max))
  else
   if decide (b.kind=5) then
    some (decide (b.min≤(g.text.size:Int))&&decide ((g.text.size:Int)≤b.max))
   else
    if decide (b.kind=8) then
     if decide (b.min≤(g.list.length:Int))&&decide ((g.list.length:Int)≤b.max) then
      (B1 n g.list (fun (x0:Vl)=>JI rec x0 b)).bind fun y =>
      some (!y)
     else
      some (false)
    else
     if decide (b.kind=10) then
      (Ih n b g.text).bind fun q =>
      if q.2 then
       (Cj g.list 0).bind fun z =>
       (rec q.1.2.2.2.1 z).bind fun y44 =>
       some (y44)
      else
       some (false)
     else
      if decide (b.kind=9) then
       Hi rec n b g n 0
      else
       Pl rec n 
def Rj (rec:Ty→Vl→Option Bool) (n:Nat) (b:Ty) (g:Vl):Option Bool :=
 if !(decide (g.kind=b.kind)) then
  some (false)
 else
  if decide (b.kind=2) then
   BZ rec n b g true
  else
   if decide (b.kind=6) then
    BZ rec n b g true
   else
    if decide (b.kind=7) then
     BZ rec n b g true
    else
     BZ rec n b g (decide (b.kind=3))
def IK:Nat→Ty→Vl→Option Bool
 | 0,_,_=>none
 | n+1,b,g=>Rj (IK n) n b g
def WA (w0:World) (F:Ty→Vl→Option Bool):Prop:=∀ (B:Ao) (Rw:Av) (L:As) (b:Ty) (g:Vl) (r:Bool),F b g=some r→ACalls Tryz.prog w0 201 [.agg (b.cs),.agg (g.cs)] ⟨B,Rw,L⟩ fun x st=>x = .val (.bool r)∧st=⟨B,Rw,L⟩
theorem Zb (w0:World) (rec:Ty→Vl→Option Bool) (ih:WA w0 rec) (n:Nat):WA w0 (Rj rec n):=by
 intro B Rw L a0 a1 r h
 rw [Rj] at h
 refine hd [.tmp 4] Tryz.func201 Tryz.ntmps201 fun M0 W0 k g f b F i hs=>?_
 simp only [AA]
 refine rg [2,3] hs ?_
 apply An;intro K2 t
 refine rg [2,3,15] hs ?_
 refine B6 h hs ?_ ?_<;>intro hs h
 ·refine rg [4] hs ?_
  exact rt h hs b i
 refine sk [2,3] hs t ?_
 clear t
 refine AB (fun e st=>Ck e st B Rw L [] [a0.cs,a1.cs] [] (Pl rec n  = some r)) ?_ ?_
 ·intro K8 z
  refine rg [2,3,17] hs ?_
  apply Ar
  refine AB (fun e st=>∃ (d:Bool),Ck e st B Rw L [(2,true,.box B.length 0),(3,true,.box (B.length+1) 0),(17,true,Am a0.kind),(18,true,.val (.bool d))] [a0.cs,a1.cs] [] (BZ rec n a0 a1 d=some r)) ?_ ?_
  ·intro K12 v
   exact go (tg (a:=([2,3,17,18],([2,3,17,18],()),[2,3,17,18],([2,3,17,18],()),[2,3,17,18],([2,3,17,18],()),[2,3,17,18],()))) h hs k g f b i trivial (q1 v)
  ·clear h;rintro e st ⟨d,Xk11,Rk11,rfl,rfl,i,h⟩
   rw [BZ] at h
   refine td k g f b i ?_
   refine B6 h hs ?_ ?_<;>intro hs h
   ·exact go (tg (a:=([4],()))) h hs k g f b i (q1 (O7 w0)) trivial
   refine rg [2,3,17,37] hs ?_
   refine B6 h hs ?_ ?_<;>intro hs h
   ·exact go (tg (a:=([2,3,42],([4],()),[2,3],[4],()))) h hs k g f b i (q2 (MY w0 n) (O7 w0)) trivial
   refine rg [2,3,17,56] hs ?_
   refine B6 h hs ?_ ?_<;>intro hs h
   ·exact go (tg (a:=([4],()))) h hs k g f b i (q1 (O7 w0)) trivial
   refine rg [2,3,17,66] hs ?_
   refine B6 h hs ?_ ?_<;>intro hs h
   ·apply An;intro K34 j
    rcases Bool.eq_false_or_eq_true (decide (a0.min≤(a1.list.length:Int))&&decide ((a1.list.length:Int)≤a0.max)) with hf35 | hf35
    ·replace h:=Bq h hf35
     obtain ⟨C,w,h⟩:=bind_some h
     have hs:=Ae hf35 hs
     refine rk 3 [4] hs ?_
     refine Ax _ (O7 w0 _ _ _ (a1.list.length:Int) a0.min a0.max) (hv hs) ?_
     refine nc hs ?_
     refine Ax _ (KZ w0 n _ _ _ a1.list 269 [.box B.length 0] (fun (p:Vl)=>JI rec p a0) (fun p r x D rows' o y=>by exact YT w0 rec ih _ _ _ p _ a0 (Di o (ef hs)) _ x) _ w) (hv hs) ?_
     refine ne hs j ?_
     clear j
     exact rt h hs b i
    ·replace h:=Bo h hf35
     exact go (tg (a:=([4],()))) h (Ae hf35 hs) k g f b i (q1 (O7 w0)) (q1 j)
   refine rg [2,3,17,83] hs ?_
   refine B6 h hs ?_ ?_<;>intro hs h
   ·exact go (tg (a:=([3,5,6],([11,4],()),[11,4],()))) h hs k g f b i (q2 (OA w0 n) ih) trivial
   refine rg [2,3,102] hs ?_
   refine B6 h hs ?_ ?_<;>intro hs h
   ·refine AB (fun e st=>Ck e st B Rw L [(2,true,.box B.length 0),(3,true,.box (B.length+1) 0)] [a0.cs,a1.cs] [] (NZ rec n a0 a1  = some r)) ?_ ?_
    ·intro K49 u
     refine rg [2,3,105,106,107] hs ?_
     apply Ar
     refine AC (fun m e st=>∃ (c:Int),Ck e st B Rw L [(2,true,.box B.length 0),(3,true,.box (B.length+1) 0),(105,true,.list (a1.fields.map QY) .none),(106,true,Am (a1.fields.length:Int)),(107,true,Am c)] [a0.cs,a1.cs] [] (Hi rec n a0 a1 m c=some r)) n ⟨0,([]),Rk11,ef hs,ef hs,i,h⟩ ?_
     rintro ml51 e st ⟨c,Xl51,Rl51,rfl,rfl,i,h⟩ Ul51 Vl51
     cases ml51 with
     | zero=>cases h
     | succ ml51 =>
     rw [Hi] at h
     exact go (tg (a:=([2,3,105,106,107,108],([2,3,105,106,107],[2,3,8,105,106,107],[2,3,8,9,10,105,106,107],([2,3,105,106,107,127],[4],()),[2,3,105,106,107,127],([4],()),[2,3,105,106,107],[2,3,105,106,107],()),[2,3],()))) h hs k g f b i (q2 (OA w0 n) ih) (q2 u (fun e s=>Vl51 ml51 e s (Nat.lt_succ_self _)))
    ·clear h;rintro e st ⟨Xk48,Rk48,rfl,rfl,i,h⟩
     rw [NZ] at h
     refine td k g f b i ?_
     obtain ⟨E,q,h⟩:=bind_some h
     refine rc 2 [4] hs ?_;intro K68 l
     refine Ax _ (Dj w0 n _ _ _ a0.fields 270 [.box (B.length+1) 0] (fun (p:Int × ByteArray × Int × Ty × List Vl)=>JJ n p a1) (fun p r x D rows' o y=>by exact Y5 w0 n _ _ _ p _ a1 (Di o (ef hs)) _ x) _ q) (hv hs) ?_
     refine ne hs l ?_
     clear l
     exact rt h hs b i
   refine sk [] hs z ?_
   exact ⟨([]),Rk11,ef hs,ef hs,i,h⟩
 ·clear h;rintro e st ⟨Xk7,Rk7,rfl,rfl,i,h⟩
  rw [Pl] at h
  refine td k g f b i ?_
  refine rg [4] hs ?_
  exact rt h hs b i
theorem Xe (w0:World):∀ n:Nat,WA w0 (IK n)
 | 0=>fun _ _ _ _ _ _ h=>(nomatch h)
 | n+1=>Zb w0 (IK n) (Xe w0 n) n
def IV (n:Nat) (g:Ty) (b:Vl):Option Bool :=
 (Gj n b).bind fun q =>
 if decide (q=0) then
  (IK n g b).bind fun h =>
  some (h)
 else
  some (false)
theorem WE (w0:World) (hT:Lib.Utf8Tabs 2 3 w0) (n:Nat) (B:Ao) (Rw:Av) (L:As) (a0:Ty) (a1:Vl) (r:Bool) (h:IV n a0 a1=some r) :
  ACalls Tryz.prog w0 123 [.agg (a0.cs),.agg (a1.cs)] ⟨B,Rw,L⟩ fun x st=>x = .val (.bool r)∧st=⟨B,Rw,L⟩:=by
 rw [IV] at h
 refine hd [.tmp 4] Tryz.func123 Tryz.ntmps123 fun M0 W0 f d c b g e hs=>?_
 simp only [AA]
 exact go (tg (a:=([2,3],([4],()),[4],()))) h hs f d c b e (q2 (OB w0 hT n) (Xe w0 n)) trivial
def Dl (b:Int × ByteArray × Int × Ty × List Vl) (g:Int × ByteArray × Int × Ty × List Vl):Bool :=
 (GP b.2.1 g.2.1)||(decide (b.1=g.1))
theorem Ww (w0:World) (B:Ao) (Rw:Av) (L:As) (a0:Int × ByteArray × Int × Ty × List Vl) (la1:Nat) (a1:Int × ByteArray × Int × Ty × List Vl) (hla1:B[la1]? = some (Am a1.1::(.val (.string a1.2.1)::(Am a1.2.2.1::((a1.2.2.2.1.cs)++([.list (a1.2.2.2.2.map CZ) .none])))))) (r:Bool) (h:Dl a0 a1=r) :
  ACalls Tryz.prog w0 308 [.agg (Am a0.1::(.val (.string a0.2.1)::(Am a0.2.2.1::((a0.2.2.2.1.cs)++([.list (a0.2.2.2.2.map CZ) .none]))))),.box la1 0] ⟨B,Rw,L⟩ fun x st=>x = .val (.bool r)∧st=⟨B,Rw,L⟩:=by
 rw [Dl] at h
 refine hd [.tmp 3] Tryz.func308 Tryz.ntmps308 fun M0 W0 g d c a f e hs=>?_
 simp only [AA]
 have b:=(Ak.1 hla1).1
 have hs:=Ae (Aq hla1) hs
 refine rg [1,2] hs ?_
 refine rg [3] hs ?_
 exact rT h hs a e
theorem T9 (w0:World) (B:Ao) (Rw:Av) (L:As) (a0:Int × ByteArray × Int × Ty × List Vl) (la1:Nat) (a1:Int × ByteArray × Int × Ty × List Vl) (hla1:B[la1]? = some (Am a1.1::(.val (.string a1.2.1)::(Am a1.2.2.1::((a1.2.2.2.1.cs)++([.list (a1.2.2.2.2.map CZ) .none])))))) :
  ACalls Tryz.prog w0 308 [.agg (Am a0.1::(.val (.string a0.2.1)::(Am a0.2.2.1::((a0.2.2.2.1.cs)++([.list (a0.2.2.2.2.map CZ) .none]))))),.box la1 0] ⟨B,Rw,L⟩ fun x st=>x = .val (.bool (Dl a0 a1))∧st=⟨B,Rw,L⟩:=Ww w0 B Rw L a0 la1 a1 hla1 _ rfl
def LC (n:Nat) (g:Ty) (h:Int):Option Int :=
 (Cj g.fields h).bind fun b =>
 if b.2.1.size≤maxLen then
  if !(EK b.2.1) then
   some (12)
  else
   if !(decide (1≤b.1)&&decide (b.1≤9999)) then
    some (2)
   else
    if 0≤0∧0≤h∧h≤(g.fields.length:Int) then
     (AL n (g.fields.take h.toNat) (fun (y:Int × ByteArray × Int × Ty × List Vl)=>some (Dl y b))).bind fun q =>
     if q then
      some (7)
     else
      if (!(decide (1≤b.2.2.1)&&decide (b.2.2.1≤3)))||((decide (g.kind=10))&&(!(decide (b.2.2.1=1)))) then
       some (11)
      else
       if (decide (b.2.2.1=3))&&(decide ((b.2.2.2.2.length:Int)=0)) then
        some (4)
       else
        if (decide (1<(b.2.2.2.2.length:Int)))||((!(decide (b.2.2.1=3)))&&(decide (0<(b.2.2.2.2.length:Int)))) then
         some (3)
        else
         some (0)
    else none
 else none
theorem YJ (w0:World) (n:Nat) (B:Ao) (Rw:Av) (L:As) (a0:Ty) (a1:Int) (r:Int) (h:LC n a0 a1=some r) :
  ACalls Tryz.prog w0 255 [.agg (a0.cs),Am a1] ⟨B,Rw,L⟩ fun x st=>x=Am r∧st=⟨B,Rw,L⟩:=by
 rw [LC] at h
 refine hd [.tmp 4] Tryz.func255 Tryz.ntmps255 fun M0 W0 u k j b y l hs=>?_
 simp only [AA]
 refine rg [1,2] hs ?_
 obtain ⟨x3,p,h⟩:=bind_some h
 obtain ⟨t,s,g⟩:=Bl p
 have c:=Bn (f:=BS) g
 have hs:=Ae c hs
 refine rg [1,2,5] hs ?_
 apply An;intro K4 o
 apply Ar
 obtain ⟨m,h⟩:=Aw h
 refine rc 2 [1,2,5,11] hs ?_;intro K5 i
 refine Ax _ (NV w0 _ _ _ x3.2.1 m) (hv hs) ?_
 refine ne hs i ?_
 clear i
 refine B6 h hs ?_ ?_<;>intro hs h
 ·refine rg [4] hs ?_
  exact rt h hs b l
 refine rc 2 [1,2,5,16] hs ?_;intro K9 d
 refine Ax _ (O7 w0 _ _ _ x3.1 1 9999) (hv hs) ?_
 refine ne hs d ?_
 clear d
 refine B6 h hs ?_ ?_<;>intro hs h
 ·refine rg [4] hs ?_
  exact rt h hs b l
 obtain ⟨q,h⟩:=Aw h
 obtain ⟨w,hy14,h⟩:=bind_some h
 refine rc 2 [2,5,21] hs ?_;intro K12 e
 refine Ax _ (Dj w0 n _ _ _ (a0.fields.take a1.toNat) 308 [.box (B.length+1) 0] (fun (x0:Int × ByteArray × Int × Ty × List Vl)=>some (Dl x0 x3)) (fun x0 r hx z rows' hB' v=>by cases hx;exact T9 w0 _ _ _ x0 _ x3 (Di hB' (ef hs))) _ hy14) (hv hs) ?_
 exact go (tg (a:=(([4],()),[5,28],([4],()),[5,43],([4],()),[53],([4],()),[],[4],()))) h hs u k j b l (q1 (O7 w0)) (q2 e o)
def Ho  (b:Bool):Int :=
 if b then
  3
 else
  0
def J0 (b:Ty) (g:Lim):Int :=
 if (!g.bounds)&&((!(decide (b.min=0)))||(!(decide (b.max=0)))) then
  Ho  true
 else
  if (!g.scale)&&(!(decide (b.scale=0))) then
   Ho  true
  else
   if (!g.text)&&(decide (0<(b.words.length:Int))) then
    Ho  true
   else
    if (!g.list)&&(decide (0<(b.elem.length:Int))) then
     Ho  true
    else
     Ho  ((!g.fields)&&(decide (0<(b.fields.length:Int))))
theorem ZaT (w0:World) (B:Ao) (Rw:Av) (L:As) (a0:Ty) (a1:Lim) (r:Int) (h:J0 a0 a1=r) :
  ACalls Tryz.prog w0 253 [.agg (a0.cs),.agg (.val (.string a1.name)::(Am a1.low::(Am a1.high::(.val (.bool a1.bounds)::(.val (.bool a1.scale)::(.val (.bool a1.text)::(.val (.bool a1.list)::([.val (.bool a1.fields)]))))))))] ⟨B,Rw,L⟩ fun x st=>x=Am r∧st=⟨B,Rw,L⟩:=by
 rw [J0] at h
 refine hd [.tmp 4] Tryz.func253 Tryz.ntmps253 fun M0 W0 k f d c l i hs=>?_
 simp only [AA]
 refine rg [2,3] hs ?_
 apply An;intro K2 g
 apply Ar
 refine AB (fun e st=>∃ (b:Bool),Ck e st B Rw L [(5,true,.val (.bool b))] [a0.cs,.val (.string a1.name)::(Am a1.low::(Am a1.high::(.val (.bool a1.bounds)::(.val (.bool a1.scale)::(.val (.bool a1.text)::(.val (.bool a1.list)::([.val (.bool a1.fields)])))))))] [] (Ho  b=r)) ?_ ?_
 ·intro K5 j
  exact go (tg (a:=([2,3,5],([5],()),[2,3,5],([5],()),[2,3,5],([5],()),[2,3,5],([5],()),[5],()))) h hs k f d c i trivial (q1 j)
 ·clear h;rintro e st ⟨b,Xk4,Rk4,rfl,rfl,i,h⟩
  rw [Ho] at h
  exact go (tg (a:=(([4],()),[],[4],()))) h hs k f d c i trivial (q1 g)
theorem Yo (w0:World) (B:Ao) (Rw:Av) (L:As) (a0:Ty) (a1:Lim) :
  ACalls Tryz.prog w0 253 [.agg (a0.cs),.agg (.val (.string a1.name)::(Am a1.low::(Am a1.high::(.val (.bool a1.bounds)::(.val (.bool a1.scale)::(.val (.bool a1.text)::(.val (.bool a1.list)::([.val (.bool a1.fields)]))))))))] ⟨B,Rw,L⟩ fun x st=>x=Am (J0 a0 a1)∧st=⟨B,Rw,L⟩:=ZaT w0 B Rw L a0 a1 _ rfl
def Hm  : ((List Lim)) :=
 [Lim.mk (⟨#[]⟩:ByteArray) 0 0 false false false false false,Lim.mk ((⟨#[98,111,111,108]⟩:ByteArray)) 0 0 false false false false false,Lim.mk ((⟨#[105,110,116]⟩:ByteArray)) ((-999999999999999)) 999999999999999 true false false false false,Lim.mk ((⟨#[100,101,99,105,109,97,108]⟩:ByteArray)) ((-999999999999999)) 999999999999999 true true false false false,Lim.mk ((⟨#[116,101,120,116]⟩:ByteArray)) 0 1024 true false true false false,Lim.mk ((⟨#[98,121,116,101,115]⟩:ByteArray)) 0 1024 true false false false false,Lim.mk ((⟨#[100,97,116,101]⟩:ByteArray)) ((-719162)) 2932896 true false false false false,Lim.mk ((⟨#[116,105,109,101]⟩:ByteArray)) ((-62135596800000)) 253402300799999 true false false false false,Lim.mk ((⟨#[108,105,115,116]⟩:ByteArray)) 0 256 true false false true false,Lim.mk ((⟨#[114,101,99,111,114,100]⟩:ByteArray)) 0 0 false false false false true,Lim.mk ((⟨#[118,97,114,105,97,110,116]⟩:ByteArray)) 0 0 false false false false true]
theorem Yj (w0:World) (B:Ao) (Rw:Av) (L:As)  (r:(List Lim)) (h:Hm  = r) :
  ACalls Tryz.prog w0 252 [] ⟨B,Rw,L⟩ fun x st=>x = .agg (r.flatMap fun x=>(Vr x).cells)∧st=⟨B,Rw,L⟩:=by
 rw [Hm] at h
 refine hd [.cell 0 259] Tryz.func252 Tryz.ntmps252 fun M0 W0 f c b a e d hs=>?_
 simp only [AA]
 refine rg [0] hs ?_
 refine rg [0] (al hs) ?_
 exact rT h hs a d
theorem XE (w0:World) (B:Ao) (Rw:Av) (L:As)  :
  ACalls Tryz.prog w0 252 [] ⟨B,Rw,L⟩ fun x st=>x = .agg ((Hm ).flatMap fun x=>(Vr x).cells)∧st=⟨B,Rw,L⟩:=Yj w0 B Rw L  _ rfl
def Lh (b:ByteArray):Vl :=
 Vl.mk 4 0 0 b ([]) ([])
theorem ZaJ (w0:World) (B:Ao) (Rw:Av) (L:As) (a0:ByteArray) (r:Vl) (h:Lh a0=r) :
  ACalls Tryz.prog w0 190 [.val (.string a0)] ⟨B,Rw,L⟩ fun x st=>x = .agg (r.cs)∧st=⟨B,Rw,L⟩:=by
 rw [Lh] at h
 refine hd [.cell 2 34] Tryz.func190 Tryz.ntmps190 fun M0 W0 f c b a e d hs=>?_
 simp only [AA]
 refine rg [0,2] hs ?_
 refine rg [2] hs ?_
 exact rT h hs a d
theorem Yg (w0:World) (B:Ao) (Rw:Av) (L:As) (a0:ByteArray) :
  ACalls Tryz.prog w0 190 [.val (.string a0)] ⟨B,Rw,L⟩ fun x st=>x = .agg ((Lh a0).cs)∧st=⟨B,Rw,L⟩:=ZaJ w0 B Rw L a0 _ rfl
def Kz (n:Nat)  : Option Int :=
 some (0)
def EL (n:Nat) (y:Ty):Nat→Int→Option Int
 | 0,_=>none
 | m+1,b =>
  if decide (b<(y.words.length:Int)) then
   (Cj y.words b).bind fun g =>
   (Gj n (Lh g)).bind fun h =>
   if !(decide (h=0)) then
    some (h)
   else
    if decide (0<b) then
     if Bg (b-1) then
      (Cj y.words (b-1)).bind fun q =>
      if GP g q then
       some (7)
      else
       if Bg (b-1) then
        if ZP g q then
         some (24)
        else
         if Bg (b+1) then
          (EL n y m) (b+1)
         else none
       else none
     else none
    else
     if Bg (b+1) then
      (EL n y m) (b+1)
     else none
  else
   Kz n 
def Ln (n:Nat) (b:Ty):Option Int :=
 if (!(decide (b.min=0)))||(!(decide (b.max=0))) then
  some (3)
 else
  if decide (64<(b.words.length:Int)) then
   some (9)
  else
   EL n b n 0
theorem YK (w0:World) (hT:Lib.Utf8Tabs 2 3 w0) (n:Nat) (B:Ao) (Rw:Av) (L:As) (a0:Ty) (r:Int) (h:Ln n a0=some r) :
  ACalls Tryz.prog w0 254 [.agg (a0.cs)] ⟨B,Rw,L⟩ fun x st=>x=Am r∧st=⟨B,Rw,L⟩:=by
 rw [Ln] at h
 refine hd [.tmp 2] Tryz.func254 Tryz.ntmps254 fun M0 W0 k g f c l d hs=>?_
 simp only [AA]
 refine rg [1] hs ?_
 apply An;intro K2 i
 apply Ar
 refine rg [1,6] hs ?_
 refine B6 h hs ?_ ?_<;>intro hs h
 ·refine rg [2] hs ?_
  exact rt h hs c d
 refine rg [1,15] hs ?_
 refine B6 h hs ?_ ?_<;>intro hs h
 ·refine rg [2] hs ?_
  exact rt h hs c d
 refine sk [1] hs i ?_
 clear i
 refine AB (fun e st=>Ck e st B Rw L [] [a0.cs] [] (Kz n  = some r)) ?_ ?_
 ·intro K11 j
  refine rg [1,21,22,23] hs ?_
  apply Ar
  refine AC (fun m e st=>∃ (b:Int),Ck e st B Rw L [(1,true,.box B.length 0),(21,true,.list (a0.words.map C0) .none),(22,true,Am (a0.words.length:Int)),(23,true,Am b)] [a0.cs] [] (EL n a0 m b=some r)) n ⟨0,([]),Rw,ef hs,ef hs,d,h⟩ ?_
  rintro ml13 e st ⟨b,Xl13,Rl13,rfl,rfl,d,h⟩ Ul13 Vl13
  cases ml13 with
  | zero=>cases h
  | succ ml13 =>
  rw [EL] at h
  exact go (tg (a:=([1,21,22,23,24],([1,21,22,23],[1,3,4,21,22,23],[1,3,4,5,21,22,23],[1,3,4,5,21,22,23,32],([2],()),[1,3,4,21,22,23],([1,3,4,21,22,23,45],([2],()),[1,3,4,21,22,23],[1,21,22,23,57],([2],()),[1,21,22,23],[1,21,22,23],()),[1,3,4,21,22,23,45],[1,3,4,21,22,23],[1,21,22,23,57],[1,21,22,23],[1,21,22,23],()),[],()))) h hs k g f c d (q2 (Yg w0) (OB w0 hT n)) (q2 j (fun e s=>Vl13 ml13 e s (Nat.lt_succ_self _)))
 ·clear h;rintro e st ⟨Xk10,Rk10,rfl,rfl,d,h⟩
  rw [Kz] at h
  refine td k g f c d ?_
  refine rg [2] hs ?_
  exact rt h hs c d
end Go.Proofs.YtmcnjijeocmkgaaGreatDoor
