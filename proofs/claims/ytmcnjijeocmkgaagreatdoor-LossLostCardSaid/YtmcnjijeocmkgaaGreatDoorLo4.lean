/-
  Part 4 of the proof: rules and walks that the claim's last text uses.
-/
import Derived.Carry
import Derived.ChangeOld
import Derived.ChangeSlices
import Derived.Deep.DeepHandedRow
import Derived.Deep.DeepWitnessRowRef
import Derived.Lib.LaidIn
import Derived.Lib.LaidU8T
import Derived.PinnedBridge
import Derived.ProofKit
import Derived.SevenTiedAt
import Derived.SizedLaws
import Derived.Test.YtmcnjijeocmkgaaGreatDoorCards
import Derived.Test.YtmcnjijeocmkgaaGreatDoorTie
import Derived.Test.YtmcnjijeocmkgaaGreatDoorLo3
set_option linter.unusedSimpArgs false
set_option linter.unusedVariables false
set_option maxRecDepth 100000
set_option maxHeartbeats 4000000
namespace Go.Proofs.YtmcnjijeocmkgaaGreatDoor
open Go Go.RowKit Go.Ev
def Hm (rec:Ty→Option Ty) (n:Nat) (g:Int × ByteArray × Int × Ty × List Vl) (h:Ty) (b:List Vl):Option ((Int × ByteArray × Int × Ty × List Vl)) :=
 some ((g.1,g.2.1,g.2.2.1,h,b))
def CX (rec:Ty→Option Ty) (n:Nat) (h:Int × ByteArray × Int × Ty × List Vl) (z:Ty):Nat→(List Vl)→Int→Option ((Int × ByteArray × Int × Ty × List Vl))
 | 0,_,_=>none
 | m+1,g,b =>
  if decide (b<(h.2.2.2.2.length:Int)) then
   (Cb h.2.2.2.2 b).bind fun q =>
   (Dt n q).bind fun y =>
   if (g.length+1)*88≤140737488355328∧g.length+1≤4611686018427387904 then
    if A6 (b+1) then
     (CX rec n h z m) (g++([y])) (b+1)
    else none
   else none
  else
   Hm rec n h z g
def C9 (rec:Ty→Option Ty) (n:Nat) (b:Int × ByteArray × Int × Ty × List Vl):Option ((Int × ByteArray × Int × Ty × List Vl)) :=
 (rec b.2.2.2.1).bind fun g =>
 if 0≤(b.2.2.2.2.length:Int)∧(b.2.2.2.2.length:Int)*88≤140737488355328∧(b.2.2.2.2.length:Int)≤4611686018427387904 then
  CX rec n b g n ([]) 0
 else none
theorem Nj (w0:World) (rec:Ty→Option Ty) (ih:∀ (B:Ao) (Rw:Av) (L:As) (a0:Ty) (r:Ty) (h:rec a0=some r),ACalls Tryz.prog w0 321 [.agg (a0.cs)] ⟨B,Rw,L⟩ fun x st=>x = .agg (r.cs)∧st=⟨B,Rw,L⟩) (n:Nat) (B:Ao) (Rw:Av) (L:As) (a0:Int × ByteArray × Int × Ty × List Vl) (r:(Int × ByteArray × Int × Ty × List Vl)) (h:C9 rec n a0=some r) :
  ACalls Tryz.prog w0 278 [.agg (Am a0.1::(.val (.string a0.2.1)::(Am a0.2.2.1::((a0.2.2.2.1.cs)++([.list (a0.2.2.2.2.map Di) .none])))))] ⟨B,Rw,L⟩ fun x st=>x = .agg (Am r.1::(.val (.string r.2.1)::(Am r.2.2.1::((r.2.2.2.1.cs)++([.list (r.2.2.2.2.map Di) .none])))))∧st=⟨B,Rw,L⟩:=by
 rw [C9] at h
 refine hd [.cell 2 95] Tryz.func278 Tryz.ntmps278 fun M0 W0 u o l j w k hs=>?_
 simp only [AA]
 refine rg [1,2] hs ?_
 obtain ⟨i,t,h⟩:=bind_some h
 have hs:=Ae (Ty.cs_eqs a0.2.2.2.1) hs
 have hs:=Ae (Ty.cs_eqs i) hs
 refine rc 2 [1,2] hs ?_;intro K2 p
 refine Aw _ (ih _ _ _ a0.2.2.2.1 _ t) (hv hs) ?_
 refine ne hs p ?_
 clear p
 obtain ⟨v,h⟩:=Au h
 have k:=k.make 6 0
 refine rg [1,2,3] hs ?_
 refine AB (fun e st=>∃ (f:List Vl) (g:Ev.Own),Ck e st B Rw L [(1,true,.box B.length 0),(2,true,.box (B.length+1) 0),(3,true,.list (f.map Di) g)] [[Am a0.1,.val (.string a0.2.1),Am a0.2.2.1,Am i.kind,Am i.min,Am i.max,Am i.scale,.list (i.words.map CB) .none,.list (i.elem.map J1) .none,.list (i.fields.map Cd) .none,.list (a0.2.2.2.2.map Di) .none],[Am 0,.val (.string (⟨#[]⟩:ByteArray)),Am 0,Am 0,Am 0,Am 0,Am 0,.list ([]) .full,.list ([]) .full,.list ([]) .full,.list ([]) .full]] [(6,f.length,g)] (Hm rec n a0 i f=some r)) ?_ ?_
 ·intro K9 q
  refine rg [1,2,3,15,16,17] hs ?_
  apply Aq
  refine AC (fun m e st=>∃ (b:List Vl) (d:Int) (c:Ev.Own),Ck e st B Rw L [(1,true,.box B.length 0),(2,true,.box (B.length+1) 0),(3,true,.list (b.map Di) c),(15,true,.list (a0.2.2.2.2.map Di) .none),(16,true,Am (a0.2.2.2.2.length:Int)),(17,true,Am d)] [[Am a0.1,.val (.string a0.2.1),Am a0.2.2.1,Am i.kind,Am i.min,Am i.max,Am i.scale,.list (i.words.map CB) .none,.list (i.elem.map J1) .none,.list (i.fields.map Cd) .none,.list (a0.2.2.2.2.map Di) .none],[Am 0,.val (.string (⟨#[]⟩:ByteArray)),Am 0,Am 0,Am 0,Am 0,Am 0,.list ([]) .full,.list ([]) .full,.list ([]) .full,.list ([]) .full]] [(6,b.length,c)] (CX rec n a0 i m b d=some r)) n ⟨([]),0,((.row Rw.length)),([]),((Rw++[.grow 0 6])),ef hs,ef hs,Owns.of_eq (k) D6,h⟩ ?_
  rintro ml11 e st ⟨b,d,c,Xl11,Rl11,rfl,rfl,k,h⟩ Ul11 Vl11
  cases ml11 with
  | zero=>cases h
  | succ ml11 =>
  rw [CX] at h
  exact go (tg (a:=([1,2,3,15,16,17,18],([1,2,3,15,16,17],[1,2,3,5,15,16,17],[1,2,3,15,16,17],[1,2,3,15,16,17],()),[1,2,3],()))) h hs u o l j k (q2 (ae LM Ha) (IJ w0 n)) (q2 q (fun e s=>Vl11 ml11 e s (Nat.lt_succ_self _)))
 ·clear h;rintro e st ⟨f,g,Xk8,Rk8,rfl,rfl,k,h⟩
  rw [Hm] at h
  exact go (tg (a:=([1,2],[2],()))) h hs u o l j k trivial trivial
def Lp (rec:Ty→Option Ty) (n:Nat) (h:Ty) (g:List Ty) (b:List (Int × ByteArray × Int × Ty × List Vl)):Option Ty :=
 if h.words.length*16≤140737488355328 then
  some (Ty.mk h.kind h.min h.max h.scale h.words g b)
 else none
def Gf (rec:Ty→Option Ty) (n:Nat) (q:Ty):Nat→(List Ty)→(List (Int × ByteArray × Int × Ty × List Vl))→Int→Option Ty
 | 0,_,_,_=>none
 | m+1,h,g,b =>
  if decide (b<(q.fields.length:Int)) then
   (Cb q.fields b).bind fun y =>
   (C9 rec n y).bind fun z =>
   if (g.length+1)*160≤140737488355328∧g.length+1≤4611686018427387904 then
    if A6 (b+1) then
     (Gf rec n q m) h (g++([z])) (b+1)
    else none
   else none
  else
   Lp rec n q h g
def MP (rec:Ty→Option Ty) (n:Nat) (g:Ty) (b:List Ty):Option Ty :=
 if 0≤(g.fields.length:Int)∧(g.fields.length:Int)*160≤140737488355328∧(g.fields.length:Int)≤4611686018427387904 then
  Gf rec n g n b ([]) 0
 else none
def HB (rec:Ty→Option Ty) (n:Nat) (h:Ty):Nat→(List Ty)→Int→Option Ty
 | 0,_,_=>none
 | m+1,g,b =>
  if decide (b<(h.elem.length:Int)) then
   (Cb h.elem b).bind fun q =>
   (rec q).bind fun y =>
   if (g.length+1)*104≤140737488355328∧g.length+1≤4611686018427387904 then
    if A6 (b+1) then
     (HB rec n h m) (g++([y])) (b+1)
    else none
   else none
  else
   MP rec n h g
def Ob (rec:Ty→Option Ty) (n:Nat) (b:Ty):Option Ty :=
 if 0≤(b.elem.length:Int)∧(b.elem.length:Int)*104≤140737488355328∧(b.elem.length:Int)≤4611686018427387904 then
  HB rec n b n ([]) 0
 else none
def GR:Nat→Ty→Option Ty
 | 0,_=>none
 | n+1,b=>Ob (GR n) n b
def Q1 (w0:World) (F:Ty→Option Ty):Prop:=∀ (B:Ao) (Rw:Av) (L:As) (b:Ty) (r:Ty),F b=some r→ACalls Tryz.prog w0 321 [.agg (b.cs)] ⟨B,Rw,L⟩ fun x st=>x = .agg (r.cs)∧st=⟨B,Rw,L⟩
theorem Wj (w0:World) (rec:Ty→Option Ty) (ih:Q1 w0 rec) (n:Nat):Q1 w0 (Ob rec n):=by
 intro B Rw L a0 r h
 rw [Ob] at h
 refine hd [.cell 2 26] Tryz.func321 Tryz.ntmps321 fun M0 W0 C y x l N w hs=>?_
 simp only [AA]
 refine rg [1,2] hs ?_
 obtain ⟨H,h⟩:=Au h
 have w:=w.make 7 0
 refine rg [1,2,3] hs ?_
 refine AB (fun e st=>∃ (p:List Ty) (g:Ev.Own),Ck e st B Rw L [(1,true,.box B.length 0),(2,true,.box (B.length+1) 0),(3,true,.list (p.map J1) g)] [a0.cs,[Am 0,Am 0,Am 0,Am 0,.list ([]) .full,.list ([]) .full,.list ([]) .full]] [(7,p.length,g)] (MP rec n a0 p=some r)) ?_ ?_
 ·intro K7 F
  refine rg [1,2,3,14,15,16] hs ?_
  apply Aq
  refine AC (fun m e st=>∃ (t:List Ty) (v:Int) (u:Ev.Own),Ck e st B Rw L [(1,true,.box B.length 0),(2,true,.box (B.length+1) 0),(3,true,.list (t.map J1) u),(14,true,.list (a0.elem.map J1) .none),(15,true,Am (a0.elem.length:Int)),(16,true,Am v)] [a0.cs,[Am 0,Am 0,Am 0,Am 0,.list ([]) .full,.list ([]) .full,.list ([]) .full]] [(7,t.length,u)] (HB rec n a0 m t v=some r)) n ⟨([]),0,((.row Rw.length)),([]),((Rw++[.grow 0 7])),ef hs,ef hs,Owns.of_eq (w) D6,h⟩ ?_
  rintro ml9 e st ⟨t,v,u,Xl9,Rl9,rfl,rfl,w,h⟩ Ul9 Vl9
  cases ml9 with
  | zero=>cases h
  | succ ml9 =>
  rw [HB] at h
  exact go (tg (a:=([1,2,3,14,15,16,17],([1,2,3,14,15,16],[1,2,3,5,14,15,16],[1,2,3,14,15,16],[1,2,3,14,15,16],()),[1,2,3],()))) h hs C y x l w (q2 (ae ZW TC) ih) (q2 F (fun e s=>Vl9 ml9 e s (Nat.lt_succ_self _)))
 ·clear h;rintro e st ⟨p,g,Xk6,Rk6,rfl,rfl,w,h⟩
  rw [MP] at h
  have E:=w.unders
  simp only [List.mem_cons,List.not_mem_nil,or_false,forall_eq_or_imp,forall_eq] at E
  refine td C y x l w ?_
  obtain ⟨G,h⟩:=Au h
  have w:=w.make 11 0
  refine rg [1,2,3,6] hs ?_
  refine AB (fun e st=>∃ (i:List Ty) (j:List (Int × ByteArray × Int × Ty × List Vl)) (k:Ev.Own) (q:Ev.Own),Ck e st B Rw L [(1,true,.box B.length 0),(2,true,.box (B.length+1) 0),(3,true,.list (i.map J1) k),(6,true,.list (j.map Cd) q)] [a0.cs,[Am 0,Am 0,Am 0,Am 0,.list ([]) .full,.list ([]) .full,.list ([]) .full]] [(7,i.length,k),(11,j.length,q)] (Lp rec n a0 i j=some r)) ?_ ?_
  ·intro K27 D
   refine rg [1,2,3,6,31,32,33] hs ?_
   apply Aq
   refine AC (fun m e st=>∃ (d:List Ty) (c:List (Int × ByteArray × Int × Ty × List Vl)) (o:Int) (f:Ev.Own) (b:Ev.Own),Ck e st B Rw L [(1,true,.box B.length 0),(2,true,.box (B.length+1) 0),(3,true,.list (d.map J1) f),(6,true,.list (c.map Cd) b),(31,true,.list (a0.fields.map Cd) .none),(32,true,Am (a0.fields.length:Int)),(33,true,Am o)] [a0.cs,[Am 0,Am 0,Am 0,Am 0,.list ([]) .full,.list ([]) .full,.list ([]) .full]] [(7,d.length,f),(11,c.length,b)] (Gf rec n a0 m d c o=some r)) n ⟨p,([]),0,g,((.row Rk6.length)),([]),((Rk6++[.grow 0 11])),ef hs,ef hs,Owns.of_eq ((w).swap (List.Perm.swap _ _ _)) D6,h⟩ ?_
   rintro ml29 e st ⟨d,c,o,f,b,Xl29,Rl29,rfl,rfl,w,h⟩ Ul29 Vl29
   cases ml29 with
   | zero=>cases h
   | succ ml29 =>
   rw [Gf] at h
   have E:=w.unders
   simp only [List.mem_cons,List.not_mem_nil,or_false,forall_eq_or_imp,forall_eq] at E
   obtain ⟨K,J⟩:=E
   refine td C y x l w ?_
   refine rg [1,2,3,6,31,32,33,34] hs ?_
   apply An;intro K31 z
   refine BQ h hs ?_ ?_<;>intro hs h
   rotate_left
   ·refine sx [1,2,3,6] hs D ?_
    exact ⟨d,c,f,b,([]),Rl29,ef hs,ef hs,Owns.of_eq (((w).swap (List.Perm.swap _ _ _)).swap (List.Perm.swap _ _ _)) D6,h⟩
   exact go (tg (a:=([1,2,3,6,31,32,33],[1,2,3,6,8,31,32,33],[1,2,3,6,31,32,33],[1,2,3,6,31,32,33],()))) h hs C y x l w (q2 (ae TM NV) (Nj w0 rec ih n)) (q2 z (fun e s=>Vl29 ml29 e s (Nat.lt_succ_self _)))
  ·clear h;rintro e st ⟨i,j,k,q,Xk26,Rk26,rfl,rfl,w,h⟩
   rw [Lp] at h
   exact go (tg (a:=([1,2],[2],()))) h (Ae (Ty.cs_eqs a0) hs) C y x l w (q1 (O0 w0)) trivial
theorem S3 (w0:World):∀ n:Nat,Q1 w0 (GR n)
 | 0=>fun _ _ _ _ _ h=>(nomatch h)
 | n+1=>Wj w0 (GR n) (S3 w0 n) n
def D7 (n:Nat)  : Option Int :=
 some ((-1))
def AN (n:Nat) (q:List (Int × ByteArray × Int × Ty × List Vl)) (y:(Int × ByteArray × Int × Ty × List Vl)→Option Bool):Nat→Int→Option Int
 | 0,_=>none
 | m+1,b =>
  if decide (b<(q.length:Int)) then
   (Cb q b).bind fun g =>
   (y g).bind fun h =>
   if h then
    some (b)
   else
    if A6 (b+1) then
     (AN n q y m) (b+1)
    else none
  else
   D7 n 
def Ba (n:Nat) (b:List (Int × ByteArray × Int × Ty × List Vl)) (g:(Int × ByteArray × Int × Ty × List Vl)→Option Bool):Option Int :=
 AN n b g n 0
theorem G3 (w0:World) (n:Nat) (B:Ao) (Rw:Av) (L:As) (a0:List (Int × ByteArray × Int × Ty × List Vl)) (fa1:FuncId) (ca1:List AV) (a1:(Int × ByteArray × Int × Ty × List Vl)→Option Bool) (ha1:∀ (x0:Int × ByteArray × Int × Ty × List Vl) r,a1 x0=some r→∀ B' rows,B <+: B'→Rw <+: rows→ACalls Tryz.prog w0 fa1 ([.agg (Am x0.1::(.val (.string x0.2.1)::(Am x0.2.2.1::((x0.2.2.2.1.cs)++([.list (x0.2.2.2.2.map Di) .none])))))]++ca1) ⟨B',rows,L⟩ fun v s=>v = .val (.bool r)∧s=⟨B',rows,L⟩) (r:Int) (h:Ba n a0 a1=some r) :
  ACalls Tryz.prog w0 191 [.list (a0.map Cd) .none,.clo fa1 ca1] ⟨B,Rw,L⟩ fun x st=>x=Am r∧st=⟨B,Rw,L⟩:=by
 rw [Ba] at h
 refine hd [.tmp 4] Tryz.func191 Tryz.ntmps191 fun M0 W0 k g i c l f hs=>?_
 simp only [AA]
 have b:=B6 (l (.clo fa1 ca1) (by simp))
 refine rg [0,1] hs ?_
 refine AB (fun e st=>Ck e st B Rw L [] [] [] (D7 n  = some r)) ?_ ?_
 ·intro K4 j
  refine rg [0,1,7,8] hs ?_
  apply Aq
  refine AC (fun m e st=>∃ (d:Int),Ck e st B Rw L [(0,true,.list (a0.map Cd) .none),(1,true,.clo fa1 ca1),(7,true,Am (a0.length:Int)),(8,true,Am d)] [] [] (AN n a0 a1 m d=some r)) n ⟨0,([]),Rw,ef hs,ef hs,f,h⟩ ?_
  rintro ml6 e st ⟨d,Xl6,Rl6,rfl,rfl,f,h⟩ Ul6 Vl6
  cases ml6 with
  | zero=>cases h
  | succ ml6 =>
  rw [AN] at h
  refine A9 k g i rfl c f (OJ b f) (OJ b f) ?_
  exact go (tg (a:=([0,1,7,8,9],([0,1,7,8],[0,1,5,7,8],[0,1,5,7,8,16],([4],()),[0,1,7,8],[0,1,7,8],()),[],()))) h hs k g i c f (q1 ha1) (q2 j (fun e s=>Vl6 ml6 e s (Nat.lt_succ_self _)))
 ·clear h;rintro e st ⟨Xk3,Rk3,rfl,rfl,f,h⟩
  rw [D7] at h
  refine A9 k g i rfl c f (OJ b f) (OJ b f) ?_
  refine rg [4] hs ?_
  exact rt h hs c f
def Ju (n:Nat) (b:Ty) (y:(Int × ByteArray × Int × Ty × List Vl)→Option Bool):Option ((Int × ByteArray × Int × Ty × List Vl) × Bool) :=
 if (!(decide (b.kind=9)))&&(!(decide (b.kind=10))) then
  some (((0,(⟨#[]⟩:ByteArray),0,Ty.mk 0 0 0 0 ([]) ([]) ([]),[]),false))
 else
  (Ba n b.fields y).bind fun q =>
  if decide (q<0) then
   some (((0,(⟨#[]⟩:ByteArray),0,Ty.mk 0 0 0 0 ([]) ([]) ([]),[]),false))
  else
   (Cb b.fields q).bind fun g =>
   (C9 (GR n) n g).bind fun h =>
   some ((h,true))
theorem Za3 (w0:World) (n:Nat) (B:Ao) (Rw:Av) (L:As) (a0:Ty) (fa1:FuncId) (ca1:List AV) (a1:(Int × ByteArray × Int × Ty × List Vl)→Option Bool) (ha1:∀ (x0:Int × ByteArray × Int × Ty × List Vl) r,a1 x0=some r→∀ B' rows,B <+: B'→Rw <+: rows→ACalls Tryz.prog w0 fa1 ([.agg (Am x0.1::(.val (.string x0.2.1)::(Am x0.2.2.1::((x0.2.2.2.1.cs)++([.list (x0.2.2.2.2.map Di) .none])))))]++ca1) ⟨B',rows,L⟩ fun v s=>v = .val (.bool r)∧s=⟨B',rows,L⟩) (r:(Int × ByteArray × Int × Ty × List Vl) × Bool) (h:Ju n a0 a1=some r) :
  ACalls Tryz.prog w0 213 [.agg (a0.cs),.clo fa1 ca1] ⟨B,Rw,L⟩ fun x st=>x = .tup [.agg (Am r.1.1::(.val (.string r.1.2.1)::(Am r.1.2.2.1::((r.1.2.2.2.1.cs)++([.list (r.1.2.2.2.2.map Di) .none]))))),.val (.bool r.2)]∧st=⟨B,Rw,L⟩:=by
 rw [Ju] at h
 refine hd [.cell 4 95,.tmp 5] Tryz.func213 Tryz.ntmps213 fun M0 W0 p e f b o j hs=>?_
 simp only [AA]
 have g:=B6 (o (.clo fa1 ca1) (by simp))
 refine rg [1,2,4] hs ?_
 apply An;intro K2 d
 refine rg [1,2,4,14] hs ?_
 refine BQ h hs ?_ ?_<;>intro hs h
 ·refine rg [4,5] hs ?_
  exact rt h hs b j
 refine sk [1,2,4] hs d ?_
 clear d
 obtain ⟨q,l,h⟩:=bind_some h
 refine rc 2 [2,4,6] hs ?_;intro K6 k
 refine Aw _ (G3 w0 n _ _ _ a0.fields fa1 ca1 a1 (fun x0 r m i c q1 q2=>ha1 x0 r m i c (List.IsPrefix.trans px q1) (j.pre.trans q2)) _ l) (hv hs) ?_
 exact go (tg (a:=([2,4,6,21],([4,5],()),[2,4,6],[4,5],()))) h hs p e f b j (q1 (Nj w0 (GR n) (S3 w0 n) n)) (q1 k)
def ID (n:Nat) (g:Ty) (h:ByteArray):Option ((Int × ByteArray × Int × Ty × List Vl) × Bool) :=
 (Ju n g (fun (q:Int × ByteArray × Int × Ty × List Vl)=>some (Jn q h))).bind fun b =>
 some ((b.1,b.2))
theorem OZ (w0:World) (n:Nat) (B:Ao) (Rw:Av) (L:As) (a0:Ty) (a1:ByteArray) (r:(Int × ByteArray × Int × Ty × List Vl) × Bool) (h:ID n a0 a1=some r) :
  ACalls Tryz.prog w0 144 [.agg (a0.cs),.val (.string a1)] ⟨B,Rw,L⟩ fun x st=>x = .tup [.agg (Am r.1.1::(.val (.string r.1.2.1)::(Am r.1.2.2.1::((r.1.2.2.2.1.cs)++([.list (r.1.2.2.2.2.map Di) .none]))))),.val (.bool r.2)]∧st=⟨B,Rw,L⟩:=by
 rw [ID] at h
 refine hd [.cell 4 95,.tmp 5] Tryz.func144 Tryz.ntmps144 fun M0 W0 j c d a k e hs=>?_
 simp only [AA]
 refine rg [2,3,4] hs ?_
 obtain ⟨g,hy3,h⟩:=bind_some h
 refine rc 2 [4,5] hs ?_;intro K2 b
 refine Aw _ (Za3 w0 n _ _ _ a0 214 [.box (B.length+1) 0] (fun (x0:Int × ByteArray × Int × Ty × List Vl)=>some (Jn x0 a1)) (fun x0 r hx i rows' hB' f=>by cases hx;exact U6 w0 _ _ _ x0 _ a1 (D1 hB' ev)) _ hy3) (hv hs) ?_
 refine ne hs b ?_
 clear b
 exact rt h hs a e
end Go.Proofs.YtmcnjijeocmkgaaGreatDoor
namespace Go.Ev
open Go Go.RowKit
def Mem.start:Mem:=⟨0,0,fun _=>0,fun _=>0,fun _=>0,fun _=>0,fun _=>0,fun _=>0,0,fun _=>0⟩
theorem ZbH (W:World):RelSt W Mem.start ⟨[],[],[]⟩ W where
 below := .refl _ _
 N:=rfl
 NR:=rfl
 top:=fun _ _=>rfl
 inj:=fun _ _ h=>absurd h (Nat.not_lt_zero _)
 box:=fun _ _ h=>by simp at h
 row:=fun _ _ h=>by simp at h
 rowinj:=fun _ _ h=>absurd h (Nat.not_lt_zero _)
 loop:=⟨rfl,fun _ _ h=>absurd h (Nat.not_lt_zero _),fun _ _ h=>by simp at h⟩
theorem RS {P:Program} {f:FuncId} {W:World} {vals:Array Value} {args:List AV} {r:Value} (h:ACalls P W f args ⟨[],[],[]⟩ fun v st=>v = .val r∧st=⟨[],[],[]⟩) (hr:RowR W Mem.start W vals args) :
  Calls P f vals W fun e w'=>e = .returned r∧Below W.heap.size W w' :=
 (h.2 Mem.start W vals (ZbH W) hr).mono fun en w' ⟨v,M',a,st,h1,⟨h2,_⟩,_,h4,h5⟩=>by
  subst h2
  have:=h5.val_inv.1
  subst this
  exact ⟨h1,h4.below⟩
theorem Zab {W:World} {v u t:Value} {x y z:AV} (h:R W Mem.start W v x) (k:R W Mem.start W u y) (l:R W Mem.start W t z):RowR W Mem.start W #[v,u,t] [x,y,z]:=⟨rfl,fun i b a=>by
 have:i=0∨i=1∨i=2:=by simp at a;omega
 rcases this with rfl | rfl | rfl
 ·exact h
 ·exact k
 ·exact l⟩
end Go.Ev
namespace Go.Proofs.YtmcnjijeocmkgaaGreatDoor
open Go Go.Shelf Go.ChangeShapes Go.WideShapes Go.ChangeAt Go.RowKit Go.Lib Go.Ev
open Go.ChangeMaps (open_string shut_string)
set_option maxRecDepth 100000
theorem ZfV:ownKnob Tryz.prog.godebug=none:=by kernel_rfl
def Zjn:DataW Unit→List Value
 | .lit (.int k z)=>[.int k z]
 | .agg l=>l.flatMap fun | .lit (.int k z)=>[.int k z] | _=>[]
 | _=>[]
def Zje:DataW Unit→List Value
 | .agg l=>l.flatMap Zjn
 | _=>[]
theorem SJ {W:World} (h:Lib.VarReads Tryz.prog W N2 Rows.laid_internal_strconv_uint64pow10):Pow10 W:=by
 obtain ⟨g,t,cs,b,p,f,c,d,a⟩:=h
 obtain rfl:=Option.some.inj ((show Tryz.prog.globalNamed N2=some 4 by kernel_rfl).symm.trans f)
 obtain rfl:=Option.some.inj ((show (Tryz.prog.globals[4]?).map (·.type)=some 339 by kernel_rfl).symm.trans c)
 have e:(Rows.laid_internal_strconv_uint64pow10:DataW Unit)=Lib.tabData .u64 Lib.pow10Tab:=by kernel_rfl
 rw [e] at a
 unfold Pow10 Lib.TabIs
 rw [d,←Lib.cells_of_tab (n:=20) (k := .u64) (zs:=Lib.pow10Tab) Tryz.underlying339 Tryz.underlying301 (by kernel_rfl) (by kernel_rfl) a]
section
variable {H:Type} {enc:TypeId × Value→H} {W:World} {base:Nat} {v:Value} {d:DataW H} {p:List MemPlace}
theorem Zhy (hv:Value.okWide Tryz.prog W .any base 9 v) (h:DataW.Trod enc Tryz.prog W 0 (fun _=>true) true 9 v d p):∃ s:ByteArray,s.size≤maxLen∧R W Mem.start W v (.val (.string s)):=by
 obtain ⟨s,rfl,rfl,rfl,a⟩:=open_string Tryz.underlying9 hv h
 exact ⟨s,a,.flat (Ah a)⟩
end
set_option maxRecDepth 100000
mutual
def Vl.wf:Vl→Prop
 | .mk k i s t l f=>A6 k∧A6 i∧A6 s∧t.size≤maxLen∧l.length≤maxLen∧f.length≤maxLen∧Zc9 l∧ZdQ f
def Zc9:List Vl→Prop
 | []=>True
 | v::r=>v.wf∧Zc9 r
def ZdQ:List (ByteArray × Vl)→Prop
 | []=>True
 | (n,v)::r=>n.size≤maxLen∧v.wf∧ZdQ r
end
theorem X0:∀ l,Zc9 l↔∀ v∈l,v.wf
 | []=>by simp [Zc9]
 | v::r=>by simp [Zc9,X0 r]
theorem Yb:∀ l,ZdQ l↔∀ p∈l,p.1.size≤maxLen∧p.2.wf
 | []=>by simp [ZdQ]
 | (n,v)::r=>by simp [ZdQ,Yb r,and_assoc]
mutual
def Ty.wf:Ty→Prop
 | .mk k lo hi s w e f=>A6 k∧A6 lo∧A6 hi∧A6 s∧(∀ x∈w,x.size≤maxLen)∧w.length≤maxLen∧e.length≤maxLen∧f.length≤maxLen∧ZcC e∧X6 f
def ZcC:List Ty→Prop
 | []=>True
 | v::r=>v.wf∧ZcC r
def X6:List (Int × ByteArray × Int × Ty × List Vl)→Prop
 | []=>True
 | (n,s,d,t,l)::r=>(A6 n∧s.size≤maxLen∧A6 d∧t.wf∧l.length≤maxLen∧∀ v∈l,v.wf)∧X6 r
end
theorem Yd:∀ l,ZcC l↔∀ v∈l,v.wf
 | []=>by simp [ZcC]
 | v::r=>by simp [ZcC,Yd r]
theorem VQ:∀ l,X6 l↔∀ p∈l,A6 p.1∧p.2.1.size≤maxLen∧A6 p.2.2.1∧p.2.2.2.1.wf∧p.2.2.2.2.length≤maxLen∧∀ v∈p.2.2.2.2,v.wf
 | []=>by simp [X6]
 | (n,s,d,t,l)::r=>by simp [X6,VQ r]
mutual
def Vl.bulk:Vl→Nat
 | .mk _ _ _ t l f=>1+t.size+OR l+WJ f
def OR:List Vl→Nat
 | []=>0
 | v::r=>v.bulk+OR r
def WJ:List (ByteArray × Vl)→Nat
 | []=>0
 | (n,v)::r=>n.size+v.bulk+WJ r
end
def Xb:List ByteArray→Nat
 | []=>0
 | w::r=>w.size+1+Xb r
mutual
def Ty.bulk:Ty→Nat
 | .mk _ _ _ _ w e f=>1+Xb w+Xt e+Sr f
def Xt:List Ty→Nat
 | []=>0
 | v::r=>v.bulk+Xt r
def Sr:List (Int × ByteArray × Int × Ty × List Vl)→Nat
 | []=>0
 | (_,n,_,t,l)::r=>n.size+t.bulk+OR l+Sr r
end
theorem Pj:∀ l,OR l=(l.map Vl.bulk).sum
 | []=>rfl
 | v::r=>by rw [OR,Pj r];rfl
theorem TO:∀ l,WJ l=(l.map fun p=>p.1.size+p.2.bulk).sum
 | []=>rfl
 | (n,v)::r=>by rw [WJ,TO r];rfl
theorem Tz:∀ l,Xb l=(l.map fun w=>w.size+1).sum
 | []=>rfl
 | v::r=>by rw [Xb,Tz r];rfl
theorem TA:∀ l,Xt l=(l.map Ty.bulk).sum
 | []=>rfl
 | v::r=>by rw [Xt,TA r];rfl
theorem Rq:∀ l,Sr l=(l.map fun p=>p.2.1.size+p.2.2.2.1.bulk+OR p.2.2.2.2).sum
 | []=>rfl
 | (a,n,b,t,l)::r=>by rw [Sr,Rq r];rfl
def Part.wf (p:Part):Prop:=A6 p.kind∧A6 p.index∧p.name.size≤maxLen
def Sch.wf (s:Sch):Prop:=s.name.size≤maxLen∧A6 s.version∧s.type.wf
section
variable {H:Type} {enc:TypeId × Value→H} {W:World}
def RC (W:World) (cs:List Value) (xs:List AV):Prop:=cs.length=xs.length∧∀ i (h1:i<cs.length) (h2:i<xs.length),R W Mem.start W cs[i] xs[i]
theorem RC.nil:RC W [] []:=⟨rfl,fun i a=>absurd a (by simp)⟩
theorem RC.cons {v:Value} {x:AV} {cs:List Value} {xs:List AV} (h:R W Mem.start W v x) (k:RC W cs xs):RC W (v::cs) (x::xs):=⟨by simp [k.1],fun i a b=>by
 cases i with
 | zero=>exact h
 | succ i=>simpa using k.2 i (by simpa using a) (by simpa using b)⟩
theorem RC.app {cs ds:List Value} {xs ys:List AV} (h:RC W cs xs) (k:RC W ds ys):RC W (cs++ds) (xs++ys):=by
 refine ⟨by simp [h.1,k.1],fun i a b=>?_⟩
 by_cases c:i<cs.length
 ·rw [List.getElem_append_left c,List.getElem_append_left (h.1▸c)];exact h.2 i c _
 ·rw [List.getElem_append_right (Nat.le_of_not_lt c),List.getElem_append_right (h.1▸Nat.le_of_not_lt c)]
  simp only [h.1]
  exact k.2 _ (by have:=h.1;rw [List.length_append] at a;omega) (by have:=h.1;rw [List.length_append] at b;omega)
theorem RC.agg {cs:List Value} {xs:List AV} (h:RC W cs xs) (h1:∀ x∈xs,x.one=true):R W Mem.start W (.agg cs.toArray) (.agg xs) := .agg (by simpa using h.1) h1 (fun i a b=>by simpa using h.2 i (by simpa using a) b)
noncomputable abbrev Td (enc:TypeId × Value→H) (W:World) (n:Nat) (t:TypeId) (cs:List Value):Option (DataW H × List MemPlace):=DataW.trod enc Tryz.prog W 0 (fun _=>true) true n t cs
theorem QA (d:DataW H):1≤Rows.uptoBulk d:=by
 cases d with
 | lit l=>cases l<;>simp [Rows.uptoBulk]
 | _=>simp [Rows.uptoBulk]
theorem Vk {α:Type} (m:α→Nat):∀ (l:List α) (es:List (DataW H × List MemPlace)),l.length=es.length→(∀ i (h1:i<l.length) (h2:i<es.length),m l[i]≤Rows.uptoBulk es[i].1)→(l.map m).sum≤Rows.uptoBulkAll (es.map (·.1))
 | [],_,_,_=>by simp
 | y::r,[],h,_=>by simp at h
 | y::r,e::es,h,k=>by
  have a:=k 0 (by simp) (by simp)
  have:=Vk m r es (by simpa using h) (fun i h1 h2=>by have:=k (i+1) (by simpa using h1) (by simpa using h2);simpa using this)
  simp only [List.map_cons,List.sum_cons,Rows.uptoBulkAll,List.getElem_cons_zero] at a ⊢
  omega
theorem Kr {n:Nat} {cs:List Value} {x:DataW H × List MemPlace} (h:Td enc W n 3 cs=some x):∃ z,A6 z∧cs=[.int .i64 z]:=by
 obtain ⟨z,rfl,_,a⟩:=DataW.trod_int Tryz.underlying3 h
 refine ⟨z,?_,rfl⟩
 simp [Lit.wf,IntKind.min,IntKind.max,IntKind.signed,IntKind.bits] at a
 unfold A6
 omega
theorem QG {n:Nat} {cs:List Value} {x:DataW H × List MemPlace} (h:Td enc W n 9 cs=some x):∃ s:ByteArray,s.size≤maxLen∧cs=[.string s]∧s.size+1≤Rows.uptoBulk x.1:=by
 obtain ⟨s,rfl,rfl,a⟩:=DataW.trod_string Tryz.underlying9 h
 exact ⟨s,a,rfl,by simp [Rows.uptoBulk]⟩
theorem H5 {α:Type} (f:α→AV) (p:α→Prop) (m:α→Nat) {t e:TypeId} {sz:Nat} (ht:Tryz.prog.underlying t=some (.slice e)) (hc:Tryz.prog.cellsOf e=sz) (hsz:0<sz) {n:Nat}
  (H0:∀ cs x,Td enc W n e cs=some x→∃ y u,p y∧u.cells.toList=cs∧R W Mem.start W u (f y)∧m y≤Rows.uptoBulk x.1) {cs:List Value} {x:DataW H × List MemPlace} (h:Td enc W (n+1) t cs=some x) :
  ∃ (l:List α) (v:Value),(∀ y∈l,p y)∧l.length≤maxLen∧cs=[v]∧R W Mem.start W v (.list (l.map f) .none)∧(l.map m).sum+1≤Rows.uptoBulk x.1:=by
 rcases DataW.trod_slice ht h with ⟨rfl,_⟩ | ⟨a,len,cap,elems,rest,n',hn,rfl,rfl,hb,hl,hm,hlen,hel,hsp,_⟩
 ·exact ⟨[],_,by simp,by simp,rfl,.nil (fun id=>by simp),by simpa using QA x.1⟩
 ·cases hn
  by_cases hcap:cap=0
  ·subst hcap
   obtain rfl:len=0:=by omega
   exact ⟨[],_,by simp,by simp,rfl,.emp (fun id=>by simp),by simpa using QA _⟩
  have hspot:a.spot=none:=by
   have get:∀ (c:DataW H × List MemPlace) (r:List Value→Option (DataW H × List MemPlace)),(W.cells? 0 (a.add (0*Tryz.prog.cellsOf e)) (Tryz.prog.cellsOf e)).bind r=some c→a.spot=none:=fun c r Y=>by
    obtain ⟨cs',E,_⟩:=Option.bind_eq_some_iff.1 Y
    obtain ⟨_,F,D⟩:=World.cells?_some E
    have h4:=D 0 (by omega)
    rw [List.getElem?_eq_getElem (by omega)] at h4
    have e0:(a.add (0*Tryz.prog.cellsOf e)).add 0=a:=by simp [Addr.add]
    rw [e0] at h4
    unfold World.cell? at h4
    split at h4
    ·split at h4
     ·cases h4
     ·rename_i q;simpa using q
    ·cases h4
   by_cases h0:0<len
   ·have:=hel 0 h0
    rw [List.getElem?_eq_getElem (by omega)] at this
    exact get _ _ this
   ·obtain ⟨E,F⟩:=hsp rfl
    have:=F 0 (by omega)
    rw [List.getElem?_eq_getElem (by omega)] at this
    obtain rfl:len=0:=by omega
    exact get _ _ this
  obtain ⟨b,off,sp⟩:=a
  simp only at hspot
  subst hspot
  have C:∀ i,i<len→∃ y u,p y∧R W Mem.start W u (f y)∧(∀ h:i<elems.length,m y≤Rows.uptoBulk elems[i].1)∧u.cells.size=sz∧∀ j,j<sz→W.cell? ⟨b,off+i*sz+j,none⟩=u.cells[j]? := fun i k=>by
   have E:=hel i k
   rw [List.getElem?_eq_getElem (by omega)] at E
   obtain ⟨cs',F,D⟩:=Option.bind_eq_some_iff.1 E
   obtain ⟨y,u,h4,O,h6,K⟩:=H0 _ _ D
   obtain ⟨_,U,Q⟩:=World.cells?_some F
   rw [hc] at U Q
   refine ⟨y,u,h4,h6,fun _=>K,by rw [←U,←O,Array.length_toList],fun j G=>?_⟩
   have:=Q j G
   rw [←O,Array.getElem?_toList] at this
   rw [←this]
   congr 1
   have V:∀ (o m:Nat),(⟨b,o,none⟩:Addr).add m=⟨b,o+m,none⟩:=fun o m=>by unfold Addr.add;split<;>simp_all
   rw [V,V]
  classical
  let y:Nat→Option (α × Value):=fun i=>if k:i<len then some (Classical.choose (C i k),Classical.choose (Classical.choose_spec (C i k))) else none
  have N:len=0∨Nonempty (α × Value):=by
   by_cases h0:0<len
   ·obtain ⟨z,u,_⟩:=C 0 h0;exact .inr ⟨(z,u)⟩
   ·exact .inl (by omega)
  rcases N with h0 | ⟨⟨d⟩⟩
  ·subst h0
   exact ⟨[],_,by simp,by simp,rfl,.list (xs:=[]) 0 (fun _=>undef) (Nat.zero_le _) hm (fun i k=>absurd k (by simp)) (fun i k=>absurd k (by simp)) trivial,by simpa using QA _⟩
  ·let g:Nat→α × Value:=fun i=>if k:i<len then (Classical.choose (C i k),Classical.choose (Classical.choose_spec (C i k))) else d
   have J:∀ i,i<len→p (g i).1∧R W Mem.start W (g i).2 (f (g i).1)∧(∀ h:i<elems.length,m (g i).1≤Rows.uptoBulk elems[i].1)∧(g i).2.cells.size=sz∧∀ j,j<sz→W.cell? ⟨b,off+i*sz+j,none⟩=(g i).2.cells[j]? := fun i k=>by
    have:=Classical.choose_spec (Classical.choose_spec (C i k))
    simp only [g,dif_pos k]
    exact this
   have s:(((List.range len).map fun i=>(g i).1).map f).length=len:=by simp
   refine ⟨(List.range len).map fun i=>(g i).1,.slice (some ⟨b,off,none⟩) len cap,fun z Z=>?_,by simp;omega,rfl,?_,?_⟩
   ·obtain ⟨i,k,rfl⟩:=List.mem_map.1 Z
    exact (J i (by simpa using k)).1
   ·have:=Ev.R.list (w0:=W) (M:=Ev.Mem.start) (w:=W) (b:=b) (off:=off) (cap:=cap) (xs:=((List.range len).map fun i=>(g i).1).map f) (o := .none) sz (fun i=>(g i).2) (by rw [s];exact hl) hm
     (fun i k=>by
      rw [s] at k
      obtain ⟨_,_,_,D,h4⟩:=J i k
      refine ⟨D,fun j G=>⟨.inl ?_,h4 j G⟩⟩
      have:=h4 j G
      rw [Array.getElem?_eq_getElem (by rw [D];exact G)] at this
      exact World.block_lt_of_cell? W _ this) (fun i k=>by
      rw [s] at k
      simp only [List.getElem_map,List.getElem_range]
      exact (J i k).2.1) trivial
    rw [s] at this
    exact this
   ·have:=Vk m ((List.range len).map fun i=>(g i).1) elems (by simp;omega) (fun i E F=>by
     simp only [List.getElem_map,List.getElem_range]
     exact (J i (by omega)).2.2.1 F)
    simp only [Rows.uptoBulk]
    omega
theorem Vl.ones (v:Vl):∀ x∈v.cs,x.one=true:=by
 cases v;intro x hx
 simp only [Vl.cs,List.mem_cons,List.not_mem_nil,or_false] at hx
 rcases hx with rfl | rfl | rfl | rfl | rfl | rfl<;>rfl
theorem Ty.ones (v:Ty):∀ x∈v.cs,x.one=true:=by
 cases v;intro x hx
 simp only [Ty.cs,List.mem_cons,List.not_mem_nil,or_false] at hx
 rcases hx with rfl | rfl | rfl | rfl | rfl | rfl | rfl<;>rfl
theorem Xk:∀ (n:Nat) (cs:List Value) (x:DataW H × List MemPlace),Td enc W n 34 cs=some x→∃ v:Vl,v.wf∧RC W cs v.cs∧v.bulk≤Rows.uptoBulk x.1
 | 0,cs,x,h=>by simp [Td,DataW.trod] at h
 | n+1,cs,x,h=>by
  obtain ⟨xs,Z,hn,rfl,e,hx,a⟩:=DataW.trod_struct Tryz.underlying34 h
  cases hn
  have r:cs.length=6:=e.trans (by kernel_rfl)
  have u:xs.length=6:=hx
  match cs,r,xs,u,a with
  | [c0,c1,c2,c3,c4,c5],_,[y0,y1,y2,y3,y4,y5],_,a =>
  have f0:_=some y0:=a 0 _ rfl;have f1:_=some y1:=a 1 _ rfl;have f2:_=some y2:=a 2 _ rfl;have U:_=some y3:=a 3 _ rfl;have K:_=some y4:=a 4 _ rfl;have f5:_=some y5:=a 5 _ rfl
  obtain ⟨k,V,ek⟩:=Kr f0
  obtain ⟨i,O,ei⟩:=Kr f1
  obtain ⟨s,hs,es⟩:=Kr f2
  obtain ⟨t,F,et,bt⟩:=QG U
  cases n with
  | zero=>simp [DataW.trod] at K
  | succ n =>
  obtain ⟨l,vl,D,m,el,f,bl⟩:=H5 Di Vl.wf Vl.bulk Tryz.underlying31 (sz:=6) (by kernel_rfl) (by omega) (fun cs x h=>by
   obtain ⟨v,hv,c,J⟩:=Xk n cs x h
   exact ⟨v,.agg cs.toArray,hv,by simp [Value.cells],c.agg v.ones,J⟩) K
  obtain ⟨N,vf,E,C,ef,j,bf⟩:=H5 RO (fun p=>p.1.size≤maxLen∧p.2.wf) (fun p=>p.1.size+p.2.bulk) Tryz.underlying32 (sz:=7) (by kernel_rfl) (by omega) (fun cs x h=>by
   cases n with
   | zero=>simp [DataW.trod] at h
   | succ n =>
   obtain ⟨G,Z,hn,rfl,e,hx,a⟩:=DataW.trod_struct Tryz.underlying81 h
   cases hn
   have q:cs.length=7:=e.trans (by kernel_rfl)
   have y:G.length=2:=hx
   match G,y,a with
   | [w0,w1],_,a =>
   have Q:_=some w0:=a 0 _ rfl;have q1:_=some w1:=a 1 _ rfl
   obtain ⟨o,b,en,bn⟩:=QG Q
   obtain ⟨v,hv,c,J⟩:=Xk n _ _ q1
   have e2:Tryz.prog.cellsOf 34=6:=by kernel_rfl
   have Y:Tryz.prog.cellsOf 9=1:=by kernel_rfl
   simp only [List.getElem_toArray,List.getElem_cons_zero,List.getElem_cons_succ,e2,Y] at en c
   match cs,q with
   | [c0,c1,c2,c3,c4,c5,c6],_ =>
   simp only [List.drop_zero,List.take_succ_cons,List.take_zero,List.cons.injEq,and_true,List.drop_succ_cons] at en c
   subst en
   refine ⟨(o,v),.agg #[.string o,c1,c2,c3,c4,c5,c6],⟨b,hv⟩,rfl,?_,by simp only [List.map_cons,List.map_nil,Rows.uptoBulk,Rows.uptoBulkAll];omega⟩
   exact RC.agg (cs:=[.string o,c1,c2,c3,c4,c5,c6]) (.cons (.flat (Ah b)) c) (fun x hx=>by
    rcases List.mem_cons.1 hx with rfl | hx
    ·rfl
    ·exact v.ones x hx)) f5
  have w:Tryz.prog.cellsOf 3=1:=by kernel_rfl
  have z:Tryz.prog.cellsOf 9=1:=by kernel_rfl
  have g:Tryz.prog.cellsOf 31=1:=by kernel_rfl
  have d:Tryz.prog.cellsOf 32=1:=by kernel_rfl
  simp only [List.getElem_toArray,List.getElem_cons_zero,List.getElem_cons_succ,w,z,g,d,List.drop_zero,List.take_succ_cons,List.take_zero,List.cons.injEq,and_true,List.drop_succ_cons] at ek ei es et el ef
  subst ek ei es et el ef
  refine ⟨.mk k i s t l N,?_,?_,by simp only [List.map_cons,List.map_nil,Rows.uptoBulk,Rows.uptoBulkAll,Vl.bulk,Pj,TO];omega⟩
  ·unfold Vl.wf
   exact ⟨V,O,hs,F,m,C,(X0 l).2 D,(Yb N).2 E⟩
  ·rw [Vl.cs,P6,YL]
   exact .cons (.flat rfl) (.cons (.flat rfl) (.cons (.flat rfl) (.cons (.flat (Ah F)) (.cons f (.cons j .nil)))))
theorem ZH:∀ (n:Nat) (cs:List Value) (x:DataW H × List MemPlace),Td enc W n 26 cs=some x→∃ v:Ty,v.wf∧RC W cs v.cs∧v.bulk≤Rows.uptoBulk x.1
 | 0,cs,x,h=>by simp [Td,DataW.trod] at h
 | n+1,cs,x,h=>by
  obtain ⟨xs,n',hn,rfl,i,hx,a⟩:=DataW.trod_struct Tryz.underlying26 h
  cases hn
  have E:cs.length=7:=i.trans (by kernel_rfl)
  have l:xs.length=7:=hx
  match cs,E,xs,l,a with
  | [c0,c1,c2,c3,c4,c5,c6],_,[y0,y1,y2,y3,y4,y5,y6],_,a =>
  have f0:_=some y0:=a 0 _ rfl;have f1:_=some y1:=a 1 _ rfl;have f2:_=some y2:=a 2 _ rfl;have f3:_=some y3:=a 3 _ rfl;have f4:_=some y4:=a 4 _ rfl;have f5:_=some y5:=a 5 _ rfl;have f6:_=some y6:=a 6 _ rfl
  obtain ⟨k,hk,ek⟩:=Kr f0
  obtain ⟨lo,t,elo⟩:=Kr f1
  obtain ⟨hi,Q,ehi⟩:=Kr f2
  obtain ⟨s,hs,es⟩:=Kr f3
  cases n with
  | zero=>simp [DataW.trod] at f4
  | succ n =>
  obtain ⟨w,vw,D,r,ew,V,bw⟩:=H5 CB (fun s=>s.size≤maxLen) (fun w=>w.size+1) Tryz.underlying22 (sz:=1) (by kernel_rfl) (by omega) (fun cs x h=>by
   obtain ⟨s,hs,rfl,d⟩:=QG h
   exact ⟨s,.string s,hs,rfl,.flat (Ah hs),d⟩) f4
  obtain ⟨el,ve,o,m,ee,g,be⟩:=H5 J1 Ty.wf Ty.bulk Tryz.underlying23 (sz:=7) (by kernel_rfl) (by omega) (fun cs x h=>by
   obtain ⟨v,hv,b,d⟩:=ZH n cs x h
   exact ⟨v,.agg cs.toArray,hv,by simp [Value.cells],b.agg v.ones,d⟩) f5
  obtain ⟨fl,vf,Y,N,ef,z,bf⟩:=H5 Cd (fun p=>A6 p.1∧p.2.1.size≤maxLen∧A6 p.2.2.1∧p.2.2.2.1.wf∧p.2.2.2.2.length≤maxLen∧∀ v∈p.2.2.2.2,v.wf) (fun p=>p.2.1.size+p.2.2.2.1.bulk+OR p.2.2.2.2) Tryz.underlying24 (sz:=11) (by kernel_rfl) (by omega) (fun cs x h=>by
   cases n with
   | zero=>simp [DataW.trod] at h
   | succ n =>
   obtain ⟨ys,n',hn,rfl,i,hx,a⟩:=DataW.trod_struct Tryz.underlying95 h
   cases hn
   have e:cs.length=11:=i.trans (by kernel_rfl)
   have O:ys.length=5:=hx
   match ys,O,a with
   | [w0,w1,w2,w3,w4],_,a =>
   have q0:_=some w0:=a 0 _ rfl;have q1:_=some w1:=a 1 _ rfl;have q2:_=some w2:=a 2 _ rfl;have q3:_=some w3:=a 3 _ rfl;have q4:_=some w4:=a 4 _ rfl
   obtain ⟨q,K,enu⟩:=Kr q0
   obtain ⟨f,c,en,bn⟩:=QG q1
   obtain ⟨Z,C,end'⟩:=Kr q2
   obtain ⟨v,hv,b,aa⟩:=ZH n _ _ q3
   cases n with
   | zero=>simp [DataW.trod] at q4
   | succ n =>
   obtain ⟨dl,vd,F,U,ed,u,bd⟩:=H5 Di Vl.wf Vl.bulk Tryz.underlying31 (sz:=6) (by kernel_rfl) (by omega) (fun cs x h=>by
    obtain ⟨v,hv,b,d⟩:=Xk n cs x h
    exact ⟨v,.agg cs.toArray,hv,by simp [Value.cells],b.agg v.ones,d⟩) q4
   have e1:Tryz.prog.cellsOf 3=1:=by kernel_rfl
   have e2:Tryz.prog.cellsOf 26=7:=by kernel_rfl
   have e3:Tryz.prog.cellsOf 9=1:=by kernel_rfl
   have e4:Tryz.prog.cellsOf 31=1:=by kernel_rfl
   simp only [List.getElem_toArray,List.getElem_cons_zero,List.getElem_cons_succ,e1,e2,e3,e4] at enu en end' b ed
   match cs,e with
   | [c0,c1,c2,c3,c4,c5,c6,c7,c8,c9,c10],_ =>
   simp only [List.drop_zero,List.take_succ_cons,List.take_zero,List.cons.injEq,and_true,List.drop_succ_cons] at enu en end' b ed
   subst enu en end' ed
   refine ⟨(q,f,Z,v,dl),.agg #[.int .i64 q,.string f,.int .i64 Z,c3,c4,c5,c6,c7,c8,c9,c10],⟨K,c,C,hv,U,F⟩,rfl,?_,by simp only [List.map_cons,List.map_nil,Rows.uptoBulk,Rows.uptoBulkAll,Pj];omega⟩
   exact RC.agg (cs:=[.int .i64 q,.string f,.int .i64 Z]++([c3,c4,c5,c6,c7,c8,c9]++[c10])) (.cons (.flat rfl) (.cons (.flat (show F2 (.string f)=true from Ah c)) (.cons (.flat rfl) (b.app (.cons u .nil))))) (fun x hx=>by
    simp only [List.mem_cons,List.mem_append,List.not_mem_nil,or_false] at hx
    rcases hx with rfl | rfl | rfl | hx | rfl
    ·rfl
    ·rfl
    ·rfl
    ·exact v.ones x hx
    ·rfl)) f6
  have G:Tryz.prog.cellsOf 3=1:=by kernel_rfl
  have J:Tryz.prog.cellsOf 22=1:=by kernel_rfl
  have y:Tryz.prog.cellsOf 23=1:=by kernel_rfl
  have j:Tryz.prog.cellsOf 24=1:=by kernel_rfl
  simp only [List.getElem_toArray,List.getElem_cons_zero,List.getElem_cons_succ,G,J,y,j,List.drop_zero,List.take_succ_cons,List.take_zero,List.cons.injEq,and_true,List.drop_succ_cons] at ek elo ehi es ew ee ef
  subst ek elo ehi es ew ee ef
  refine ⟨.mk k lo hi s w el fl,?_,?_,by simp only [List.map_cons,List.map_nil,Rows.uptoBulk,Rows.uptoBulkAll,Ty.bulk,Tz,TA,Rq];omega⟩
  ·unfold Ty.wf
   exact ⟨hk,t,Q,hs,D,r,m,N,(Yd el).2 o,(VQ fl).2 Y⟩
  ·rw [Ty.cs,Yj,Vv,ZdL]
   exact .cons (.flat rfl) (.cons (.flat rfl) (.cons (.flat rfl) (.cons (.flat rfl) (.cons V (.cons g (.cons z .nil))))))
end
section
variable {H:Type} {enc:TypeId × Value→H} {W:World} {base:Nat} {v:Value} {d:DataW H} {p:List MemPlace}
theorem Zc4 {t:TypeId} {fs:Array Field} (ht:Tryz.prog.underlying t=some (.struct fs)) (hv:Value.okWide Tryz.prog W .any base t v):∃ cs,v = .agg cs:=by
 unfold Value.okWide at hv
 rw [ht] at hv
 obtain ⟨cs,h,_⟩:=hv
 exact ⟨cs,h⟩
theorem Zhl (hv:Value.okWide Tryz.prog W .any base 26 v) (h:DataW.Trod enc Tryz.prog W 0 (fun _=>true) true 26 v d p):∃ t:Ty,t.wf∧R W Mem.start W v (.agg t.cs)∧t.bulk≤Rows.uptoBulk d:=by
 obtain ⟨cs,rfl⟩:=Zc4 Tryz.underlying26 hv
 obtain ⟨n,a⟩:=h
 obtain ⟨t,e,b,c⟩:=ZH n _ _ a
 exact ⟨t,e,by simpa [Value.cells] using b.agg t.ones,c⟩
end
end Go.Proofs.YtmcnjijeocmkgaaGreatDoor
namespace Go.Proofs.YtmcnjijeocmkgaaGreatDoor
open Go Go.RowKit Go.Ev
theorem AH {α:Type} {l:List α} {k:Nat} (h:k<l.length):Cb l (k:Int)=some l[k]:=ZhB h
theorem AD {a b:Nat}:decide ((a:Int)<(b:Int))=decide (a<b):=by simp
theorem AG {k:Nat} (h:k<1000000000000):A6 ((k:Int)+1):=by unfold A6;omega
theorem Ty.size_pos (t:Ty):0<t.size:=by cases t;simp [Ty.size];omega
theorem Ty.size_eq (t:Ty):t.size=1+FR t.elem+D2 t.fields:=by cases t;simp [Ty.size,Ty.elem,Ty.fields]
theorem SH:∀ (l:List Ty) (v:Ty),v∈l→v.size≤FR l
 | [],_,h=>by simp at h
 | a::r,v,h=>by
  rcases List.mem_cons.1 h with rfl | h
  ·simp [FR]
  ·have:=SH r v h
   simp [FR];omega
theorem Rh:∀ (l:List (Int × ByteArray × Int × Ty × List Vl)) (p:Int × ByteArray × Int × Ty × List Vl),p∈l→p.2.2.2.1.size≤D2 l
 | [],_,h=>by simp at h
 | (a,b,c,t,d)::r,p,h=>by
  rcases List.mem_cons.1 h with rfl | h
  ·simp [D2]
  ·have:=Rh r p h
   simp [D2];omega
theorem Tv:∀ l:List Ty,l.length≤FR l
 | []=>Nat.le_refl _
 | v::r=>by have:=Tv r;have:=v.size_pos;simp [FR];omega
theorem RI:∀ l:List (Int × ByteArray × Int × Ty × List Vl),l.length≤D2 l
 | []=>Nat.le_refl _
 | (_,_,_,t,_)::r=>by have:=RI r;have:=t.size_pos;simp [D2];omega
theorem Ty.elem_size (t x:Ty) (h:x∈t.elem):x.size<t.size:=by have:=SH _ _ h;have:=t.size_eq;omega
theorem Ty.field_size (t:Ty) (p) (h:p∈t.fields):p.2.2.2.1.size<t.size:=by have:=Rh _ _ h;have:=t.size_eq;omega
theorem Ty.lens (t:Ty):t.elem.length<t.size∧t.fields.length<t.size:=by have:=Tv t.elem;have:=RI t.fields;have:=t.size_eq;omega
theorem Vl.list_size (v x:Vl) (h:x∈v.list):x.size<v.size:=by have:=MV _ _ h;have:=v.size_eq;omega
theorem Vl.field_size (v:Vl) (p) (h:p∈v.fields):p.2.size<v.size:=by have:=MH _ _ h;have:=v.size_eq;omega
mutual
def Ty.depth:Ty→Nat
 | .mk _ _ _ _ _ e f=>1+max (Hk e) (Ft f)
def Hk:List Ty→Nat
 | []=>0
 | t::r=>max t.depth (Hk r)
def Ft:List (Int × ByteArray × Int × Ty × List Vl)→Nat
 | []=>0
 | (_,_,_,t,_)::r=>max t.depth (Ft r)
end
mutual
def Vl.ok:Vl→Prop
 | .mk _ _ _ t l f=>t.size≤1048576∧Zbj l∧Zbw f
def Zbj:List Vl→Prop
 | []=>True
 | v::r=>v.ok∧Zbj r
def Zbw:List (ByteArray × Vl)→Prop
 | []=>True
 | (n,v)::r=>n.size≤1048576∧v.ok∧Zbw r
end
theorem X1:∀ l,Zbj l↔∀ v∈l,v.ok
 | []=>by simp [Zbj]
 | v::r=>by simp [Zbj,X1 r]
theorem YW:∀ l,Zbw l↔∀ p∈l,p.1.size≤1048576∧p.2.ok
 | []=>by simp [Zbw]
 | (n,v)::r=>by simp [Zbw,YW r,and_assoc]
def Vl.small (v:Vl):Prop:=v.size≤1048575∧v.depth≤1048576∧v.ok
mutual
def Ty.ok:Ty→Prop
 | .mk _ _ _ _ w e f=>w.length≤1048576∧(∀ x∈w,x.size≤1048576)∧Zdl e∧XZ f
def Zdl:List Ty→Prop
 | []=>True
 | v::r=>v.ok∧Zdl r
def XZ:List (Int × ByteArray × Int × Ty × List Vl)→Prop
 | []=>True
 | (_,n,_,t,d)::r=>(n.size≤1048576∧t.ok∧d.length≤1048576∧∀ v∈d,v.small)∧XZ r
end
theorem XV:∀ l,Zdl l↔∀ v∈l,v.ok
 | []=>by simp [Zdl]
 | v::r=>by simp [Zdl,XV r]
theorem Vq:∀ l,XZ l↔∀ p∈l,p.2.1.size≤1048576∧p.2.2.2.1.ok∧p.2.2.2.2.length≤1048576∧∀ v∈p.2.2.2.2,v.small
 | []=>by simp [XZ]
 | (_,n,_,t,d)::r=>by simp [XZ,Vq r]
theorem Ty.ok_eq (t:Ty):t.ok↔t.words.length≤1048576∧(∀ x∈t.words,x.size≤1048576)∧(∀ v∈t.elem,v.ok)∧∀ p∈t.fields,p.2.1.size≤1048576∧p.2.2.2.1.ok∧p.2.2.2.2.length≤1048576∧∀ v∈p.2.2.2.2,v.small:=by
 cases t;simp only [Ty.ok,Ty.words,Ty.elem,Ty.fields,XV,Vq]
theorem Vl.ok_eq (v:Vl):v.ok↔v.text.size≤1048576∧(∀ x∈v.list,x.ok)∧∀ p∈v.fields,p.1.size≤1048576∧p.2.ok:=by
 cases v;simp only [Vl.ok,Vl.text,Vl.list,Vl.fields,X1,YW]
theorem IA:∀ (l:List Ty) (d:Nat),Hk l≤d↔∀ v∈l,v.depth≤d
 | [],d=>by simp [Hk]
 | v::r,d=>by simp [Hk,Nat.max_le,IA r d]
theorem HO:∀ (l:List (Int × ByteArray × Int × Ty × List Vl)) (d:Nat),Ft l≤d↔∀ v∈l,v.2.2.2.1.depth≤d
 | [],d=>by simp [Ft]
 | (_,_,_,t,_)::r,d=>by simp [Ft,Nat.max_le,HO r d]
theorem Ty.depth_eq (t:Ty):t.depth=1+Max.max (Hk t.elem) (Ft t.fields):=by cases t;simp [Ty.depth,Ty.elem,Ty.fields]
theorem Vl.eta (v:Vl):Vl.mk v.kind v.int v.scale v.text v.list v.fields=v:=by cases v;rfl
theorem Ty.eta (v:Ty):Ty.mk v.kind v.min v.max v.scale v.words v.elem v.fields=v:=by cases v;rfl
theorem Uo (rec:Vl→Option Vl) (n:Nat) (v:Vl) (hs:v.fields.length≤1000000000000) (hr:∀ p∈v.fields,rec p.2=some p.2) (b:List Vl):∀ (k m i:Nat),i+k=v.fields.length→k<m→Gp rec n v m i b (v.fields.take i)=some (Vl.mk v.kind v.int v.scale v.text b v.fields)
 | k,0,i,_,h=>absurd h (Nat.not_lt_zero _)
 | 0,m+1,i,hi,_=>by
  rw [Gp,AD,Ac]
  simp only [Bool.false_eq_true,if_false,LA]
  rw [List.take_of_length_le (by omega)]
 | k+1,m+1,i,hi,hm=>by
  have a:i<v.fields.length:=by omega
  rw [Gp,AD,Ah a]
  simp only [if_true,AH a,Af,hr _ (List.getElem_mem a)]
  rw [Ai (by rw [List.length_take];omega),Ai (AG (by omega))]
  have e:v.fields.take i++[(v.fields[i].1,v.fields[i].2)]=v.fields.take (i+1):=by rw [List.take_succ_eq_append_getElem a]
  rw [e]
  exact Uo rec n v hs hr b k m (i+1) (by omega) (by omega)
theorem Wc (rec:Vl→Option Vl) (n:Nat) (v:Vl) (hs:v.fields.length≤1000000000000∧v.list.length≤1000000000000) (hn:v.fields.length<n) (hr:(∀ x∈v.list,rec x=some x)∧∀ p∈v.fields,rec p.2=some p.2):∀ (k m i:Nat),i+k=v.list.length→k<m→HE rec n v m i (v.list.take i)=some v
 | k,0,i,_,h=>absurd h (Nat.not_lt_zero _)
 | 0,m+1,i,hi,_=>by
  rw [HE,AD,Ac]
  simp only [Bool.false_eq_true,if_false,MZ]
  rw [List.take_of_length_le (by omega)]
  have:=Uo rec n v hs.1 hr.2 v.list v.fields.length n 0 (by omega) hn
  rw [List.take_zero] at this
  exact this.trans (by rw [Vl.eta])
 | k+1,m+1,i,hi,hm=>by
  have a:i<v.list.length:=by omega
  rw [HE,AD,Ah a]
  simp only [if_true,AH a,Af,hr.1 _ (List.getElem_mem a)]
  rw [Ai (by rw [List.length_take];omega),Ai (AG (by omega))]
  have e:v.list.take i++[v.list[i]]=v.list.take (i+1):=by rw [List.take_succ_eq_append_getElem a]
  rw [e]
  exact Wc rec n v hs hn hr k m (i+1) (by omega) (by omega)
theorem Po:∀ (n:Nat) (v:Vl),v.size<n→v.wide=true→Dt n v=some v
 | 0,v,h,_=>absurd h (Nat.not_lt_zero _)
 | n+1,v,h,hs=>by
  have g:=Ou v
  obtain ⟨e,f,d,c⟩:=v.wide_iff.1 hs
  rw [Dt,N8]
  have:=Wc (Dt n) n v ⟨by omega,by omega⟩ (by omega) ⟨fun x a=>Po n x (by have:=v.list_size x a;omega) (d x a),fun p b=>Po n p.2 (by have:=v.field_size p b;omega) (c p b)⟩ v.list.length n 0 (by omega) (by omega)
  rw [List.take_zero] at this
  exact this
theorem QJ (n:Nat) (v:Vl) (h:v.size<n) (hs:v.size≤1000000000):Dt n v=some v:=Po n v h (G1 _ v (Nat.le_refl _) (by omega))
abbrev TF:=Int × ByteArray × Int × Ty × List Vl
theorem ZaD (rec:Ty→Option Ty) (n:Nat) (p:TF) (y:Ty) (hs:p.2.2.2.2.length≤1000000000) (hr:∀ v∈p.2.2.2.2,Dt n v=some v):∀ (k m i:Nat),i+k=p.2.2.2.2.length→k<m→CX rec n p y m (p.2.2.2.2.take i) i=some (p.1,p.2.1,p.2.2.1,y,p.2.2.2.2)
 | k,0,i,_,h=>absurd h (Nat.not_lt_zero _)
 | 0,m+1,i,hi,_=>by
  rw [CX,AD,Ac]
  simp only [Bool.false_eq_true,if_false,Hm]
  rw [List.take_of_length_le (by omega)]
 | k+1,m+1,i,hi,hm=>by
  have a:i<p.2.2.2.2.length:=by omega
  rw [CX,AD,Ah a]
  simp only [if_true,AH a,Af,hr _ (List.getElem_mem a)]
  rw [Ai (by rw [List.length_take];omega),Ai (AG (by omega))]
  have e:p.2.2.2.2.take i++[p.2.2.2.2[i]]=p.2.2.2.2.take (i+1):=by rw [List.take_succ_eq_append_getElem a]
  rw [e]
  exact ZaD rec n p y hs hr k m (i+1) (by omega) (by omega)
theorem Zck (rec:Ty→Option Ty) (n:Nat) (p:TF) (hs:p.2.2.2.2.length≤1000000000) (hn:p.2.2.2.2.length<n) (hr:∀ v∈p.2.2.2.2,Dt n v=some v) (ht:rec p.2.2.2.1=some p.2.2.2.1):C9 rec n p=some p:=by
 rw [C9,ht]
 simp only [Af]
 rw [Ab]
 have:=ZaD rec n p p.2.2.2.1 hs hr p.2.2.2.2.length n 0 (by omega) hn
 rw [List.take_zero] at this
 exact this
theorem SG (rec:Ty→Option Ty) (n:Nat) (t:Ty) (hw:t.words.length≤1000000000) (hs:t.fields.length≤1000000000) (hr:∀ p∈t.fields,C9 rec n p=some p) (e:List Ty):∀ (k m i:Nat),i+k=t.fields.length→k<m→Gf rec n t m e (t.fields.take i) i=some (Ty.mk t.kind t.min t.max t.scale t.words e t.fields)
 | k,0,i,_,h=>absurd h (Nat.not_lt_zero _)
 | 0,m+1,i,hi,_=>by
  rw [Gf,AD,Ac]
  simp only [Bool.false_eq_true,if_false,Lp]
  rw [List.take_of_length_le (by omega),Ab]
 | k+1,m+1,i,hi,hm=>by
  have a:i<t.fields.length:=by omega
  rw [Gf,AD,Ah a]
  simp only [if_true,AH a,Af,hr _ (List.getElem_mem a)]
  rw [Ai (by rw [List.length_take];omega),Ai (AG (by omega))]
  have b:t.fields.take i++[t.fields[i]]=t.fields.take (i+1):=by rw [List.take_succ_eq_append_getElem a]
  rw [b]
  exact SG rec n t hw hs hr e k m (i+1) (by omega) (by omega)
theorem VI (rec:Ty→Option Ty) (n:Nat) (t:Ty) (hw:t.words.length≤1000000000) (hs:t.fields.length≤1000000000∧t.elem.length≤1000000000) (hn:t.fields.length<n) (hr:(∀ x∈t.elem,rec x=some x)∧∀ p∈t.fields,C9 rec n p=some p):∀ (k m i:Nat),i+k=t.elem.length→k<m→HB rec n t m (t.elem.take i) i=some t
 | k,0,i,_,h=>absurd h (Nat.not_lt_zero _)
 | 0,m+1,i,hi,_=>by
  rw [HB,AD,Ac]
  simp only [Bool.false_eq_true,if_false,MP]
  rw [List.take_of_length_le (by omega),Ab]
  have:=SG rec n t hw hs.1 hr.2 t.elem t.fields.length n 0 (by omega) hn
  rw [List.take_zero] at this
  exact this.trans (by rw [Ty.eta])
 | k+1,m+1,i,hi,hm=>by
  have a:i<t.elem.length:=by omega
  rw [HB,AD,Ah a]
  simp only [if_true,AH a,Af,hr.1 _ (List.getElem_mem a)]
  rw [Ai (by rw [List.length_take];omega),Ai (AG (by omega))]
  have e:t.elem.take i++[t.elem[i]]=t.elem.take (i+1):=by rw [List.take_succ_eq_append_getElem a]
  rw [e]
  exact VI rec n t hw hs hn hr k m (i+1) (by omega) (by omega)
theorem Qz:∀ (n:Nat) (t:Ty),t.size+1400000<n→t.size≤1000000000→t.ok→GR n t=some t
 | 0,t,h,_,_=>absurd h (Nat.not_lt_zero _)
 | n+1,t,h,hs,hok=>by
  have f:=t.lens
  obtain ⟨g,i,d,e⟩:=t.ok_eq.1 hok
  rw [GR,Ob,Ab]
  have:=VI (GR n) n t (by omega) ⟨by omega,by omega⟩ (by omega) ⟨fun x a=>Qz n x (by have:=t.elem_size x a;omega) (by have:=t.elem_size x a;omega) (d x a),fun p b=>by
   obtain ⟨_,q2,q3,c⟩:=e p b
   have:=t.field_size p b
   exact Zck _ n p (by omega) (by omega) (fun v hv=>QJ n v (by have:=(c v hv).1;omega) (by have:=(c v hv).1;omega)) (Qz n _ (by omega) (by omega) q2)⟩ t.elem.length n 0 (by omega) (by omega)
  rw [List.take_zero] at this
  exact this
def Ty.small (t:Ty):Prop:=t.size≤600∧t.depth≤12∧t.ok
def FY (rec:Vl→Int→Option Vl) (n:Nat) (h:Vl) (g:List Vl) (b:List (ByteArray × Vl)):Option Vl :=
 some (Vl.mk h.kind h.int h.scale (h.text.extract 0 ((if 40<(h.text.size:Int) then 40 else (h.text.size:Int))).toNat) g b)
def Dl (rec:Vl→Int→Option Vl) (n:Nat) (z:Vl) (y:Int):Nat→(List Vl)→(List (ByteArray × Vl))→Int→Option Vl
 | 0,_,_,_=>none
 | m+1,q,g,b =>
  if ((decide (b<(z.fields.length:Int)))&&(decide (b<6)))&&(decide (1<y)) then
   (Cb z.fields b).bind fun h =>
   if 0≤0∧0≤(if 40<(h.1.size:Int) then 40 else (h.1.size:Int))∧(if 40<(h.1.size:Int) then 40 else (h.1.size:Int))≤(h.1.size:Int) then
    if A6 (y-1) then
     (rec h.2 (y-1)).bind fun y35 =>
     if (g.length+1)*104≤140737488355328∧g.length+1≤4611686018427387904 then
      if A6 (b+1) then
       (Dl rec n z y m) q (g++([(h.1.extract 0 ((if 40<(h.1.size:Int) then 40 else (h.1.size:Int))).toNat,y35)])) (b+1)
      else none
     else none
    else none
   else none
  else
   FY rec n z q g
def GU (rec:Vl→Int→Option Vl) (n:Nat) (g:Vl) (h:Int) (b:List Vl):Option Vl :=
 Dl rec n g h n b ([]) 0
def Dq (rec:Vl→Int→Option Vl) (n:Nat) (q:Vl) (h:Int):Nat→(List Vl)→Int→Option Vl
 | 0,_,_=>none
 | m+1,g,b =>
  if ((decide (b<(q.list.length:Int)))&&(decide (b<6)))&&(decide (1<h)) then
   (Cb q.list b).bind fun z =>
   if A6 (h-1) then
    (rec z (h-1)).bind fun y =>
    if (g.length+1)*88≤140737488355328∧g.length+1≤4611686018427387904 then
     if A6 (b+1) then
      (Dq rec n q h m) (g++([y])) (b+1)
     else none
    else none
   else none
  else
   GU rec n q h g
def Fh (rec:Vl→Int→Option Vl) (n:Nat) (b:Vl) (g:Int):Option Vl :=
 if 0≤0∧0≤(if 40<(b.text.size:Int) then 40 else (b.text.size:Int))∧(if 40<(b.text.size:Int) then 40 else (b.text.size:Int))≤(b.text.size:Int) then
  Dq rec n b g n ([]) 0
 else none
def Bh:Nat→Vl→Int→Option Vl
 | 0,_,_=>none
 | n+1,b,g=>Fh (Bh n) n b g
def JL (w0:World) (F:Vl→Int→Option Vl):Prop:=∀ (B:Ao) (Rw:Av) (L:As) (b:Vl) (g:Int) (r:Vl),F b g=some r→ACalls Tryz.prog w0 149 [.agg (b.cs),Am g] ⟨B,Rw,L⟩ fun x st=>x = .agg (r.cs)∧st=⟨B,Rw,L⟩
theorem OY (w0:World) (rec:Vl→Int→Option Vl) (ih:JL w0 rec) (n:Nat):JL w0 (Fh rec n):=by
 intro B Rw L a0 a1 r h
 rw [Fh] at h
 refine hd [.cell 4 34] Tryz.func149 Tryz.ntmps149 fun M0 W0 z y x o K w hs=>?_
 simp only [AA]
 refine rg [1,2,4] hs ?_
 obtain ⟨G,h⟩:=Au h
 have hs:=Ae (Vl.cs_eqs a0) hs
 refine rg [1,2,4] hs ?_
 refine rg [1,2,4,5] hs ?_
 refine rg [1,2,4,5,6] hs ?_
 refine AB (fun e st=>∃ (l:List Vl) (k:Ev.Own),Ck e st B Rw L [(1,true,Am a1),(2,true,.box B.length 0),(4,true,.box (B.length+1) 0),(5,true,.list (l.map Di) k),(6,true,.list ([]) .full)] [[Am a0.kind,Am a0.int,Am a0.scale,.val (.string (a0.text.extract 0 ((if 40<(a0.text.size:Int) then 40 else (a0.text.size:Int))).toNat)),.list (a0.list.map Di) .none,.list (a0.fields.map RO) .none],Ln] [(6,l.length,k)] (GU rec n a0 a1 l=some r)) ?_ ?_
 ·intro K8 F
  refine rg [1,2,4,5,6,7] hs ?_
  apply Aq
  refine AC (fun m e st=>∃ (g:List Vl) (v:Int) (p:Ev.Own),Ck e st B Rw L [(1,true,Am a1),(2,true,.box B.length 0),(4,true,.box (B.length+1) 0),(5,true,.list (g.map Di) p),(6,true,.list ([]) .full),(7,true,Am v)] [[Am a0.kind,Am a0.int,Am a0.scale,.val (.string (a0.text.extract 0 ((if 40<(a0.text.size:Int) then 40 else (a0.text.size:Int))).toNat)),.list (a0.list.map Di) .none,.list (a0.fields.map RO) .none],Ln] [(6,g.length,p)] (Dq rec n a0 a1 m g v=some r)) n ⟨([]),0,.full,([]),Rw,ef hs,ef hs,Owns.of_eq ((w).full 6 0) D6,h⟩ ?_
  rintro ml10 e st ⟨g,v,p,Xl10,Rl10,rfl,rfl,w,h⟩ Ul10 Vl10
  cases ml10 with
  | zero=>cases h
  | succ ml10 =>
  rw [Dq] at h
  exact go (tg (a:=([1,2,4,5,6,7,29],([1,2,4,5,6,7],[1,2,4,5,6,7],[1,2,4,5,6,7],()),[1,2,4,5,6],()))) h hs z y x o w (q2 (ae LM Ha) ih) (q2 F (fun e s=>Vl10 ml10 e s (Nat.lt_succ_self _)))
 ·clear h;rintro e st ⟨l,k,Xk7,Rk7,rfl,rfl,w,h⟩
  rw [GU] at h
  have E:=w.unders
  simp only [List.mem_cons,List.not_mem_nil,or_false,forall_eq_or_imp,forall_eq] at E
  refine td z y x o w ?_
  refine AB (fun e st=>∃ (j:List Vl) (i:List (ByteArray × Vl)) (q:Ev.Own) (t:Ev.Own),Ck e st B Rw L [(2,true,.box B.length 0),(4,true,.box (B.length+1) 0),(5,true,.list (j.map Di) q),(6,true,.list (i.map RO) t)] [[Am a0.kind,Am a0.int,Am a0.scale,.val (.string (a0.text.extract 0 ((if 40<(a0.text.size:Int) then 40 else (a0.text.size:Int))).toNat)),.list (a0.list.map Di) .none,.list (a0.fields.map RO) .none],Ln] [(6,j.length,q),(7,i.length,t)] (FY rec n a0 j i=some r)) ?_ ?_
  ·intro K25 C
   refine rg [1,2,4,5,6,8] hs ?_
   apply Aq
   refine AC (fun m e st=>∃ (c:List Vl) (b:List (ByteArray × Vl)) (u:Int) (f:Ev.Own) (d:Ev.Own),Ck e st B Rw L [(1,true,Am a1),(2,true,.box B.length 0),(4,true,.box (B.length+1) 0),(5,true,.list (c.map Di) f),(6,true,.list (b.map RO) d),(8,true,Am u)] [[Am a0.kind,Am a0.int,Am a0.scale,.val (.string (a0.text.extract 0 ((if 40<(a0.text.size:Int) then 40 else (a0.text.size:Int))).toNat)),.list (a0.list.map Di) .none,.list (a0.fields.map RO) .none],Ln] [(6,c.length,f),(7,b.length,d)] (Dl rec n a0 a1 m c b u=some r)) n ⟨l,([]),0,k,.full,([]),Rk7,ef hs,ef hs,Owns.of_eq (((w).full 7 0).swap (List.Perm.swap _ _ _)) D6,h⟩ ?_
   rintro ml27 e st ⟨c,b,u,f,d,Xl27,Rl27,rfl,rfl,w,h⟩ Ul27 Vl27
   cases ml27 with
   | zero=>cases h
   | succ ml27 =>
   rw [Dl] at h
   have E:=w.unders
   simp only [List.mem_cons,List.not_mem_nil,or_false,forall_eq_or_imp,forall_eq] at E
   obtain ⟨J,H⟩:=E
   refine td z y x o w ?_
   apply An;intro K28 D
   refine rg [1,2,4,5,6,8,55] hs ?_
   refine BQ h hs ?_ ?_<;>intro hs h
   rotate_left
   ·refine sx [2,4,5,6] hs C ?_
    exact ⟨c,b,f,d,([]),Rl27,ef hs,ef hs,Owns.of_eq (((w).swap (List.Perm.swap _ _ _)).swap (List.Perm.swap _ _ _)) D6,h⟩
   exact go (tg (a:=([1,2,4,5,6,8],[27,1,2,4,5,6,8],[1,2,4,5,6,8],()))) h hs z y x o w (q2 (ae Zdm Yf) ih) (q2 D (fun e s=>Vl27 ml27 e s (Nat.lt_succ_self _)))
  ·clear h;rintro e st ⟨j,i,q,t,Xk24,Rk24,rfl,rfl,w,h⟩
   rw [FY] at h
   exact go (tg (a:=([2,4],[4],()))) h hs z y x o w trivial trivial
theorem IG (w0:World):∀ n:Nat,JL w0 (Bh n)
 | 0=>fun _ _ _ _ _ _ h=>(nomatch h)
 | n+1=>OY w0 (Bh n) (IG w0 n) n
def FU (rec:Ex→Int→Option Ex) (n:Nat) (h:Ex) (b:List Vl) (g:List Ex):Option Ex :=
 some (Ex.mk h.op h.int (h.text.extract 0 ((if 60<(h.text.size:Int) then 60 else (h.text.size:Int))).toNat) b g)
def Dm (rec:Ex→Int→Option Ex) (n:Nat) (y:Ex) (q:Int):Nat→(List Vl)→(List Ex)→Int→Option Ex
 | 0,_,_,_=>none
 | m+1,h,g,b =>
  if ((decide (b<(y.args.length:Int)))&&(decide (b<4)))&&(decide (1<q)) then
   (Cb y.args b).bind fun z =>
   if A6 (q-1) then
    (rec z (q-1)).bind fun y33 =>
    if (g.length+1)*80≤140737488355328∧g.length+1≤4611686018427387904 then
     if A6 (b+1) then
      (Dm rec n y q m) h (g++([y33])) (b+1)
     else none
    else none
   else none
  else
   FU rec n y h g
def G0 (rec:Ex→Int→Option Ex) (n:Nat) (g:Ex) (h:Int) (b:List Vl):Option Ex :=
 Dm rec n g h n b ([]) 0
def DN (rec:Ex→Int→Option Ex) (n:Nat) (h:Ex) (z:Int):Nat→(List Vl)→Int→Option Ex
 | 0,_,_=>none
 | m+1,g,b =>
  if (decide (b<(h.value.length:Int)))&&(decide (b<2)) then
   (Cb h.value b).bind fun q =>
   (Bh n q 2).bind fun y =>
   if (g.length+1)*88≤140737488355328∧g.length+1≤4611686018427387904 then
    if A6 (b+1) then
     (DN rec n h z m) (g++([y])) (b+1)
    else none
   else none
  else
   G0 rec n h z g
def Fp (rec:Ex→Int→Option Ex) (n:Nat) (b:Ex) (g:Int):Option Ex :=
 if 0≤0∧0≤(if 60<(b.text.size:Int) then 60 else (b.text.size:Int))∧(if 60<(b.text.size:Int) then 60 else (b.text.size:Int))≤(b.text.size:Int) then
  DN rec n b g n ([]) 0
 else none
def BI:Nat→Ex→Int→Option Ex
 | 0,_,_=>none
 | n+1,b,g=>Fp (BI n) n b g
def JG (w0:World) (F:Ex→Int→Option Ex):Prop:=∀ (B:Ao) (Rw:Av) (L:As) (b:Ex) (g:Int) (r:Ex),F b g=some r→ACalls Tryz.prog w0 61 [.agg (b.cs),Am g] ⟨B,Rw,L⟩ fun x st=>x = .agg (r.cs)∧st=⟨B,Rw,L⟩
theorem OV (w0:World) (rec:Ex→Int→Option Ex) (ih:JG w0 rec) (n:Nat):JG w0 (Fp rec n):=by
 intro B Rw L a0 a1 r h
 rw [Fp] at h
 refine hd [.cell 4 65] Tryz.func61 Tryz.ntmps61 fun M0 W0 z y x k K w hs=>?_
 simp only [AA]
 refine rg [1,2,4] hs ?_
 obtain ⟨G,h⟩:=Au h
 have hs:=Ae (Ex.cs_eqs a0) hs
 refine rg [1,2,4] hs ?_
 refine rg [1,2,4,5] hs ?_
 refine AB (fun e st=>∃ (o:List Vl) (g:Ev.Own),Ck e st B Rw L [(1,true,Am a1),(2,true,.box B.length 0),(4,true,.box (B.length+1) 0),(5,true,.list (o.map Di) g)] [[Am a0.op,Am a0.int,.val (.string (a0.text.extract 0 ((if 60<(a0.text.size:Int) then 60 else (a0.text.size:Int))).toNat)),.list (a0.value.map Di) .none,.list (a0.args.map O5) .none],[Am 0,Am 0,.val (.string (⟨#[]⟩:ByteArray)),.list ([]) .full,.list ([]) .full]] [(6,o.length,g)] (G0 rec n a0 a1 o=some r)) ?_ ?_
 ·intro K7 F
  refine rg [1,2,4,5,6] hs ?_
  apply Aq
  refine AC (fun m e st=>∃ (q:List Vl) (v:Int) (t:Ev.Own),Ck e st B Rw L [(1,true,Am a1),(2,true,.box B.length 0),(4,true,.box (B.length+1) 0),(5,true,.list (q.map Di) t),(6,true,Am v)] [[Am a0.op,Am a0.int,.val (.string (a0.text.extract 0 ((if 60<(a0.text.size:Int) then 60 else (a0.text.size:Int))).toNat)),.list (a0.value.map Di) .none,.list (a0.args.map O5) .none],[Am 0,Am 0,.val (.string (⟨#[]⟩:ByteArray)),.list ([]) .full,.list ([]) .full]] [(6,q.length,t)] (DN rec n a0 a1 m q v=some r)) n ⟨([]),0,.full,([]),Rw,ef hs,ef hs,Owns.of_eq ((w).full 6 0) D6,h⟩ ?_
  rintro ml9 e st ⟨q,v,t,Xl9,Rl9,rfl,rfl,w,h⟩ Ul9 Vl9
  cases ml9 with
  | zero=>cases h
  | succ ml9 =>
  rw [DN] at h
  exact go (tg (a:=([1,2,4,5,6,25],([1,2,4,5,6],[1,2,4,5,6],[1,2,4,5,6],()),[1,2,4,5],()))) h hs z y x k w (q2 (ae LM Ha) (IG w0 n)) (q2 F (fun e s=>Vl9 ml9 e s (Nat.lt_succ_self _)))
 ·clear h;rintro e st ⟨o,g,Xk6,Rk6,rfl,rfl,w,h⟩
  rw [G0] at h
  have E:=w.unders
  simp only [List.mem_cons,List.not_mem_nil,or_false,forall_eq_or_imp,forall_eq] at E
  refine td z y x k w ?_
  refine rg [1,2,4,5,7] hs ?_
  refine AB (fun e st=>∃ (j:List Vl) (i:List Ex) (p:Ev.Own) (l:Ev.Own),Ck e st B Rw L [(2,true,.box B.length 0),(4,true,.box (B.length+1) 0),(5,true,.list (j.map Di) p),(7,true,.list (i.map O5) l)] [[Am a0.op,Am a0.int,.val (.string (a0.text.extract 0 ((if 60<(a0.text.size:Int) then 60 else (a0.text.size:Int))).toNat)),.list (a0.value.map Di) .none,.list (a0.args.map O5) .none],[Am 0,Am 0,.val (.string (⟨#[]⟩:ByteArray)),.list ([]) .full,.list ([]) .full]] [(6,j.length,p),(5,i.length,l)] (FU rec n a0 j i=some r)) ?_ ?_
  ·intro K24 C
   refine rg [1,2,4,5,7,8] hs ?_
   apply Aq
   refine AC (fun m e st=>∃ (d:List Vl) (b:List Ex) (u:Int) (f:Ev.Own) (c:Ev.Own),Ck e st B Rw L [(1,true,Am a1),(2,true,.box B.length 0),(4,true,.box (B.length+1) 0),(5,true,.list (d.map Di) f),(7,true,.list (b.map O5) c),(8,true,Am u)] [[Am a0.op,Am a0.int,.val (.string (a0.text.extract 0 ((if 60<(a0.text.size:Int) then 60 else (a0.text.size:Int))).toNat)),.list (a0.value.map Di) .none,.list (a0.args.map O5) .none],[Am 0,Am 0,.val (.string (⟨#[]⟩:ByteArray)),.list ([]) .full,.list ([]) .full]] [(6,d.length,f),(5,b.length,c)] (Dm rec n a0 a1 m d b u=some r)) n ⟨o,([]),0,g,.full,([]),Rk6,ef hs,ef hs,Owns.of_eq (((w).full 5 0).swap (List.Perm.swap _ _ _)) D6,h⟩ ?_
   rintro ml26 e st ⟨d,b,u,f,c,Xl26,Rl26,rfl,rfl,w,h⟩ Ul26 Vl26
   cases ml26 with
   | zero=>cases h
   | succ ml26 =>
   rw [Dm] at h
   have E:=w.unders
   simp only [List.mem_cons,List.not_mem_nil,or_false,forall_eq_or_imp,forall_eq] at E
   obtain ⟨J,H⟩:=E
   refine td z y x k w ?_
   apply An;intro K27 D
   refine rg [1,2,4,5,7,8,49] hs ?_
   refine BQ h hs ?_ ?_<;>intro hs h
   rotate_left
   ·refine sx [2,4,5,7] hs C ?_
    exact ⟨d,b,f,c,([]),Rl26,ef hs,ef hs,Owns.of_eq (((w).swap (List.Perm.swap _ _ _)).swap (List.Perm.swap _ _ _)) D6,h⟩
   exact go (tg (a:=([1,2,4,5,7,8],[1,2,4,5,7,8],[1,2,4,5,7,8],()))) h hs z y x k w (q2 (ae Zc T0) ih) (q2 D (fun e s=>Vl26 ml26 e s (Nat.lt_succ_self _)))
  ·clear h;rintro e st ⟨j,i,p,l,Xk23,Rk23,rfl,rfl,w,h⟩
   rw [FU] at h
   exact go (tg (a:=([2,4],[4],()))) h hs z y x k w trivial trivial
theorem L2 (w0:World):∀ n:Nat,JG w0 (BI n)
 | 0=>fun _ _ _ _ _ _ h=>(nomatch h)
 | n+1=>OV w0 (BI n) (L2 w0 n) n
def JY (n:Nat)  (b2_k4_0:List (ByteArray × Ex)):Option ((List (ByteArray × Ex))) :=
 some (b2_k4_0)
def GG (n:Nat) (h:List (ByteArray × Ex)):Nat→Int→(List (ByteArray × Ex))→Option ((List (ByteArray × Ex)))
 | 0,_,_=>none
 | m+1,b,b2_l7_0 =>
  if (decide (b<(h.length:Int)))&&(decide (b<8)) then
   (Cb h b).bind fun g =>
   if 0≤0∧0≤(if 60<(g.1.size:Int) then 60 else (g.1.size:Int))∧(if 60<(g.1.size:Int) then 60 else (g.1.size:Int))≤(g.1.size:Int) then
    (BI n g.2 4).bind fun q =>
    if (b2_l7_0.length+1)*96≤140737488355328∧b2_l7_0.length+1≤4611686018427387904 then
     if A6 (b+1) then
      (GG n h m) (b+1) (b2_l7_0++([(g.1.extract 0 ((if 60<(g.1.size:Int) then 60 else (g.1.size:Int))).toNat,q)]))
     else none
    else none
   else none
  else
   JY n b2_l7_0
def Le (n:Nat) (b:List (ByteArray × Ex)):Option ((List (ByteArray × Ex))) :=
 GG n b n 0 ([])
theorem PK (w0:World) (n:Nat) (B:Ao) (Rw:Av) (L:As) (a0:List (ByteArray × Ex)) (r:(List (ByteArray × Ex))) (h:Le n a0=some r) :
  ACalls Tryz.prog w0 19 [.agg ([.list (a0.map A5) .none])] ⟨B,Rw,L⟩ fun x st=>x = .agg ([.list (r.map A5) .none])∧st=⟨B,Rw,L⟩:=by
 rw [Le] at h
 refine hd [.cell 2 49] Tryz.func19 Tryz.ntmps19 fun M0 W0 p k j i q l hs=>?_
 simp only [AA]
 refine rg [1,2] hs ?_
 refine rg [1,2,3] hs ?_
 refine AB (fun e st=>∃ (c:List (ByteArray × Ex)) (d:Ev.Own),Ck e st B Rw L [(2,true,.box (B.length+1) 0),(3,true,.box (B.length+2) 0)] [[.list (a0.map A5) .none],[.list ([]) .full],[.list (c.map A5) d]] [(6,c.length,d)] (JY n c=some r)) ?_ ?_
 ·intro K5 o
  refine rg [1,2,3,4] hs ?_
  apply Aq
  refine AC (fun m e st=>∃ (g:Int) (b:List (ByteArray × Ex)) (f:Ev.Own),Ck e st B Rw L [(1,true,.box B.length 0),(2,true,.box (B.length+1) 0),(3,true,.box (B.length+2) 0),(4,true,Am g)] [[.list (a0.map A5) .none],[.list ([]) .full],[.list (b.map A5) f]] [(6,b.length,f)] (GG n a0 m g b=some r)) n ⟨0,([]),.full,([]),Rw,ef hs,ef hs,Owns.of_eq ((l).full 6 0) D6,h⟩ ?_
  rintro ml7 e st ⟨g,b,f,Xl7,Rl7,rfl,rfl,l,h⟩ Ul7 Vl7
  cases ml7 with
  | zero=>cases h
  | succ ml7 =>
  rw [GG] at h
  exact go (tg (a:=([1,2,3,4,13],([1,2,3,4],[26,1,2,3,4],[1,2,3,4],()),[2,3],()))) h hs p k j i l (q2 (ae ZB Tj) (L2 w0 n)) (q2 o (fun e s=>Vl7 ml7 e s (Nat.lt_succ_self _)))
 ·clear h;rintro e st ⟨c,d,Xk4,Rk4,rfl,rfl,l,h⟩
  rw [JY] at h
  exact go (tg (a:=([2],()))) h hs p k j i l trivial trivial
section
variable {P:Program} {w0:World} {n:Nat} {l:List Oper} {ef dn:List Nat} {F:St→Prop} {T:Env→St→Prop} {k:Nat} {ev:Env} {s:St}
theorem gm1 {i:Nat} (_:Tg i) (hr:ZE l ef dn=[i]) (hn:(ef.all fun i=>dn.contains i)=false) (hF:F s) (h:∃ o,l[i]? = some o∧o.guard=none∧JW n o.dst∧∃ Post:AV→St→Prop,Vn P w0 (BU true l o ev) s o Post∧∀ v s',Post v s'→Ev.Good P w0 n l ef F T k (i::dn) (J3 ev o.dst true v) s'):Ev.Good P w0 n l ef F T (k+1) dn ev s :=
 Ev.Good.mk [i] hr hF (fun q=>by rw [hn] at q;cases q) (fun j hj=>by obtain rfl:=List.mem_singleton.1 hj;exact h)
theorem gm0 {L:List Nat} {nb:Nat} {e2:Env} (_:Tg L) (hr:ZE l ef dn=[]) (hF:F s) (hT:ED L ev=e2):Ev.Good P w0 n l ef F (fun ev s'=>Conv w0 n nb ev s' e2 s) (k+1) dn ev s :=
 Ev.Good.mk [] hr hF (fun _=>QF L hT) (fun i hi=>by cases hi)
theorem stI {o:Oper} {v:AV} {s':St} (h:E7 P w0 ev s o v s'):E7 P w0 ev s o v s':=h
theorem kpI {L:List Nat} {e e':Env} (h:ED L e=e'):ED L e=e':=h
end
theorem gd {T F p:Prop} (tL:T) (hs:F) (k:T→F→p:=by
  intro tL hs
  repeat' first
    | ((with_reducible refine gm1 (tgh tL) kr rfl ?_ ?_)<;>replace tL:=tgt tL)
    | (with_reducible apply gm0 tL kr)
    | (apply Ec rfl rfl ev
       case' hs=>((simp +decide only [go_sem,Nat.reduceAdd,E7,hs]);(repeat' apply Ae)<;>first | rfl | exact cl)
       case' hk=>simp +decide only [go_sem,Nat.reduceAdd,hs])
    | ((with_reducible refine stI ?_);simp +decide only [go_sem,Nat.reduceAdd,E7,hs];(repeat' apply Ae)<;>first | rfl | exact cl)
    | ((with_reducible apply kpI);first | (simp +decide only [go_sem,Nat.reduceAdd,hs];done) | (simp +decide only [go_sem,Nat.reduceAdd,hs];rfl) | (simp +decide only [go_sem,Nat.reduceAdd,and_self,imp_self,hs];done) | (simp +decide only [go_sem,Nat.reduceAdd,and_self,imp_self,hs];rfl))
    | exact ⟨[],_,rfl⟩
    | exact ⟨[],_,_,rfl⟩
    | exact ⟨[],_,_,_,rfl⟩
    | exact ⟨_,_,rfl⟩
    | exact ⟨_,_,_,rfl⟩
    | exact ⟨[],_,by simp only [List.append_nil,List.nil_append]⟩
    | exact ⟨[],_,_,by simp only [List.append_nil,List.nil_append]⟩
    | exact ⟨_,_,by simp only [List.append_nil,List.nil_append]⟩):p:=k tL hs
def GQ (rec:Ty→Int→Option Ty) (n:Nat) (g:(List ByteArray)→(List Ty)→(List (Int × ByteArray × Int × Ty × List Vl))→Int→Option Ty) (b:Int) (h:List ByteArray) (q:List Ty) (y:List (Int × ByteArray × Int × Ty × List Vl)):Option Ty :=
 if A6 (b+1) then
  g h q y (b+1)
 else none
def GX (rec:Ty→Int→Option Ty) (n:Nat) (q:Ty) (h:List ByteArray) (g:List Ty) (b:List (Int × ByteArray × Int × Ty × List Vl)):Option Ty :=
 some (Ty.mk q.kind q.min q.max q.scale h g b)
def EV (rec:Ty→Int→Option Ty) (n:Nat) (h:(List ByteArray)→(List Ty)→(List (Int × ByteArray × Int × Ty × List Vl))→Int→Option Ty) (a1:Int) (q:Int) (b:Int × ByteArray × Int × Ty × List Vl) (z:List ByteArray) (x6_k53:List Ty) (g:List (Int × ByteArray × Int × Ty × List Vl)) (y:List Vl):Option Ty :=
 if 0≤0∧0≤(if 40<(b.2.1.size:Int) then 40 else (b.2.1.size:Int))∧(if 40<(b.2.1.size:Int) then 40 else (b.2.1.size:Int))≤(b.2.1.size:Int) then
  if A6 (a1-1) then
   (rec b.2.2.2.1 (a1-1)).bind fun y71 =>
   if (g.length+1)*160≤140737488355328∧g.length+1≤4611686018427387904 then
    GQ rec n h q z x6_k53 (g++([(b.1,b.2.1.extract 0 ((if 40<(b.2.1.size:Int) then 40 else (b.2.1.size:Int))).toNat,b.2.2.1,y71,y)]))
   else none
  else none
 else none
def CS (rec:Ty→Int→Option Ty) (n:Nat) (h:(List ByteArray)→(List Ty)→(List (Int × ByteArray × Int × Ty × List Vl))→Int→Option Ty) (a1:Int) (q:Int) (x50:Int × ByteArray × Int × Ty × List Vl):Nat→(List ByteArray)→(List Ty)→(List (Int × ByteArray × Int × Ty × List Vl))→(List Vl)→Int→Option Ty
 | 0,_,_,_,_,_=>none
 | m+1,y,x6_l56,z,g,b =>
  if (decide (b<(x50.2.2.2.2.length:Int)))&&(decide (b<2)) then
   (Cb x50.2.2.2.2 b).bind fun x61 =>
   (Bh n x61 3).bind fun y62 =>
   if (g.length+1)*88≤140737488355328∧g.length+1≤4611686018427387904 then
    if A6 (b+1) then
     (CS rec n h a1 q x50 m) y x6_l56 z (g++([y62])) (b+1)
    else none
   else none
  else
   EV rec n h a1 q x50 y x6_l56 z g
def Bl (rec:Ty→Int→Option Ty) (n:Nat) (y:Ty) (a1:Int):Nat→(List ByteArray)→(List Ty)→(List (Int × ByteArray × Int × Ty × List Vl))→Int→Option Ty
 | 0,_,_,_,_=>none
 | m+1,g,q,h,b =>
  if ((decide (b<(y.fields.length:Int)))&&(decide (b<6)))&&(decide (1<a1)) then
   (Cb y.fields b).bind fun z =>
   CS rec n (Bl rec n y a1 m) a1 b z n g q h ([]) 0
  else
   GX rec n y g q h
def GF (rec:Ty→Int→Option Ty) (n:Nat) (h:Ty) (q:Int) (g:List ByteArray) (b:List Ty):Option Ty :=
 Bl rec n h q n g b ([]) 0
def DI (rec:Ty→Int→Option Ty) (n:Nat) (y:Ty) (q:Int):Nat→(List ByteArray)→(List Ty)→Int→Option Ty
 | 0,_,_,_=>none
 | m+1,h,g,b =>
  if ((decide (b<(y.elem.length:Int)))&&(decide (b<2)))&&(decide (1<q)) then
   (Cb y.elem b).bind fun x30 =>
   if A6 (q-1) then
    (rec x30 (q-1)).bind fun z =>
    if (g.length+1)*104≤140737488355328∧g.length+1≤4611686018427387904 then
     if A6 (b+1) then
      (DI rec n y q m) h (g++([z])) (b+1)
     else none
    else none
   else none
  else
   GF rec n y q h g
def Hi (rec:Ty→Int→Option Ty) (n:Nat) (g:Ty) (h:Int) (b:List ByteArray):Option Ty :=
 DI rec n g h n b ([]) 0
def D9 (rec:Ty→Int→Option Ty) (n:Nat) (q:Ty) (y:Int):Nat→(List ByteArray)→Int→Option Ty
 | 0,_,_=>none
 | m+1,g,b =>
  if (decide (b<(q.words.length:Int)))&&(decide (b<6)) then
   (Cb q.words b).bind fun h =>
   if 0≤0∧0≤(if 40<(h.size:Int) then 40 else (h.size:Int))∧(if 40<(h.size:Int) then 40 else (h.size:Int))≤(h.size:Int) then
    if (g.length+1)*16≤140737488355328∧g.length+1≤4611686018427387904 then
     if A6 (b+1) then
      (D9 rec n q y m) (g++([h.extract 0 ((if 40<(h.size:Int) then 40 else (h.size:Int))).toNat])) (b+1)
     else none
    else none
   else none
  else
   Hi rec n q y g
def Gy (rec:Ty→Int→Option Ty) (n:Nat) (b:Ty) (g:Int):Option Ty :=
 D9 rec n b g n ([]) 0
def BR:Nat→Ty→Int→Option Ty
 | 0,_,_=>none
 | n+1,b,g=>Gy (BR n) n b g
def KA (w0:World) (F:Ty→Int→Option Ty):Prop:=∀ (B:Ao) (Rw:Av) (L:As) (b:Ty) (g:Int) (r:Ty),F b g=some r→ACalls Tryz.prog w0 62 [.agg (b.cs),Am g] ⟨B,Rw,L⟩ fun x st=>x = .agg (r.cs)∧st=⟨B,Rw,L⟩
theorem PX (w0:World) (rec:Ty→Int→Option Ty) (ih:KA w0 rec) (n:Nat):KA w0 (Gy rec n):=by
 intro B Rw L a0 a1 r h
 rw [Gy] at h
 refine hd [.cell 4 26] Tryz.func62 Tryz.ntmps62 fun M0 W0 hN a4 a3 j hu i hs=>?_
 simp only [AA]
 refine rg [1,2,4] hs ?_
 refine rg [1,2,4,5] hs ?_
 refine rg [1,2,4,5,6] hs ?_
 refine rg [1,2,4,5,6,7] hs ?_
 refine AB (fun e st=>∃ (a2:List ByteArray) (ar:Ev.Own),Ck e st B Rw L [(1,true,Am a1),(2,true,.box B.length 0),(4,true,.box (B.length+1) 0),(5,true,.list (a2.map CB) ar),(6,true,.list ([]) .full),(7,true,.list ([]) .full)] [a0.cs,[Am 0,Am 0,Am 0,Am 0,.list ([]) .full,.list ([]) .full,.list ([]) .full]] [(1,a2.length,ar)] (Hi rec n a0 a1 a2=some r)) ?_ ?_
 ·intro K7 b3
  refine rg [1,2,4,5,6,7,8] hs ?_
  apply Aq
  refine AC (fun m e st=>∃ (a8:List ByteArray) (a9:Int) (a6:Ev.Own),Ck e st B Rw L [(1,true,Am a1),(2,true,.box B.length 0),(4,true,.box (B.length+1) 0),(5,true,.list (a8.map CB) a6),(6,true,.list ([]) .full),(7,true,.list ([]) .full),(8,true,Am a9)] [a0.cs,[Am 0,Am 0,Am 0,Am 0,.list ([]) .full,.list ([]) .full,.list ([]) .full]] [(1,a8.length,a6)] (D9 rec n a0 a1 m a8 a9=some r)) n ⟨([]),0,.full,([]),Rw,ef hs,ef hs,Owns.of_eq ((i).full 1 0) D6,h⟩ ?_
  rintro ml9 e st ⟨a8,a9,a6,Xl9,Rl9,rfl,rfl,i,h⟩ Ul9 Vl9
  cases ml9 with
  | zero=>cases h
  | succ ml9 =>
  rw [D9] at h
  exact go (tg (a:=([1,2,4,5,6,7,8,22],([1,2,4,5,6,7,8],[15,1,2,4,5,6,7,8],[1,2,4,5,6,7,8],()),[1,2,4,5,6,7],()))) h hs hN a4 a3 j i (q1 (ae OL Me)) (q2 b3 (fun e s=>Vl9 ml9 e s (Nat.lt_succ_self _)))
 ·clear h;rintro e st ⟨a2,ar,Xk6,Rk6,rfl,rfl,i,h⟩
  rw [Hi] at h
  have hU:=i.unders
  simp only [List.mem_cons,List.not_mem_nil,or_false,forall_eq_or_imp,forall_eq] at hU
  refine td hN a4 a3 j i ?_
  refine AB (fun e st=>∃ (am:List ByteArray) (ad:List Ty) (U:Ev.Own) (ai:Ev.Own),Ck e st B Rw L [(1,true,Am a1),(2,true,.box B.length 0),(4,true,.box (B.length+1) 0),(5,true,.list (am.map CB) U),(6,true,.list (ad.map J1) ai),(7,true,.list ([]) .full)] [a0.cs,[Am 0,Am 0,Am 0,Am 0,.list ([]) .full,.list ([]) .full,.list ([]) .full]] [(1,am.length,U),(7,ad.length,ai)] (GF rec n a0 a1 am ad=some r)) ?_ ?_
  ·intro K23 bq
   refine rg [1,2,4,5,6,7,9] hs ?_
   apply Aq
   refine AC (fun m e st=>∃ (ag:List ByteArray) (af:List Ty) (a7:Int) (ak:Ev.Own) (ab:Ev.Own),Ck e st B Rw L [(1,true,Am a1),(2,true,.box B.length 0),(4,true,.box (B.length+1) 0),(5,true,.list (ag.map CB) ak),(6,true,.list (af.map J1) ab),(7,true,.list ([]) .full),(9,true,Am a7)] [a0.cs,[Am 0,Am 0,Am 0,Am 0,.list ([]) .full,.list ([]) .full,.list ([]) .full]] [(1,ag.length,ak),(7,af.length,ab)] (DI rec n a0 a1 m ag af a7=some r)) n ⟨a2,([]),0,ar,.full,([]),Rk6,ef hs,ef hs,Owns.of_eq (((i).full 7 0).swap (List.Perm.swap _ _ _)) D6,h⟩ ?_
   rintro ml25 e st ⟨ag,af,a7,ak,ab,Xl25,Rl25,rfl,rfl,i,h⟩ Ul25 Vl25
   cases ml25 with
   | zero=>cases h
   | succ ml25 =>
   rw [DI] at h
   have hU:=i.unders
   simp only [List.mem_cons,List.not_mem_nil,or_false,forall_eq_or_imp,forall_eq] at hU
   obtain ⟨bb,ba⟩:=hU
   refine td hN a4 a3 j i ?_
   apply An;intro K26 bo
   refine rg [1,2,4,5,6,7,9,53] hs ?_
   refine BQ h hs ?_ ?_<;>intro hs h
   rotate_left
   ·refine sx [1,2,4,5,6,7] hs bq ?_
    exact ⟨ag,af,ak,ab,([]),Rl25,ef hs,ef hs,Owns.of_eq (((i).swap (List.Perm.swap _ _ _)).swap (List.Perm.swap _ _ _)) D6,h⟩
   exact go (tg (a:=([1,2,4,5,6,7,9],[1,2,4,5,6,7,9],[1,2,4,5,6,7,9],()))) h hs hN a4 a3 j i (q2 (ae ZW TC) ih) (q2 bo (fun e s=>Vl25 ml25 e s (Nat.lt_succ_self _)))
  ·clear h;rintro e st ⟨am,ad,U,ai,Xk22,Rk22,rfl,rfl,i,h⟩
   rw [GF] at h
   have hU:=i.unders
   simp only [List.mem_cons,List.not_mem_nil,or_false,forall_eq_or_imp,forall_eq] at hU
   obtain ⟨bb,ba⟩:=hU
   refine td hN a4 a3 j i ?_
   refine AB (fun e st=>∃ (av:List ByteArray) (au:List Ty) (aq:List (Int × ByteArray × Int × Ty × List Vl)) (az:Ev.Own) (ay:Ev.Own) (ax:Ev.Own),Ck e st B Rw L [(2,true,.box B.length 0),(4,true,.box (B.length+1) 0),(5,true,.list (av.map CB) az),(6,true,.list (au.map J1) ay),(7,true,.list (aq.map Cd) ax)] [a0.cs,[Am 0,Am 0,Am 0,Am 0,.list ([]) .full,.list ([]) .full,.list ([]) .full]] [(1,av.length,az),(7,au.length,ay),(11,aq.length,ax)] (GX rec n a0 av au aq=some r)) ?_ ?_
   ·intro K40 bt
    refine rg [1,2,4,5,6,7,10] hs ?_
    apply Aq
    refine AC (fun m e st=>∃ (E:List ByteArray) (D:List Ty) (F:List (Int × ByteArray × Int × Ty × List Vl)) (c:Int) (v:Ev.Own) (x:Ev.Own) (t:Ev.Own),Ck e st B Rw L [(1,true,Am a1),(2,true,.box B.length 0),(4,true,.box (B.length+1) 0),(5,true,.list (E.map CB) v),(6,true,.list (D.map J1) x),(7,true,.list (F.map Cd) t),(10,true,Am c)] [a0.cs,[Am 0,Am 0,Am 0,Am 0,.list ([]) .full,.list ([]) .full,.list ([]) .full]] [(1,E.length,v),(7,D.length,x),(11,F.length,t)] (Bl rec n a0 a1 m E D F c=some r)) n ⟨am,ad,([]),0,U,ai,.full,([]),Rk22,ef hs,ef hs,Owns.of_eq ((((i).full 11 0).swap ((List.Perm.cons _ (List.Perm.swap _ _ _)).trans (List.Perm.swap _ _ _))).swap ((List.Perm.cons _ (List.Perm.swap _ _ _)).trans (List.Perm.swap _ _ _))) D6,h⟩ ?_
    rintro ml42 e st ⟨E,D,F,c,v,x,t,Xl42,Rl42,rfl,rfl,i,h⟩ Ul42 Vl42
    cases ml42 with
    | zero=>cases h
    | succ ml42 =>
    rw [Bl] at h
    have hU:=i.unders
    simp only [List.mem_cons,List.not_mem_nil,or_false,forall_eq_or_imp,forall_eq] at hU
    obtain ⟨bb,ba,bl⟩:=hU
    refine td hN a4 a3 j i ?_
    apply An;intro K43 bi
    refine rg [1,2,4,5,6,7,10,79] hs ?_
    refine BQ h hs ?_ ?_<;>intro hs h
    rotate_left
    ·have a5:=hs.1
     refine sx [2,4,5,6,7] hs bt ?_
     exact ⟨E,D,F,v,x,t,([]),Rl42,ef hs,ef hs,Owns.of_eq ((((i).swap ((List.Perm.cons _ (List.Perm.swap _ _ _)).trans (List.Perm.swap _ _ _))).swap ((List.Perm.cons _ (List.Perm.swap _ _ _)).trans (List.Perm.swap _ _ _))).swap ((List.Perm.cons _ (List.Perm.swap _ _ _)).trans (List.Perm.swap _ _ _))) D6,h⟩
    have a5:=hs.1
    refine sk [1,2,4,5,6,7,10] hs bi ?_
    clear bi
    refine AB (fun e st=>∃ (ah:List ByteArray) (aj:List Ty) (Z:List (Int × ByteArray × Int × Ty × List Vl)) (Q:Ev.Own) (V:Ev.Own) (aa:Ev.Own),Ck e st B Rw L [(1,true,Am a1),(2,true,.box B.length 0),(4,true,.box (B.length+1) 0),(5,true,.list (ah.map CB) Q),(6,true,.list (aj.map J1) V),(7,true,.list (Z.map Cd) aa),(10,true,Am c)] [a0.cs,[Am 0,Am 0,Am 0,Am 0,.list ([]) .full,.list ([]) .full,.list ([]) .full]] [(1,ah.length,Q),(7,aj.length,V),(11,Z.length,aa)] (GQ rec n (Bl rec n a0 a1 ml42) c ah aj Z=some r)) ?_ ?_
    ·intro K48 bu
     apply Aq
     obtain ⟨b,bv,h⟩:=bind_some h
     obtain ⟨bw,b4,bm⟩:=Bi bv
     have O:=Bj (f:=Cd) bm
     have hs:=Ae O hs
     refine rg [1,2,4,5,6,7,10,11] hs ?_
     refine rg [1,2,4,5,6,7,10,11,12] hs ?_
     refine AB (fun e st=>∃ (N:List ByteArray) (K:List Ty) (l:List (Int × ByteArray × Int × Ty × List Vl)) (d:List Vl) (u:Ev.Own) (z:Ev.Own) (aw:Ev.Own) (k:Ev.Own),Ck e st B Rw L [(1,true,Am a1),(2,true,.box B.length 0),(4,true,.box (B.length+1) 0),(5,true,.list (N.map CB) u),(6,true,.list (K.map J1) z),(7,true,.list (l.map Cd) aw),(10,true,Am c),(11,true,.box (B.length+2) 0),(12,true,.list (d.map Di) k)] [a0.cs,[Am 0,Am 0,Am 0,Am 0,.list ([]) .full,.list ([]) .full,.list ([]) .full],Am b.1::(.val (.string b.2.1)::(Am b.2.2.1::((b.2.2.2.1.cs)++([.list (b.2.2.2.2.map Di) .none]))))] [(1,N.length,u),(7,K.length,z),(11,l.length,aw),(6,d.length,k)] (EV rec n (Bl rec n a0 a1 ml42) a1 c b N K l d=some r)) ?_ ?_
     ·intro K54 bs
      refine rg [1,2,4,5,6,7,10,11,12,13] hs ?_
      apply Aq
      refine AC (fun m e st=>∃ (H:List ByteArray) (J:List Ty) (C:List (Int × ByteArray × Int × Ty × List Vl)) (g:List Vl) (Y:Int) (p:Ev.Own) (o:Ev.Own) (w:Ev.Own) (G:Ev.Own),Ck e st B Rw L [(1,true,Am a1),(2,true,.box B.length 0),(4,true,.box (B.length+1) 0),(5,true,.list (H.map CB) p),(6,true,.list (J.map J1) o),(7,true,.list (C.map Cd) w),(10,true,Am c),(11,true,.box (B.length+2) 0),(12,true,.list (g.map Di) G),(13,true,Am Y)] [a0.cs,[Am 0,Am 0,Am 0,Am 0,.list ([]) .full,.list ([]) .full,.list ([]) .full],Am b.1::(.val (.string b.2.1)::(Am b.2.2.1::((b.2.2.2.1.cs)++([.list (b.2.2.2.2.map Di) .none]))))] [(1,H.length,p),(7,J.length,o),(11,C.length,w),(6,g.length,G)] (CS rec n (Bl rec n a0 a1 ml42) a1 c b m H J C g Y=some r)) n ⟨E,D,F,([]),0,v,x,t,.full,([]),Rl42,ef hs,ef hs,Owns.of_eq (((((i).full 6 0).swap ((List.Perm.cons _ ((List.Perm.cons _ (List.Perm.swap _ _ _)).trans (List.Perm.swap _ _ _))).trans (List.Perm.swap _ _ _))).swap ((List.Perm.cons _ ((List.Perm.cons _ (List.Perm.swap _ _ _)).trans (List.Perm.swap _ _ _))).trans (List.Perm.swap _ _ _))).swap ((List.Perm.cons _ ((List.Perm.cons _ (List.Perm.swap _ _ _)).trans (List.Perm.swap _ _ _))).trans (List.Perm.swap _ _ _))) D6,h⟩ ?_
      rintro ml56 e st ⟨H,J,C,g,Y,p,o,w,G,Xl56,Rl56,rfl,rfl,i,h⟩ Ul56 Vl56
      cases ml56 with
      | zero=>cases h
      | succ ml56 =>
      rw [CS] at h
      have hU:=i.unders
      simp only [List.mem_cons,List.not_mem_nil,or_false,forall_eq_or_imp,forall_eq] at hU
      obtain ⟨bb,ba,bl,b2⟩:=hU
      refine td hN a4 a3 j i ?_
      apply An;intro K57 bf
      refine rg [1,2,4,5,6,7,10,11,12,13,95] hs ?_
      refine BQ h hs ?_ ?_<;>intro hs h
      rotate_left
      ·refine sx [1,2,4,5,6,7,10,11,12] hs bs ?_
       exact ⟨H,J,C,g,p,o,w,G,([]),Rl56,ef hs,ef hs,Owns.of_eq (((((i).swap ((List.Perm.cons _ ((List.Perm.cons _ (List.Perm.swap _ _ _)).trans (List.Perm.swap _ _ _))).trans (List.Perm.swap _ _ _))).swap ((List.Perm.cons _ ((List.Perm.cons _ (List.Perm.swap _ _ _)).trans (List.Perm.swap _ _ _))).trans (List.Perm.swap _ _ _))).swap ((List.Perm.cons _ ((List.Perm.cons _ (List.Perm.swap _ _ _)).trans (List.Perm.swap _ _ _))).trans (List.Perm.swap _ _ _))).swap ((List.Perm.cons _ ((List.Perm.cons _ (List.Perm.swap _ _ _)).trans (List.Perm.swap _ _ _))).trans (List.Perm.swap _ _ _))) D6,h⟩
      refine sk [1,2,4,5,6,7,10,11,12,13] hs bf ?_
      clear bf
      apply An;intro K60 bh
      apply Aq
      obtain ⟨b1,bx,bz,bn,h⟩:=ix Di h
      obtain ⟨b0,bp,h⟩:=bind_some h
      obtain ⟨be,h⟩:=Au h
      have i:=i.swap ((List.Perm.cons _ ((List.Perm.cons _ (List.Perm.swap _ _ _)).trans (List.Perm.swap _ _ _))).trans (List.Perm.swap _ _ _))
      obtain ⟨b5,bc,i,ao⟩:=i.append (P:=Tryz.prog) LM (by rw [Ha];rfl) (by decide) 1 be.1 be.2
      replace ao:=fun (ys:List AV) B L o2=>ao (g.map Di) ys B L o2 D6
      replace ao:=fun (y:AV) B L o2=>ao [y] B L o2 D6 ev
      try simp only [List.mem_singleton,List.mem_cons,List.not_mem_nil,or_false,forall_eq_or_imp,forall_eq,List.map_append,List.map_cons,List.map_nil,GE,GA,Gj,EQ,EO,F7,Dp,Ek,Ge,CP,CJ,EF,Ez,Et,Gi,Ew,F5] at ao
      have hs:=Ae bn hs
      have hs:=Ae ao hs
      refine rk 2 [1,2,4,5,6,7,10,11,12,13] hs ?_
      refine Aw _ (IG w0 n _ _ _ b1 3 _ bp) (hv hs) ?_
      refine ne hs bh ?_
      clear bh
      obtain ⟨b6,h⟩:=Au h
      refine rl [1,2,4,5,6,7,10,11,12,13] hs (fun e s=>Vl56 ml56 e s (Nat.lt_succ_self _)) ?_
      exact ⟨H,J,C,(g++([b0])),(Y+1),p,o,w,b5,([]),bc,ef hs,ef hs,Owns.of_eq ((((i).swap ((List.Perm.cons _ ((List.Perm.cons _ (List.Perm.swap _ _ _)).trans (List.Perm.swap _ _ _))).trans (List.Perm.swap _ _ _))).swap ((List.Perm.cons _ ((List.Perm.cons _ (List.Perm.swap _ _ _)).trans (List.Perm.swap _ _ _))).trans (List.Perm.swap _ _ _))).swap ((List.Perm.cons _ ((List.Perm.cons _ (List.Perm.swap _ _ _)).trans (List.Perm.swap _ _ _))).trans (List.Perm.swap _ _ _))) D6,h⟩
     ·clear h;rintro e st ⟨N,K,l,d,u,z,aw,k,Xk53,Rk53,rfl,rfl,i,h⟩
      rw [EV] at h
      have hU:=i.unders
      simp only [List.mem_cons,List.not_mem_nil,or_false,forall_eq_or_imp,forall_eq] at hU
      obtain ⟨bb,ba,bl,b2⟩:=hU
      refine td hN a4 a3 j i ?_
      apply An;intro K68 bj
      obtain ⟨b8,h⟩:=Au h
      obtain ⟨b9,h⟩:=Au h
      obtain ⟨q,bg,h⟩:=bind_some h
      apply TJ PH [14,16,18] [1,3,8] [1,2,4,5,6,7,10,11] kr (fun s=>∃ (X:Ao) (rows:Av) (c2:List AV),s=⟨B++([a0.cs,[Am 0,Am 0,Am 0,Am 0,.list ([]) .full,.list ([]) .full,.list ([]) .full],c2]++X),rows,L⟩) 4 (B.length+3)
      ·simp +decide only [go_sem,Nat.reduceAdd]
      ·refine ⟨2,?_⟩
       rw [Ap];simp +decide only [go_sem,Nat.reduceAdd,Dk,a5,O,Ty.cs_eqs b.2.2.2.1,Ty.cs_eqs q]
       have hs:=Ae (Ty.cs_eqs b.2.2.2.1) hs
       have hs:=Ae (Ty.cs_eqs q) hs
       (repeat' apply Ae)<;>first | refine Aw _ (ih _ _ _ b.2.2.2.1 (a1-1) _ bg) (hv hs) ?_ | exact cl
       rw [Ap];simp +decide only [go_sem,Nat.reduceAdd,a5,O,Ty.cs_eqs b.2.2.2.1,Ty.cs_eqs q]
       (repeat' apply Ae)<;>first | rfl | exact cl
      ·rintro s ⟨X,rows,c2,rfl⟩
       refine ⟨2,?_⟩
       rw [Ap];simp +decide only [go_sem,Nat.reduceAdd,Dk,List.append_eq,List.cons_append,List.nil_append,a5,O,Ty.cs_eqs b.2.2.2.1,Ty.cs_eqs q]
       have hs:=Ae (Ty.cs_eqs b.2.2.2.1) hs
       have hs:=Ae (Ty.cs_eqs q) hs
       (repeat' apply Ae)<;>first | refine Aw _ (ih _ _ _ b.2.2.2.1 (a1-1) _ bg) (hv hs) ?_ | exact cl
       rw [Ap];simp +decide only [go_sem,Nat.reduceAdd,a5,O,Ty.cs_eqs b.2.2.2.1,Ty.cs_eqs q]
       (repeat' apply Ae)<;>first | rfl | ((repeat (first | exact .nil | refine .cons (ef hs) ?_));done) | exact cl
      ·exact gd (tg (a:=(14,16,18,[1,2,4,5,6,7,10,11]))) (Ae (Ty.cs_eqs q) (Ae (Ty.cs_eqs b.2.2.2.1) (Ae O hs)))
      simp +decide only [go_sem,Nat.reduceAdd,a5,O,Ty.cs_eqs b.2.2.2.1,Ty.cs_eqs q]
      (repeat' apply Ae)<;>first | refine bj _ _ ?_ | exact cl
      clear bj
      obtain ⟨bk,h⟩:=Au h
      have i:=i.swap ((List.Perm.cons _ (List.Perm.swap _ _ _)).trans (List.Perm.swap _ _ _))
      obtain ⟨br,bd,i,ap⟩:=i.append (P:=Tryz.prog) TM (by rw [NV];rfl) (by decide) 1 bk.1 bk.2
      replace ap:=fun (ys:List AV) B L o2=>ap (l.map Cd) ys B L o2 D6
      replace ap:=fun (y:AV) B L o2=>ap [y] B L o2 D6 ev
      try simp only [List.mem_singleton,List.mem_cons,List.not_mem_nil,or_false,forall_eq_or_imp,forall_eq,List.map_append,List.map_cons,List.map_nil,GE,GA,Gj,EQ,EO,F7,Dp,Ek,Ge,CP,CJ,EF,Ez,Et,Gi,Ew,F5] at ap
      have hs:=Ae (Ty.cs_eqs b.2.2.2.1) hs
      have hs:=Ae (Ty.cs_eqs q) hs
      have hs:=Ae ap hs
      refine rl [1,2,4,5,6,7,10] hs bu ?_
      exact ⟨N,K,(l++([(b.1,b.2.1.extract 0 ((if 40<(b.2.1.size:Int) then 40 else (b.2.1.size:Int))).toNat,b.2.2.1,q,d)])),u,z,br,([[Am b.1,.val (.string (b.2.1.extract 0 ((if 40<(b.2.1.size:Int) then 40 else (b.2.1.size:Int))).toNat)),Am b.2.2.1,Am q.kind,Am q.min,Am q.max,Am q.scale,.list (q.words.map CB) .none,.list (q.elem.map J1) .none,.list (q.fields.map Cd) .none,.list (d.map Di) k]]),bd,ef hs,ef hs,Owns.of_eq ((((i).swap ((List.Perm.cons _ (List.Perm.swap _ _ _)).trans (List.Perm.swap _ _ _))).swap ((List.Perm.cons _ (List.Perm.swap _ _ _)).trans (List.Perm.swap _ _ _))).sub (List.sublist_append_left [(1,N.length,u),(7,K.length,z),(11,l.length+1,br)] [(6,d.length,k)])) D6,h⟩
    ·clear h;rintro e st ⟨ah,aj,Z,Q,V,aa,Xk47,Rk47,rfl,rfl,i,h⟩
     rw [GQ] at h
     have hU:=i.unders
     simp only [List.mem_cons,List.not_mem_nil,or_false,forall_eq_or_imp,forall_eq] at hU
     obtain ⟨bb,ba,bl⟩:=hU
     refine td hN a4 a3 j i ?_
     obtain ⟨b7,h⟩:=Au h
     refine rl [1,2,4,5,6,7,10] hs (fun e s=>Vl42 ml42 e s (Nat.lt_succ_self _)) ?_
     exact ⟨ah,aj,Z,(c+1),Q,V,aa,([]),Rk47,ef hs,ef hs,Owns.of_eq ((((i).swap ((List.Perm.cons _ (List.Perm.swap _ _ _)).trans (List.Perm.swap _ _ _))).swap ((List.Perm.cons _ (List.Perm.swap _ _ _)).trans (List.Perm.swap _ _ _))).swap ((List.Perm.cons _ (List.Perm.swap _ _ _)).trans (List.Perm.swap _ _ _))) D6,h⟩
   ·clear h;rintro e st ⟨av,au,aq,az,ay,ax,Xk39,Rk39,rfl,rfl,i,h⟩
    rw [GX] at h
    exact go (tg (a:=([2,4],[4],()))) h (Ae (Ty.cs_eqs a0) hs) hN a4 a3 j i trivial trivial
theorem Np (w0:World):∀ n:Nat,KA w0 (BR n)
 | 0=>fun _ _ _ _ _ _ h=>(nomatch h)
 | n+1=>PX w0 (BR n) (Np w0 n) n
def Ja (n:Nat) (b:Ty):Option Ty :=
 (BR n b 4).bind fun g =>
 some (g)
theorem PL (w0:World) (n:Nat) (B:Ao) (Rw:Av) (L:As) (a0:Ty) (r:Ty) (h:Ja n a0=some r) :
  ACalls Tryz.prog w0 20 [.agg (a0.cs)] ⟨B,Rw,L⟩ fun x st=>x = .agg (r.cs)∧st=⟨B,Rw,L⟩:=by
 rw [Ja] at h
 refine hd [.cell 2 26] Tryz.func20 Tryz.ntmps20 fun M0 W0 f c d b g e hs=>?_
 simp only [AA]
 exact go (tg (a:=([1,2],[2],()))) h hs f c d b e (q1 (Np w0 n)) trivial
theorem P0 (b:ByteArray) {c:Int} (hc:0≤c):(0:Nat)≤0∧(0:Int)≤(if c<(b.size:Int) then c else (b.size:Int))∧(if c<(b.size:Int) then c else (b.size:Int))≤(b.size:Int):=by
 refine ⟨Nat.le_refl _,?_,?_⟩<;>split<;>omega
theorem QU (b:ByteArray) {c:Int} (hc:0≤c):((b.extract 0 ((if c<(b.size:Int) then c else (b.size:Int))).toNat).size:Int)≤c:=by
 rw [ByteArray.size_extract];split<;>omega
theorem Uk:∀ (l:List Vl) (w:Vl),D8 (l++[w])=D8 l+w.size
 | [],w=>by simp [D8]
 | x::l,w=>by rw [List.cons_append,D8,Uk l w,D8];omega
theorem Rr:∀ (l:List (ByteArray × Vl)) (w:ByteArray × Vl),EI (l++[w])=EI l+w.2.size
 | [],(a,w)=>by simp [EI]
 | (a,x)::l,w=>by rw [List.cons_append,EI,Rr l w,EI];omega
theorem TT:∀ (l:List Ty) (w:Ty),FR (l++[w])=FR l+w.size
 | [],w=>by simp [FR]
 | x::l,w=>by rw [List.cons_append,FR,TT l w,FR];omega
theorem Rz:∀ (l:List TF) (w:TF),D2 (l++[w])=D2 l+w.2.2.2.1.size
 | [],(a,b,c,w,d)=>by simp [D2]
 | (a,b,c,x,d)::l,w=>by rw [List.cons_append,D2,Rz l w,D2];omega
theorem IY {α:Type} {p:α→Prop} {l:List α} {x:α} (h:∀ y∈l,p y) (hx:p x):∀ y∈l++[x],p y:=by
 intro y hy
 rcases List.mem_append.1 hy with hy | hy
 ·exact h y hy
 ·rw [List.mem_singleton.1 hy];exact hx
theorem E1 {α:Type} (l:List α) (x:α):(l++[x]).length=l.length+1:=by simp
def szV:Nat→Nat
 | 0=>0
 | d+1=>1+12*szV d
theorem ZdM (rec:Vl→Int→Option Vl) (n:Nat) (v:Vl) (a:Int) (K:Nat) (hI:A6 (a-1)) (hr:1<a→∀ x,∃ w,rec x (a-1)=some w∧w.size≤K∧w.ok) (l:List Vl) (hl:D8 l≤6*K) (ho:∀ x∈l,x.ok) :
  ∀ (m k i:Nat) (f:List (ByteArray × Vl)),i+k=6→k<m→f.length=i→EI f≤i*K→(∀ p∈f,p.1.size≤1048576∧p.2.ok)→∃ w,Dl rec n v a m l f (i:Int)=some w∧w.size≤1+12*K∧w.ok
 | 0,k,i,f,_,h,_,_,_=>absurd h (Nat.not_lt_zero _)
 | m+1,k,i,f,hi,hm,hf,hs,hp=>by
  rw [Dl]
  by_cases c:(((decide ((i:Int)<(v.fields.length:Int)))&&(decide ((i:Int)<6)))&&(decide (1<a)))=true
  ·rw [Ai c]
   simp only [Bool.and_eq_true,decide_eq_true_eq] at c
   obtain ⟨⟨s,r⟩,d⟩:=c
   have b:i<v.fields.length:=by omega
   obtain ⟨w,e,o,g⟩:=hr d v.fields[i].2
   obtain ⟨k,rfl⟩:∃ q,k=q+1:=⟨k-1,by omega⟩
   rw [AH b,Af,Ai (P0 _ (by decide)),Ai hI,e,Af,Ab,Ai (AG (by omega))]
   have j:=QU v.fields[i].1 (c:=40) (by decide)
   exact ZdM rec n v a K hI hr l hl ho m k (i+1) _ (by omega) (by omega) (by rw [E1];omega) (by rw [Rr,Nat.add_mul];simp only;omega) (IY hp ⟨by simp only;omega,g⟩)
  ·rw [Aj c,FY]
   have j:=QU v.text (c:=40) (by decide)
   have:i*K≤6*K:=Nat.mul_le_mul_right _ (by omega)
   refine ⟨_,rfl,?_,(Vl.ok_eq _).2 ⟨?_,ho,hp⟩⟩
   ·rw [Vl.size_eq];simp only [Vl.list,Vl.fields];omega
   ·show (v.text.extract 0 _).size≤1048576;omega
theorem Zh (rec:Vl→Int→Option Vl) (n:Nat) (hn:8≤n) (v:Vl) (a:Int) (K:Nat) (hI:A6 (a-1)) (hr:1<a→∀ x,∃ w,rec x (a-1)=some w∧w.size≤K∧w.ok) :
  ∀ (m k i:Nat) (l:List Vl),i+k=6→k<m→l.length=i→D8 l≤i*K→(∀ p∈l,p.ok)→∃ w,Dq rec n v a m l (i:Int)=some w∧w.size≤1+12*K∧w.ok
 | 0,k,i,f,_,h,_,_,_=>absurd h (Nat.not_lt_zero _)
 | m+1,k,i,f,hi,hm,hf,hs,hp=>by
  rw [Dq]
  by_cases c:(((decide ((i:Int)<(v.list.length:Int)))&&(decide ((i:Int)<6)))&&(decide (1<a)))=true
  ·rw [Ai c]
   simp only [Bool.and_eq_true,decide_eq_true_eq] at c
   obtain ⟨⟨r,j⟩,d⟩:=c
   have b:i<v.list.length:=by omega
   obtain ⟨w,e,o,g⟩:=hr d v.list[i]
   obtain ⟨k,rfl⟩:∃ q,k=q+1:=⟨k-1,by omega⟩
   rw [AH b,Af,Ai hI,e,Af,Ab,Ai (AG (by omega))]
   exact Zh rec n hn v a K hI hr m k (i+1) _ (by omega) (by omega) (by rw [E1];omega) (by rw [Uk,Nat.add_mul];omega) (IY hp g)
  ·rw [Aj c,GU]
   have:i*K≤6*K:=Nat.mul_le_mul_right _ (by omega)
   exact ZdM rec n v a K hI hr f (by omega) hp n 6 0 [] (by omega) (by omega) rfl (by simp [EI]) (by simp)
theorem QY:∀ (d n:Nat) (v:Vl),d≤50→d+9≤n→∃ w,Bh n v ((d+1:Nat):Int)=some w∧w.size≤szV (d+1)∧w.ok
 | 0,n,v,h1,h2=>by
  obtain ⟨n,rfl⟩:∃ q,n=q+1:=⟨n-1,by omega⟩
  rw [Bh,Fh,Ai (P0 _ (by decide)),szV]
  exact Zh (Bh n) n (by omega) v _ 0 (by unfold A6;omega) (fun c x=>by omega) n 6 0 [] (by omega) (by omega) rfl (by simp [D8]) (by simp)
 | d+1,n,v,h1,h2=>by
  obtain ⟨n,rfl⟩:∃ q,n=q+1:=⟨n-1,by omega⟩
  rw [Bh,Fh,Ai (P0 _ (by decide)),szV]
  exact Zh (Bh n) n (by omega) v _ (szV (d+1)) (by unfold A6;omega) (fun c x=>by
   rw [show (((d+1+1:Nat):Int)-1)=((d+1:Nat):Int) from by omega]
   exact QY d n x (by omega) (by omega)) n 6 0 [] (by omega) (by omega) rfl (by simp [D8]) (by simp)
def Ex.fits:Nat→Ex→Prop
 | 0,_=>False
 | d+1,e=>e.text.size≤60∧(∀ v∈e.value,v.size≤13∧v.ok)∧e.args.length≤4∧(∀ x∈e.args,Ex.fits d x)∧e.value.length≤2
theorem Zc2 (rec:Ex→Int→Option Ex) (n:Nat) (v:Ex) (a:Int) (d:Nat) (hI:A6 (a-1)) (hr:1<a→∀ x,∃ w,rec x (a-1)=some w∧w.fits d) (l:List Vl) (ho:∀ x∈l,x.size≤13∧x.ok) (hl2:l.length≤2) :
  ∀ (m k i:Nat) (f:List Ex),i+k=4→k<m→f.length=i→(∀ p∈f,p.fits d)→∃ w,Dm rec n v a m l f (i:Int)=some w∧w.fits (d+1)
 | 0,k,i,f,_,h,_,_=>absurd h (Nat.not_lt_zero _)
 | m+1,k,i,f,hi,hm,hf,hp=>by
  rw [Dm]
  by_cases c:(((decide ((i:Int)<(v.args.length:Int)))&&(decide ((i:Int)<4)))&&(decide (1<a)))=true
  ·rw [Ai c]
   simp only [Bool.and_eq_true,decide_eq_true_eq] at c
   obtain ⟨⟨r,o⟩,g⟩:=c
   have b:i<v.args.length:=by omega
   obtain ⟨w,e,j⟩:=hr g v.args[i]
   obtain ⟨k,rfl⟩:∃ q,k=q+1:=⟨k-1,by omega⟩
   rw [AH b,Af,Ai hI,e,Af,Ab,Ai (AG (by omega))]
   exact Zc2 rec n v a d hI hr l ho hl2 m k (i+1) _ (by omega) (by omega) (by rw [E1];omega) (IY hp j)
  ·rw [Aj c,FU]
   have s:=QU v.text (c:=60) (by decide)
   refine ⟨_,rfl,?_,ho,?_,hp,hl2⟩
   ·show (v.text.extract 0 _).size≤60;omega
   ·simp only [Ex.args];omega
theorem Zcp (rec:Ex→Int→Option Ex) (n:Nat) (hn:20≤n) (v:Ex) (a:Int) (d:Nat) (hI:A6 (a-1)) (hr:1<a→∀ x,∃ w,rec x (a-1)=some w∧w.fits d) :
  ∀ (m k i:Nat) (f:List Vl),i+k=2→k<m→f.length=i→(∀ p∈f,p.size≤13∧p.ok)→∃ w,DN rec n v a m f (i:Int)=some w∧w.fits (d+1)
 | 0,k,i,f,_,h,_,_=>absurd h (Nat.not_lt_zero _)
 | m+1,k,i,f,hi,hm,hf,hp=>by
  rw [DN]
  by_cases c:((decide ((i:Int)<(v.value.length:Int)))&&(decide ((i:Int)<2)))=true
  ·rw [Ai c]
   simp only [Bool.and_eq_true,decide_eq_true_eq] at c
   obtain ⟨o,l⟩:=c
   have b:i<v.value.length:=by omega
   obtain ⟨w,e,g,j⟩:=QY 1 n v.value[i] (by omega) (by omega)
   have e:Bh n v.value[i] 2=some w:=e
   obtain ⟨k,rfl⟩:∃ q,k=q+1:=⟨k-1,by omega⟩
   rw [AH b,Af,e,Af,Ab,Ai (AG (by omega))]
   exact Zcp rec n hn v a d hI hr m k (i+1) _ (by omega) (by omega) (by rw [E1];omega) (IY hp ⟨g,j⟩)
  ·rw [Aj c,G0]
   exact Zc2 rec n v a d hI hr f hp (by omega) n 4 0 [] (by omega) (by omega) rfl (by simp)
theorem U9:∀ (d n:Nat) (v:Ex),d≤50→d+21≤n→∃ w,BI n v ((d+1:Nat):Int)=some w∧w.fits (d+1)
 | 0,n,v,h1,h2=>by
  obtain ⟨n,rfl⟩:∃ q,n=q+1:=⟨n-1,by omega⟩
  rw [BI,Fp,Ai (P0 _ (by decide))]
  exact Zcp (BI n) n (by omega) v _ 0 (by unfold A6;omega) (fun c x=>by omega) n 2 0 [] (by omega) (by omega) rfl (by simp)
 | d+1,n,v,h1,h2=>by
  obtain ⟨n,rfl⟩:∃ q,n=q+1:=⟨n-1,by omega⟩
  rw [BI,Fp,Ai (P0 _ (by decide))]
  exact Zcp (BI n) n (by omega) v _ (d+1) (by unfold A6;omega) (fun c x=>by
   rw [show (((d+1+1:Nat):Int)-1)=((d+1:Nat):Int) from by omega]
   exact U9 d n x (by omega) (by omega)) n 2 0 [] (by omega) (by omega) rfl (by simp)
def QR (m:List (ByteArray × Ex)):Prop:=m.length≤8∧∀ p∈m,p.1.size≤60∧p.2.fits 4
theorem Yq (n:Nat) (hn:30≤n) (a:List (ByteArray × Ex)):∀ (m k i:Nat) (f:List (ByteArray × Ex)),i+k=8→k<m→f.length=i→(∀ p∈f,p.1.size≤60∧p.2.fits 4)→∃ w,GG n a m (i:Int) f=some w∧QR w
 | 0,k,i,f,_,h,_,_=>absurd h (Nat.not_lt_zero _)
 | m+1,k,i,f,hi,hm,hf,hp=>by
  rw [GG]
  by_cases c:((decide ((i:Int)<(a.length:Int)))&&(decide ((i:Int)<8)))=true
  ·rw [Ai c]
   simp only [Bool.and_eq_true,decide_eq_true_eq] at c
   obtain ⟨j,g⟩:=c
   have b:i<a.length:=by omega
   obtain ⟨w,e,d⟩:=U9 3 n a[i].2 (by omega) (by omega)
   have e:BI n a[i].2 4=some w:=e
   obtain ⟨k,rfl⟩:∃ q,k=q+1:=⟨k-1,by omega⟩
   have l:=QU a[i].1 (c:=60) (by decide)
   rw [AH b,Af,Ai (P0 _ (by decide)),e,Af,Ab,Ai (AG (by omega))]
   exact Yq n hn a m k (i+1) _ (by omega) (by omega) (by rw [E1];omega) (IY hp ⟨by simp only;omega,d⟩)
  ·rw [Aj c,JY]
   exact ⟨_,rfl,by omega,hp⟩
theorem Zch (n:Nat) (hn:30≤n) (a:List (ByteArray × Ex)):∃ w,Le n a=some w∧QR w:=Yq n hn a n 8 0 [] (by omega) (by omega) rfl (by simp)
def szT:Nat→Nat
 | 0=>0
 | d+1=>1+8*szT d
def SX (K D:Nat) (t:Ty):Prop:=t.size≤K∧t.depth≤D∧t.ok
theorem ZdE (rec:Ty→Int→Option Ty) (n:Nat) (hn:20≤n) (ag:List ByteArray→List Ty→List TF→Int→Option Ty) (a z:Int) (p:TF) (ws:List ByteArray) (es:List Ty) (fs:List TF) :
  ∀ (m k i:Nat) (f:List Vl),i+k=2→k<m→f.length=i→(∀ v∈f,v.small)→∃ dl:List Vl,CS rec n ag a z p m ws es fs f (i:Int)=EV rec n ag a z p ws es fs dl∧dl.length≤2∧∀ v∈dl,v.small
 | 0,k,i,f,_,h,_,_=>absurd h (Nat.not_lt_zero _)
 | m+1,k,i,f,hi,hm,hf,hp=>by
  rw [CS]
  by_cases c:((decide ((i:Int)<(p.2.2.2.2.length:Int)))&&(decide ((i:Int)<2)))=true
  ·rw [Ai c]
   simp only [Bool.and_eq_true,decide_eq_true_eq] at c
   obtain ⟨l,j⟩:=c
   have b:i<p.2.2.2.2.length:=by omega
   obtain ⟨w,e,d,g⟩:=QY 2 n p.2.2.2.2[i] (by omega) (by omega)
   have e:Bh n p.2.2.2.2[i] 3=some w:=e
   have d:w.size≤157:=d
   have o:=w.depth_size
   obtain ⟨k,rfl⟩:∃ q,k=q+1:=⟨k-1,by omega⟩
   rw [AH b,Af,e,Af,Ab,Ai (AG (by omega))]
   exact ZdE rec n hn ag a z p ws es fs m k (i+1) _ (by omega) (by omega) (by rw [E1];omega) (IY hp ⟨by omega,by omega,g⟩)
  ·rw [Aj c]
   exact ⟨_,rfl,by omega,hp⟩
theorem ZcM (rec:Ty→Int→Option Ty) (n:Nat) (hn:20≤n) (t:Ty) (a:Int) (K D:Nat) (hI:A6 (a-1)) (hr:1<a→∀ x,∃ w,rec x (a-1)=some w∧SX K D w)
  (ws:List ByteArray) (hw:ws.length≤6∧∀ w∈ws,w.size≤40) (es:List Ty) (he:FR es≤2*K∧∀ w∈es,SX K D w) :
  ∀ (m k i:Nat) (f:List TF),i+k=6→k<m→f.length=i→D2 f≤i*K→(∀ p∈f,p.2.1.size≤40∧SX K D p.2.2.2.1∧p.2.2.2.2.length≤2∧∀ v∈p.2.2.2.2,v.small)→∃ w,Bl rec n t a m ws es f (i:Int)=some w∧SX (1+8*K) (D+1) w
 | 0,k,i,f,_,h,_,_,_=>absurd h (Nat.not_lt_zero _)
 | m+1,k,i,f,hi,hm,hf,hs,hp=>by
  rw [Bl]
  by_cases c:(((decide ((i:Int)<(t.fields.length:Int)))&&(decide ((i:Int)<6)))&&(decide (1<a)))=true
  ·rw [Ai c]
   simp only [Bool.and_eq_true,decide_eq_true_eq] at c
   obtain ⟨⟨E,z⟩,j⟩:=c
   have d:i<t.fields.length:=by omega
   obtain ⟨w,e,l,s,u⟩:=hr j t.fields[i].2.2.2.1
   obtain ⟨k,rfl⟩:∃ q,k=q+1:=⟨k-1,by omega⟩
   obtain ⟨dl,g,o,r⟩:=ZdE rec n hn (Bl rec n t a m) a i t.fields[i] ws es f n 2 0 [] (by omega) (by omega) rfl (by simp)
   have g:CS rec n (Bl rec n t a m) a i t.fields[i] n ws es f [] 0=_:=g
   have F:=QU t.fields[i].2.1 (c:=40) (by decide)
   rw [AH d,Af,g,EV,Ai (P0 _ (by decide)),Ai hI,e,Af,Ab,GQ,Ai (AG (by omega))]
   exact ZcM rec n hn t a K D hI hr ws hw es he m k (i+1) _ (by omega) (by omega) (by rw [E1];omega) (by rw [Rz,Nat.add_mul];simp only;omega) (IY hp ⟨by simp only;omega,⟨l,s,u⟩,o,r⟩)
  ·rw [Aj c,GX]
   have:i*K≤6*K:=Nat.mul_le_mul_right _ (by omega)
   refine ⟨_,rfl,?_,?_,(Ty.ok_eq _).2 ⟨?_,fun x b=>?_,fun x b=>(he.2 x b).2.2,fun p b=>?_⟩⟩
   ·rw [Ty.size_eq];simp only [Ty.elem,Ty.fields];omega
   ·rw [Ty.depth_eq];simp only [Ty.elem,Ty.fields]
    have G:=(IA es D).2 fun x b=>(he.2 x b).2.1
    have C:=(HO f D).2 fun x b=>(hp x b).2.1.2.1
    omega
   ·simp only [Ty.words];omega
   ·have:=hw.2 x b;omega
   ·obtain ⟨q1,q2,q3,y⟩:=hp p b
    exact ⟨by omega,q2.2.2,by omega,y⟩
theorem Zd0 (rec:Ty→Int→Option Ty) (n:Nat) (hn:20≤n) (t:Ty) (a:Int) (K D:Nat) (hI:A6 (a-1)) (hr:1<a→∀ x,∃ w,rec x (a-1)=some w∧SX K D w)
  (ws:List ByteArray) (hw:ws.length≤6∧∀ w∈ws,w.size≤40) :
  ∀ (m k i:Nat) (f:List Ty),i+k=2→k<m→f.length=i→FR f≤i*K→(∀ p∈f,SX K D p)→∃ w,DI rec n t a m ws f (i:Int)=some w∧SX (1+8*K) (D+1) w
 | 0,k,i,f,_,h,_,_,_=>absurd h (Nat.not_lt_zero _)
 | m+1,k,i,f,hi,hm,hf,hs,hp=>by
  rw [DI]
  by_cases c:(((decide ((i:Int)<(t.elem.length:Int)))&&(decide ((i:Int)<2)))&&(decide (1<a)))=true
  ·rw [Ai c]
   simp only [Bool.and_eq_true,decide_eq_true_eq] at c
   obtain ⟨⟨o,j⟩,g⟩:=c
   have b:i<t.elem.length:=by omega
   obtain ⟨w,e,d⟩:=hr g t.elem[i]
   have l:=d.1
   obtain ⟨k,rfl⟩:∃ q,k=q+1:=⟨k-1,by omega⟩
   rw [AH b,Af,Ai hI,e,Af,Ab,Ai (AG (by omega))]
   exact Zd0 rec n hn t a K D hI hr ws hw m k (i+1) _ (by omega) (by omega) (by rw [E1];omega) (by rw [TT,Nat.add_mul];omega) (IY hp d)
  ·rw [Aj c,GF]
   have:i*K≤2*K:=Nat.mul_le_mul_right _ (by omega)
   exact ZcM rec n hn t a K D hI hr ws hw f ⟨by omega,hp⟩ n 6 0 [] (by omega) (by omega) rfl (by simp [D2]) (by simp)
theorem Zdp (rec:Ty→Int→Option Ty) (n:Nat) (hn:20≤n) (t:Ty) (a:Int) (K D:Nat) (hI:A6 (a-1)) (hr:1<a→∀ x,∃ w,rec x (a-1)=some w∧SX K D w) :
  ∀ (m k i:Nat) (f:List ByteArray),i+k=6→k<m→f.length=i→(∀ p∈f,p.size≤40)→∃ w,D9 rec n t a m f (i:Int)=some w∧SX (1+8*K) (D+1) w
 | 0,k,i,f,_,h,_,_=>absurd h (Nat.not_lt_zero _)
 | m+1,k,i,f,hi,hm,hf,hp=>by
  rw [D9]
  by_cases c:((decide ((i:Int)<(t.words.length:Int)))&&(decide ((i:Int)<6)))=true
  ·rw [Ai c]
   simp only [Bool.and_eq_true,decide_eq_true_eq] at c
   obtain ⟨d,e⟩:=c
   have b:i<t.words.length:=by omega
   obtain ⟨k,rfl⟩:∃ q,k=q+1:=⟨k-1,by omega⟩
   have g:=QU t.words[i] (c:=40) (by decide)
   rw [AH b,Af,Ai (P0 _ (by decide)),Ab,Ai (AG (by omega))]
   exact Zdp rec n hn t a K D hI hr m k (i+1) _ (by omega) (by omega) (by rw [E1];omega) (IY hp (by omega))
  ·rw [Aj c,Hi]
   exact Zd0 rec n hn t a K D hI hr f ⟨by omega,hp⟩ n 2 0 [] (by omega) (by omega) rfl (by simp [FR]) (by simp)
theorem Vx:∀ (d n:Nat) (v:Ty),d≤50→d+21≤n→∃ w,BR n v ((d+1:Nat):Int)=some w∧SX (szT (d+1)) (d+1) w
 | 0,n,v,h1,h2=>by
  obtain ⟨n,rfl⟩:∃ q,n=q+1:=⟨n-1,by omega⟩
  rw [BR,Gy,szT]
  exact Zdp (BR n) n (by omega) v _ 0 0 (by unfold A6;omega) (fun c x=>by omega) n 6 0 [] (by omega) (by omega) rfl (by simp)
 | d+1,n,v,h1,h2=>by
  obtain ⟨n,rfl⟩:∃ q,n=q+1:=⟨n-1,by omega⟩
  rw [BR,Gy,szT]
  exact Zdp (BR n) n (by omega) v _ (szT (d+1)) (d+1) (by unfold A6;omega) (fun c x=>by
   rw [show (((d+1+1:Nat):Int)-1)=((d+1:Nat):Int) from by omega]
   exact Vx d n x (by omega) (by omega)) n 6 0 [] (by omega) (by omega) rfl (by simp)
theorem Ze9 (n:Nat) (hn:30≤n) (t:Ty):∃ w,Ja n t=some w∧SX 585 4 w:=by
 obtain ⟨w,e,h⟩:=Vx 3 n t (by omega) (by omega)
 have e:BR n t 4=some w:=e
 exact ⟨w,by rw [Ja,e];rfl,h⟩
def La (n:Nat)  (b:List Ty):Option ((List Ty)) :=
 some (b)
def Pv (n:Nat)  : Option ((List Ty)) :=
 some ([])
def GB (n:Nat) (q:Ty):Nat→(List Ty)→Int→Option ((List Ty))
 | 0,_,_=>none
 | m+1,g,b =>
  if decide (b<(q.fields.length:Int)) then
   (Cb q.fields b).bind fun h =>
   if (g.length+1)*104≤140737488355328∧g.length+1≤4611686018427387904 then
    if A6 (b+1) then
     (GB n q m) (g++([h.2.2.2.1])) (b+1)
    else none
   else none
  else
   La n g
def HW (n:Nat) (g:Ty) (b:Bool):Option ((List Ty)) :=
 if b then
  if 0≤(g.fields.length:Int)∧(g.fields.length:Int)*104≤140737488355328∧(g.fields.length:Int)≤4611686018427387904 then
   GB n g n ([]) 0
  else none
 else
  Pv n 
def IE (n:Nat) (b:Ty):Option ((List Ty)) :=
 if decide (b.kind=8) then
  some (b.elem)
 else
  if decide (b.kind=9) then
   HW n b true
  else
   HW n b (decide (b.kind=10))
theorem O7 (w0:World) (n:Nat) (B:Ao) (Rw:Av) (L:As) (a0:Ty) (r:(List Ty)) (h:IE n a0=some r) :
  ACalls Tryz.prog w0 93 [.agg (a0.cs)] ⟨B,Rw,L⟩ fun x st=>x = .list (r.map J1) .none∧st=⟨B,Rw,L⟩:=by
 rw [IE] at h
 refine hd [.tmp 2] Tryz.func93 Tryz.ntmps93 fun M0 W0 p o l b w k hs=>?_
 simp only [AA]
 refine rg [1] hs ?_
 refine AB (fun e st=>Ck e st B Rw L [] [a0.cs] [] (Pv n  = some r)) ?_ ?_
 ·intro K4 u
  refine rg [1,7] hs ?_
  apply Aq
  refine rg [1,7,8] hs ?_
  refine BQ h hs ?_ ?_<;>intro hs h
  ·refine rg [2] hs ?_
   exact rt h hs b k
  refine AB (fun e st=>∃ (f:Bool),Ck e st B Rw L [(1,true,.box B.length 0),(12,true,.val (.bool f))] [a0.cs] [] (HW n a0 f=some r)) ?_ ?_
  ·intro K11 t
   exact go (tg (a:=([1,7,12],([1,12],()),[1,12],()))) h hs p o l b k trivial (q1 t)
  ·clear h;rintro e st ⟨f,Xk10,Rk10,rfl,rfl,k,h⟩
   rw [HW] at h
   refine td p o l b k ?_
   refine BQ h hs ?_ ?_<;>intro hs h
   ·obtain ⟨v,h⟩:=Au h
    have k:=k.make 7 0
    refine rg [1,3] hs ?_
    refine AB (fun e st=>∃ (d:List Ty) (i:Ev.Own),Ck e st B Rw L [(3,true,.list (d.map J1) i)] [a0.cs] [(7,d.length,i)] (La n d=some r)) ?_ ?_
    ·intro K20 q
     refine rg [3,20,21,22] hs ?_
     apply Aq
     refine AC (fun m e st=>∃ (c:List Ty) (g:Int) (j:Ev.Own),Ck e st B Rw L [(3,true,.list (c.map J1) j),(20,true,.list (a0.fields.map Cd) .none),(21,true,Am (a0.fields.length:Int)),(22,true,Am g)] [a0.cs] [(7,c.length,j)] (GB n a0 m c g=some r)) n ⟨([]),0,((.row Rk10.length)),([]),((Rk10++[.grow 0 7])),ef hs,ef hs,Owns.of_eq (k) D6,h⟩ ?_
     rintro ml22 e st ⟨c,g,j,Xl22,Rl22,rfl,rfl,k,h⟩ Ul22 Vl22
     cases ml22 with
     | zero=>cases h
     | succ ml22 =>
     rw [GB] at h
     exact go (tg (a:=([3,20,21,22,23],([3,20,21,22],[3,5,20,21,22],[3,20,21,22],[3,20,21,22],()),[3],()))) h hs p o l b k (q1 (ae ZW TC)) (q2 q (fun e s=>Vl22 ml22 e s (Nat.lt_succ_self _)))
    ·clear h;rintro e st ⟨d,i,Xk19,Rk19,rfl,rfl,k,h⟩
     rw [La] at h
     exact go (tg (a:=([2],()))) h hs p o l b k trivial trivial
   refine sk [] hs u ?_
   exact ⟨([]),Rk10,ef hs,ef hs,k,h⟩
 ·clear h;rintro e st ⟨Xk3,Rk3,rfl,rfl,k,h⟩
  rw [Pv] at h
  refine td p o l b k ?_
  refine rg [2] hs ?_
  exact rt h hs b k
def IL (t:Ty):List Ty:=if t.kind=8 then t.elem else if t.kind=9∨t.kind=10 then t.fields.map fun p=>p.2.2.2.1 else []
theorem Zds (n:Nat) (t:Ty) (hs:t.fields.length≤1000000000):∀ (k m i:Nat) (x:List Ty),i+k=t.fields.length→k<m→x.length=i→GB n t m x i=some (x++(t.fields.drop i).map fun p=>p.2.2.2.1)
 | k,0,i,_,_,h,_=>absurd h (Nat.not_lt_zero _)
 | 0,m+1,i,x,hi,_,_=>by
  rw [GB,AD,Ac]
  simp only [Bool.false_eq_true,if_false,La]
  rw [List.drop_eq_nil_of_le (by omega),List.map_nil,List.append_nil]
 | k+1,m+1,i,x,hi,hm,hx=>by
  have a:i<t.fields.length:=by omega
  rw [GB,AD,Ah a]
  simp only [if_true,AH a,Af]
  rw [Ab,Ai (AG (by omega))]
  have ih:=Zds n t hs k m (i+1) (x++[t.fields[i].2.2.2.1]) (by omega) (by omega) (by simp [hx])
  rw [List.drop_eq_getElem_cons a,List.map_cons]
  rw [List.append_assoc] at ih
  exact ih
theorem Vd (n:Nat) (t:Ty) (hn:t.fields.length<n) (hs:t.fields.length≤1000000000):IE n t=some (IL t):=by
 have a:HW n t true=some (t.fields.map fun p=>p.2.2.2.1):=by
  rw [HW,Ai rfl,Ab]
  have:=Zds n t hs t.fields.length n 0 [] (by omega) hn rfl
  rw [List.drop_zero,List.nil_append] at this
  exact this
 rw [IE,IL]
 by_cases h1:t.kind=8
 ·rw [Ai (Ah h1),Ai h1]
 rw [Aj (by rw [decide_eq_true_eq];exact h1),Aj h1]
 by_cases h2:t.kind=9
 ·rw [Ai (Ah h2),a,Ai (.inl h2)]
 rw [Aj (by rw [decide_eq_true_eq];exact h2)]
 by_cases h3:t.kind=10
 ·rw [Ah h3,a,Ai (.inr h3)]
 ·rw [Ag h3,Aa];rfl
theorem ZhG {a b:ByteArray} (h:a.data.toList=b.data.toList):a=b:=by
 cases a;cases b;simp at h;rw [h]
theorem P1 (x y:ByteArray):Gn x y=true↔x=y:=by
 unfold Gn
 rw [beq_iff_eq]
 exact ⟨ZhG,fun h=>by rw [h]⟩
theorem YF (x:ByteArray):Gn x x=true:=(P1 x x).2 rfl
theorem Zj {n:Nat} (h:n≤1048576):n≤maxLen:=by unfold maxLen;omega
theorem Vl.ext' {a b:Vl} (h1:a.kind=b.kind) (h2:a.int=b.int) (h3:a.scale=b.scale) (h4:a.text=b.text) (h5:a.list=b.list) (h6:a.fields=b.fields):a=b:=by
 rw [←a.eta,←b.eta,h1,h2,h3,h4,h5,h6]
theorem TF.ext' {p q:TF} (h1:p.1=q.1) (h2:p.2.1=q.2.1) (h3:p.2.2.1=q.2.2.1) (h4:p.2.2.2.1=q.2.2.2.1) (h5:p.2.2.2.2=q.2.2.2.2):p=q:=by
 obtain ⟨a,b,c,d,e⟩:=p
 obtain ⟨f,i,g,j,h⟩:=q
 simp only at h1 h2 h3 h4 h5
 rw [h1,h2,h3,h4,h5]
theorem Ty.ext' {a b:Ty} (h1:a.kind=b.kind) (h2:a.min=b.min) (h3:a.max=b.max) (h4:a.scale=b.scale) (h5:a.words=b.words) (h6:a.elem=b.elem) (h7:a.fields=b.fields):a=b:=by
 rw [←a.eta,←b.eta,h1,h2,h3,h4,h5,h6,h7]
def Fe (b:Vl):Bool :=
 (((((decide (b.kind=0))&&(decide (b.int=0)))&&(decide (b.scale=0)))&&(Gn b.text (⟨#[]⟩:ByteArray)))&&(decide ((b.list.length:Int)=0)))&&(decide ((b.fields.length:Int)=0))
theorem YR (w0:World) (B:Ao) (Rw:Av) (L:As) (a0:Vl) (r:Bool) (h:Fe a0=r) :
  ACalls Tryz.prog w0 147 [.agg (a0.cs)] ⟨B,Rw,L⟩ fun x st=>x = .val (.bool r)∧st=⟨B,Rw,L⟩:=by
 rw [Fe] at h
 refine hd [.tmp 2] Tryz.func147 Tryz.ntmps147 fun M0 W0 e b c a f d hs=>?_
 simp only [AA]
 refine rg [1] hs ?_
 refine rg [2] hs ?_
 exact rT h hs a d
theorem WB (w0:World) (B:Ao) (Rw:Av) (L:As) (a0:Vl) :
  ACalls Tryz.prog w0 147 [.agg (a0.cs)] ⟨B,Rw,L⟩ fun x st=>x = .val (.bool (Fe a0))∧st=⟨B,Rw,L⟩:=YR w0 B Rw L a0 _ rfl
def BP (b:Int) (h:Int) (g:Int):Int :=
 if (decide (b<h))||(decide (g<b)) then
  2
 else
  0
theorem Xw (w0:World) (B:Ao) (Rw:Av) (L:As) (a0:Int) (a1:Int) (a2:Int) (r:Int) (h:BP a0 a1 a2=r) :
  ACalls Tryz.prog w0 216 [Am a0,Am a1,Am a2] ⟨B,Rw,L⟩ fun x st=>x=Am r∧st=⟨B,Rw,L⟩:=by
 rw [BP] at h
 refine hd [.tmp 6] Tryz.func216 Tryz.ntmps216 fun M0 W0 f c d b g e hs=>?_
 simp only [AA]
 exact go (tg (a:=([0,1,2],[14],([6],()),[],[6],()))) h hs f c d b e trivial trivial
theorem G9 (w0:World) (B:Ao) (Rw:Av) (L:As) (a0:Int) (a1:Int) (a2:Int) :
  ACalls Tryz.prog w0 216 [Am a0,Am a1,Am a2] ⟨B,Rw,L⟩ fun x st=>x=Am (BP a0 a1 a2)∧st=⟨B,Rw,L⟩:=Xw w0 B Rw L a0 a1 a2 _ rfl
def F6 (b:Vl):Int :=
 BP b.int 0 1
theorem Xc (w0:World) (B:Ao) (Rw:Av) (L:As) (a0:Vl) (r:Int) (h:F6 a0=r) :
  ACalls Tryz.prog w0 215 [.agg (a0.cs)] ⟨B,Rw,L⟩ fun x st=>x=Am r∧st=⟨B,Rw,L⟩:=by
 rw [F6] at h
 refine hd [.tmp 2] Tryz.func215 Tryz.ntmps215 fun M0 W0 f c d b g e hs=>?_
 simp only [AA]
 exact go (tg (a:=([1],[2],()))) h hs f c d b e (q1 (G9 w0)) trivial
theorem UK (w0:World) (B:Ao) (Rw:Av) (L:As) (a0:Vl) :
  ACalls Tryz.prog w0 215 [.agg (a0.cs)] ⟨B,Rw,L⟩ fun x st=>x=Am (F6 a0)∧st=⟨B,Rw,L⟩:=Xc w0 B Rw L a0 _ rfl
def Dc (g:Int) (h:Int) (b:Int):Int :=
 if decide (h<g) then
  b
 else
  0
theorem Zbn (w0:World) (B:Ao) (Rw:Av) (L:As) (a0:Int) (a1:Int) (a2:Int) (r:Int) (h:Dc a0 a1 a2=r) :
  ACalls Tryz.prog w0 221 [Am a0,Am a1,Am a2] ⟨B,Rw,L⟩ fun x st=>x=Am r∧st=⟨B,Rw,L⟩:=by
 rw [Dc] at h
 refine hd [.tmp 6] Tryz.func221 Tryz.ntmps221 fun M0 W0 f c d b g e hs=>?_
 simp only [AA]
 exact go (tg (a:=([0,1,2],[2,9],([6],()),[],[6],()))) h hs f c d b e trivial trivial
theorem Kx (w0:World) (B:Ao) (Rw:Av) (L:As) (a0:Int) (a1:Int) (a2:Int) :
  ACalls Tryz.prog w0 221 [Am a0,Am a1,Am a2] ⟨B,Rw,L⟩ fun x st=>x=Am (Dc a0 a1 a2)∧st=⟨B,Rw,L⟩:=Zbn w0 B Rw L a0 a1 a2 _ rfl
def Im (b:Vl):Option Int :=
 if b.text.size≤maxLen then
  if !(EZ b.text) then
   some (12)
  else
   if decide ((b.list.length:Int)=0) then
    some (4)
   else
    some (Dc (b.list.length:Int) 1 3)
 else none
theorem UT (w0:World) (B:Ao) (Rw:Av) (L:As) (a0:Vl) (r:Int) (h:Im a0=some r) :
  ACalls Tryz.prog w0 228 [.agg (a0.cs)] ⟨B,Rw,L⟩ fun x st=>x=Am r∧st=⟨B,Rw,L⟩:=by
 rw [Im] at h
 refine hd [.tmp 2] Tryz.func228 Tryz.ntmps228 fun M0 W0 f c d b g e hs=>?_
 simp only [AA]
 exact go (tg (a:=([1],[1,3],([2],()),[1,8],([2],()),[1],[2],()))) h hs f c d b e (q2 (Ol w0) (Kx w0)) trivial
def Gq (b:Vl):Int :=
 BP b.int ((-999999999999999)) 999999999999999
theorem Xd (w0:World) (B:Ao) (Rw:Av) (L:As) (a0:Vl) (r:Int) (h:Gq a0=r) :
  ACalls Tryz.prog w0 217 [.agg (a0.cs)] ⟨B,Rw,L⟩ fun x st=>x=Am r∧st=⟨B,Rw,L⟩:=by
 rw [Gq] at h
 refine hd [.tmp 2] Tryz.func217 Tryz.ntmps217 fun M0 W0 f c d b g e hs=>?_
 simp only [AA]
 exact go (tg (a:=([1],[2],()))) h hs f c d b e (q1 (G9 w0)) trivial
theorem UV (w0:World) (B:Ao) (Rw:Av) (L:As) (a0:Vl) :
  ACalls Tryz.prog w0 217 [.agg (a0.cs)] ⟨B,Rw,L⟩ fun x st=>x=Am (Gq a0)∧st=⟨B,Rw,L⟩:=Xd w0 B Rw L a0 _ rfl
def MC (n:Nat)  : Option Int :=
 some (0)
def Ht (n:Nat) (h:List Int):Nat→Int→Option Int
 | 0,_=>none
 | m+1,b =>
  if decide (b<(h.length:Int)) then
   (Cb h b).bind fun g =>
   if !(decide (g=0)) then
    some (g)
   else
    if A6 (b+1) then
     (Ht n h m) (b+1)
    else none
  else
   MC n 
def LZ (n:Nat) (b:List Int):Option Int :=
 Ht n b n 0
theorem Zg (w0:World) (n:Nat) (B:Ao) (Rw:Av) (L:As) (a0:List Int) (r:Int) (h:LZ n a0=some r) :
  ACalls Tryz.prog w0 219 [.list (a0.map avI) .none] ⟨B,Rw,L⟩ fun x st=>x=Am r∧st=⟨B,Rw,L⟩:=by
 rw [LZ] at h
 refine hd [.tmp 2] Tryz.func219 Tryz.ntmps219 fun M0 W0 j f g c k d hs=>?_
 simp only [AA]
 refine rg [0] hs ?_
 refine AB (fun e st=>Ck e st B Rw L [] [] [] (MC n  = some r)) ?_ ?_
 ·intro K4 i
  refine rg [5,6,7] hs ?_
  apply Aq
  refine AC (fun m e st=>∃ (b:Int),Ck e st B Rw L [(5,true,.list (a0.map avI) .none),(6,true,Am (a0.length:Int)),(7,true,Am b)] [] [] (Ht n a0 m b=some r)) n ⟨0,([]),Rw,ef hs,ef hs,d,h⟩ ?_
  rintro ml6 e st ⟨b,Xl6,Rl6,rfl,rfl,d,h⟩ Ul6 Vl6
  cases ml6 with
  | zero=>cases h
  | succ ml6 =>
  rw [Ht] at h
  exact go (tg (a:=([5,6,7,8],([5,6,7],[4,5,6,7],[4,5,6,7,12],([2],()),[5,6,7],[5,6,7],()),[],()))) h hs j f g c d trivial (q2 i (fun e s=>Vl6 ml6 e s (Nat.lt_succ_self _)))
 ·clear h;rintro e st ⟨Xk3,Rk3,rfl,rfl,d,h⟩
  rw [MC] at h
  refine td j f g c d ?_
  refine rg [2] hs ?_
  exact rt h hs c d
def Jd (n:Nat) (b:Vl):Option Int :=
 (LZ n ([BP b.int ((-999999999999999)) 999999999999999,BP b.scale 0 12])).bind fun g =>
 some (g)
theorem Xi (w0:World) (n:Nat) (B:Ao) (Rw:Av) (L:As) (a0:Vl) (r:Int) (h:Jd n a0=some r) :
  ACalls Tryz.prog w0 218 [.agg (a0.cs)] ⟨B,Rw,L⟩ fun x st=>x=Am r∧st=⟨B,Rw,L⟩:=by
 rw [Jd] at h
 refine hd [.tmp 2] Tryz.func218 Tryz.ntmps218 fun M0 W0 f c d b g e hs=>?_
 simp only [AA]
 exact go (tg (a:=([1],[9,2],()))) h hs f c d b e (q2 (G9 w0) (Zg w0 n)) trivial
def GO  (b:Int):Option Int :=
 some (b)
def Jo (b:Vl):Option Int :=
 if decide ((Dc (b.text.size:Int) 1024 5)=0) then
  if b.text.size≤maxLen then
   if !(Lib.validD b.text.data.toList) then
    GO  16
   else
    GO  (Dc (b.text.size:Int) 1024 5)
  else none
 else
  GO  (Dc (b.text.size:Int) 1024 5)
theorem WT (w0:World) (hT:Lib.Utf8Tabs 2 3 w0) (B:Ao) (Rw:Av) (L:As) (a0:Vl) (r:Int) (h:Jo a0=some r) :
  ACalls Tryz.prog w0 220 [.agg (a0.cs)] ⟨B,Rw,L⟩ fun x st=>x=Am r∧st=⟨B,Rw,L⟩:=by
 rw [Jo] at h
 refine hd [.tmp 2] Tryz.func220 Tryz.ntmps220 fun M0 W0 k d f c l i hs=>?_
 simp only [AA]
 refine rg [1] hs ?_
 refine rc 2 [1,3] hs ?_;intro K2 g
 refine Aw _ (Kx w0 _ _ _ (a0.text.size:Int) 1024 5) (hv hs) ?_
 refine ne hs g ?_
 clear g
 refine AB (fun e st=>∃ (b:Int),Ck e st B Rw L [(3,true,Am b)] [a0.cs] [] (GO  b=some r)) ?_ ?_
 ·intro K5 j
  exact go (tg (a:=(([3,15],([3],()),[3],()),[3,15],[3],()))) h hs k d f c i (q1 (ZO w0)) (q1 j)
 ·clear h;rintro e st ⟨b,Xk4,Rk4,rfl,rfl,i,h⟩
  rw [GO] at h
  refine td k d f c i ?_
  refine rg [2] hs ?_
  exact rt h hs c i
def Gu (b:Vl):Int :=
 Dc (b.text.size:Int) 1024 5
theorem Wi (w0:World) (B:Ao) (Rw:Av) (L:As) (a0:Vl) (r:Int) (h:Gu a0=r) :
  ACalls Tryz.prog w0 223 [.agg (a0.cs)] ⟨B,Rw,L⟩ fun x st=>x=Am r∧st=⟨B,Rw,L⟩:=by
 rw [Gu] at h
 refine hd [.tmp 2] Tryz.func223 Tryz.ntmps223 fun M0 W0 f c d b g e hs=>?_
 simp only [AA]
 exact go (tg (a:=([1],[2],()))) h hs f c d b e (q1 (Kx w0)) trivial
theorem UP (w0:World) (B:Ao) (Rw:Av) (L:As) (a0:Vl) :
  ACalls Tryz.prog w0 223 [.agg (a0.cs)] ⟨B,Rw,L⟩ fun x st=>x=Am (Gu a0)∧st=⟨B,Rw,L⟩:=Wi w0 B Rw L a0 _ rfl
def Gg (b:Vl):Int :=
 BP b.int ((-719162)) 2932896
theorem Wu (w0:World) (B:Ao) (Rw:Av) (L:As) (a0:Vl) (r:Int) (h:Gg a0=r) :
  ACalls Tryz.prog w0 224 [.agg (a0.cs)] ⟨B,Rw,L⟩ fun x st=>x=Am r∧st=⟨B,Rw,L⟩:=by
 rw [Gg] at h
 refine hd [.tmp 2] Tryz.func224 Tryz.ntmps224 fun M0 W0 f c d b g e hs=>?_
 simp only [AA]
 exact go (tg (a:=([1],[2],()))) h hs f c d b e (q1 (G9 w0)) trivial
theorem U4 (w0:World) (B:Ao) (Rw:Av) (L:As) (a0:Vl) :
  ACalls Tryz.prog w0 224 [.agg (a0.cs)] ⟨B,Rw,L⟩ fun x st=>x=Am (Gg a0)∧st=⟨B,Rw,L⟩:=Wu w0 B Rw L a0 _ rfl
def Gl (b:Vl):Int :=
 BP b.int ((-62135596800000)) 253402300799999
theorem Wq (w0:World) (B:Ao) (Rw:Av) (L:As) (a0:Vl) (r:Int) (h:Gl a0=r) :
  ACalls Tryz.prog w0 225 [.agg (a0.cs)] ⟨B,Rw,L⟩ fun x st=>x=Am r∧st=⟨B,Rw,L⟩:=by
 rw [Gl] at h
 refine hd [.tmp 2] Tryz.func225 Tryz.ntmps225 fun M0 W0 f c d b g e hs=>?_
 simp only [AA]
 exact go (tg (a:=([1],[2],()))) h hs f c d b e (q1 (G9 w0)) trivial
theorem UY (w0:World) (B:Ao) (Rw:Av) (L:As) (a0:Vl) :
  ACalls Tryz.prog w0 225 [.agg (a0.cs)] ⟨B,Rw,L⟩ fun x st=>x=Am (Gl a0)∧st=⟨B,Rw,L⟩:=Wq w0 B Rw L a0 _ rfl
def Gz (b:Vl):Int :=
 Dc (b.list.length:Int) 256 9
theorem Wp (w0:World) (B:Ao) (Rw:Av) (L:As) (a0:Vl) (r:Int) (h:Gz a0=r) :
  ACalls Tryz.prog w0 226 [.agg (a0.cs)] ⟨B,Rw,L⟩ fun x st=>x=Am r∧st=⟨B,Rw,L⟩:=by
 rw [Gz] at h
 refine hd [.tmp 2] Tryz.func226 Tryz.ntmps226 fun M0 W0 f c d b g e hs=>?_
 simp only [AA]
 exact go (tg (a:=([1],[2],()))) h hs f c d b e (q1 (Kx w0)) trivial
theorem U7 (w0:World) (B:Ao) (Rw:Av) (L:As) (a0:Vl) :
  ACalls Tryz.prog w0 226 [.agg (a0.cs)] ⟨B,Rw,L⟩ fun x st=>x=Am (Gz a0)∧st=⟨B,Rw,L⟩:=Wp w0 B Rw L a0 _ rfl
def JZ (n:Nat)  : Option Int :=
 some (0)
def DG (n:Nat) (h:Vl):Nat→Int→Option Int
 | 0,_=>none
 | m+1,b =>
  if decide (b<(h.fields.length:Int)) then
   (Cb h.fields b).bind fun g =>
   if g.1.size≤maxLen then
    if !(EZ g.1) then
     some (12)
    else
     if decide (0<b) then
      if A6 (b-1) then
       (Cb h.fields (b-1)).bind fun q =>
       if Gn g.1 q.1 then
        some (7)
       else
        if A6 (b-1) then
         if sLt g.1 q.1 then
          some (24)
         else
          if A6 (b+1) then
           (DG n h m) (b+1)
          else none
        else none
      else none
     else
      if A6 (b+1) then
       (DG n h m) (b+1)
      else none
   else none
  else
   JZ n 
def Jy (n:Nat) (b:Vl):Option Int :=
 if !(decide ((Dc (b.fields.length:Int) 64 9)=0)) then
  some (Dc (b.fields.length:Int) 64 9)
 else
  DG n b n 0
theorem W4 (w0:World) (n:Nat) (B:Ao) (Rw:Av) (L:As) (a0:Vl) (r:Int) (h:Jy n a0=some r) :
  ACalls Tryz.prog w0 227 [.agg (a0.cs)] ⟨B,Rw,L⟩ fun x st=>x=Am r∧st=⟨B,Rw,L⟩:=by
 rw [Jy] at h
 refine hd [.tmp 2] Tryz.func227 Tryz.ntmps227 fun M0 W0 l f g c o d hs=>?_
 simp only [AA]
 refine rg [1] hs ?_
 apply An;intro K2 j
 refine rc 2 [1,3] hs ?_;intro K3 i
 refine Aw _ (Kx w0 _ _ _ (a0.fields.length:Int) 64 9) (hv hs) ?_
 refine ne hs i ?_
 clear i
 refine rg [1,3,11] hs ?_
 refine BQ h hs ?_ ?_<;>intro hs h
 ·refine rg [2] hs ?_
  exact rt h hs c d
 refine sk [1] hs j ?_
 clear j
 refine AB (fun e st=>Ck e st B Rw L [] [a0.cs] [] (JZ n  = some r)) ?_ ?_
 ·intro K9 k
  refine rg [1,14,15,16] hs ?_
  apply Aq
  refine AC (fun m e st=>∃ (b:Int),Ck e st B Rw L [(1,true,.box B.length 0),(14,true,.list (a0.fields.map RO) .none),(15,true,Am (a0.fields.length:Int)),(16,true,Am b)] [a0.cs] [] (DG n a0 m b=some r)) n ⟨0,([]),Rw,ef hs,ef hs,d,h⟩ ?_
  rintro ml11 e st ⟨b,Xl11,Rl11,rfl,rfl,d,h⟩ Ul11 Vl11
  cases ml11 with
  | zero=>cases h
  | succ ml11 =>
  rw [DG] at h
  exact go (tg (a:=([1,14,15,16,17],([1,14,15,16],[1,4,5,14,15,16],[1,4,5,14,15,16,21],([2],()),([15,1,4,5,14,15,16,26],([2],()),[15,1,14,15,16,41],([2],()),[1,14,15,16],[1,14,15,16],()),[15,1,4,5,14,15,16,26],[15,1,14,15,16,41],[1,14,15,16],[1,14,15,16],()),[],()))) h hs l f g c d (q1 (Ol w0)) (q2 k (fun e s=>Vl11 ml11 e s (Nat.lt_succ_self _)))
 ·clear h;rintro e st ⟨Xk8,Rk8,rfl,rfl,d,h⟩
  rw [JZ] at h
  refine td l f g c d ?_
  refine rg [2] hs ?_
  exact rt h hs c d
def LV (b:Vl):Bool :=
 (((((((((decide (b.kind=1))||(decide (b.kind=2)))||(decide (b.kind=6)))||(decide (b.kind=7)))||(decide (b.kind=3)))||(decide (b.int=0)))&&((decide (b.kind=3))||(decide (b.scale=0))))&&((((decide (b.kind=4))||(decide (b.kind=5)))||(decide (b.kind=10)))||(Gn b.text (⟨#[]⟩:ByteArray))))&&(((decide (b.kind=8))||(decide (b.kind=10)))||(decide ((b.list.length:Int)=0))))&&((decide (b.kind=9))||(decide ((b.fields.length:Int)=0)))
theorem ZbN (w0:World) (B:Ao) (Rw:Av) (L:As) (a0:Vl) (r:Bool) (h:LV a0=r) :
  ACalls Tryz.prog w0 148 [.agg (a0.cs)] ⟨B,Rw,L⟩ fun x st=>x = .val (.bool r)∧st=⟨B,Rw,L⟩:=by
 rw [LV] at h
 refine hd [.tmp 2] Tryz.func148 Tryz.ntmps148 fun M0 W0 f c d b g e hs=>?_
 simp only [AA]
 exact go (tg (a:=([1],[1,3],[1,3,4],[1,3,4,5],[2],()))) h (al hs) f c d b e trivial trivial
theorem Zp (w0:World) (B:Ao) (Rw:Av) (L:As) (a0:Vl) :
  ACalls Tryz.prog w0 148 [.agg (a0.cs)] ⟨B,Rw,L⟩ fun x st=>x = .val (.bool (LV a0))∧st=⟨B,Rw,L⟩:=ZbN w0 B Rw L a0 _ rfl
def Bo (n:Nat)  : List (Nat × Vl)→Int→Option Int
 | [],b3_r7 =>
  some (0)
 | p_r7::rest,b3_r7 =>
  if A6 (b3_r7+1) then
   if decide (4096<(b3_r7+1)) then
    some (9)
   else
    if decide (8<(p_r7.1:Int)) then
     some (23)
    else
     if Fe p_r7.2 then
      some (19)
     else
      if (decide (p_r7.2.kind<1))||(decide (10<p_r7.2.kind)) then
       some (11)
      else
       if !(LV p_r7.2) then
        some (3)
       else
        if decide (p_r7.2.kind=0) then
         none
        else
         if decide (p_r7.2.kind=1) then
          if !(decide ((F6 p_r7.2)=0)) then
           some (F6 p_r7.2)
          else
           (Bo n rest) (b3_r7+1)
         else
          if decide (p_r7.2.kind=2) then
           if !(decide ((Gq p_r7.2)=0)) then
            some (Gq p_r7.2)
           else
            (Bo n rest) (b3_r7+1)
          else
           if decide (p_r7.2.kind=3) then
            (Jd n p_r7.2).bind fun q =>
            if !(decide (q=0)) then
             some (q)
            else
             (Bo n rest) (b3_r7+1)
           else
            if decide (p_r7.2.kind=4) then
             (Jo p_r7.2).bind fun g =>
             if !(decide (g=0)) then
              some (g)
             else
              (Bo n rest) (b3_r7+1)
            else
             if decide (p_r7.2.kind=5) then
              if !(decide ((Gu p_r7.2)=0)) then
               some (Gu p_r7.2)
              else
               (Bo n rest) (b3_r7+1)
             else
              if decide (p_r7.2.kind=6) then
               if !(decide ((Gg p_r7.2)=0)) then
                some (Gg p_r7.2)
               else
                (Bo n rest) (b3_r7+1)
              else
               if decide (p_r7.2.kind=7) then
                if !(decide ((Gl p_r7.2)=0)) then
                 some (Gl p_r7.2)
                else
                 (Bo n rest) (b3_r7+1)
               else
                if decide (p_r7.2.kind=8) then
                 if !(decide ((Gz p_r7.2)=0)) then
                  some (Gz p_r7.2)
                 else
                  (Bo n rest) (b3_r7+1)
                else
                 if decide (p_r7.2.kind=9) then
                  (Jy n p_r7.2).bind fun h =>
                  if !(decide (h=0)) then
                   some (h)
                  else
                   (Bo n rest) (b3_r7+1)
                 else
                  if decide (p_r7.2.kind=10) then
                   (Im p_r7.2).bind fun b =>
                   if !(decide (b=0)) then
                    some (b)
                   else
                    (Bo n rest) (b3_r7+1)
                  else
                   none
  else none
def GY (n:Nat) (b:Vl):Option Int :=
 if b.depth<4611686018427387904∧b.wide=true then
  Bo n (F4 1 b) 0
 else none
theorem O1 (w0:World) (hT:Lib.Utf8Tabs 2 3 w0) (n:Nat) (B:Ao) (Rw:Av) (L:As) (a0:Vl) (r:Int) (h:GY n a0=some r) :
  ACalls Tryz.prog w0 60 [.agg (a0.cs)] ⟨B,Rw,L⟩ fun x st=>x=Am r∧st=⟨B,Rw,L⟩:=by
 rw [GY] at h
 refine hd [.cell 2 41] Tryz.func60 Tryz.ntmps60 fun M0 W0 o g f b hu j hs=>?_
 simp only [AA]
 refine rg [1,2] hs ?_
 apply An;intro K2 F
 apply Ax 2 [1,2,3]
 rw [Ap];simp +decide only [go_sem,Nat.reduceAdd,Ul]
 (repeat' apply Ae)<;>first | refine Aw _ (ZdY w0 _ _ _ ) (by first | rfl | (simp +decide only [go_sem,Nat.reduceAdd,Ul];done) | (simp +decide only [go_sem,Nat.reduceAdd,Vl.cs,Ty.cs,Ul];done)) ?_ | exact cl
 rw [Ap];simp +decide only [go_sem,Nat.reduceAdd,Ul]
 (repeat' apply Ae)<;>first | refine F _ _ ?_ | exact cl
 clear F
 refine rg [1,2,3,4] hs ?_
 apply An;intro K4 O
 refine rc 2 [2,3,4,10] hs ?_;intro K5 w
 refine ET _ (RA w0 _ _ _ a0) (hv hs) ?_;rintro _ _ ⟨rfl,rfl⟩
 refine ne hs w ?_
 clear w
 apply Aq
 obtain ⟨ai,h⟩:=Au h
 refine VY (JM a0) (fun st=>st.boxes[(B.length+4)]? = some a0.cs) (fun i st=>∃ (d:Int) (Rr7:Av),st=⟨B++([a0.cs,[Am 0],[.val .nilFunc,.clo 215 [],.clo 217 [],.clo 218 [],.clo 220 [],.clo 223 [],.clo 224 [],.clo 225 [],.clo 226 [],.clo 227 [],.clo 228 []],[Am d],a0.cs]),Rr7,L⟩∧Owns Rw Rr7 []∧Bo n ((F4 1 a0).drop i) d=some r) (fun ex st=>ex = .ret∧∃ (z0:List AV) (z2:List AV) (z3:List AV) (z4:List AV) (rows:Av),st=⟨B++[z0,[Am r],z2,z3,z4],rows,L⟩∧Owns Rw rows []) ev ev (OK w0 a0 ai _) (fun x H=>SK a0 x H) (by decide) ?_ ⟨0,Rw,ef hs,j,h⟩ (fun _ _ h => .inl h.1) ?_ ?_ ?_
 ·rintro i st la ⟨d,Rr7,rfl,j,h⟩ _ _;simp +decide [St.push]
 ·rintro i s1 ⟨XB,XR,XL⟩ x M1 W1 l la E hX hI aj ag H C K hK
  obtain ⟨c,ah,rfl,hi⟩:=To a0 i x H
  (try simp only at hX)
  subst hX
  obtain ⟨d,Rr7,rfl,j,h⟩:=hI
  rw [Yn ah,Bo] at h
  have m:=j
  simp only [St.ext,St.push,List.append_assoc,List.append_nil]
  refine rg [2,3,4,5,12] hs ?_
  apply Ax 1 [2,3,4,5,6]
  rw [Ap];simp +decide only [go_sem,Nat.reduceAdd]
  (repeat' apply Ae)<;>first | refine hK _ _ (by simp [St.ext,St.push]) (fun KQ v=>?_) | exact cl
  clear hK
  dsimp only [St.ext,St.push]
  have kr:∀ (e:Env) (x:Int),x=r→∀ G,KQ .ret e ⟨B++(a0.cs::[Am x]::[.val .nilFunc,.clo 215 [],.clo 217 [],.clo 218 [],.clo 220 [],.clo 223 [],.clo 224 [],.clo 225 [],.clo 226 [],.clo 227 [],.clo 228 []]::[Am (d+1)]::a0.cs::(XB++G)),Rr7,L++E::XL⟩:=by
   intro e x H G
   rw [H]
   exact v _ _ _ ⟨⟨B++[a0.cs,[Am r],[.val .nilFunc,.clo 215 [],.clo 217 [],.clo 218 [],.clo 220 [],.clo 223 [],.clo 224 [],.clo 225 [],.clo 226 [],.clo 227 [],.clo 228 []],[Am (d+1)],a0.cs],Rr7,L⟩,G,by simp only [List.append_assoc,List.cons_append,List.nil_append],⟨by simp,by first | exact Nat.le_refl _ | (have:=j.len;simp;omega),rfl⟩,rfl,⟨rfl,_,_,_,_,Rr7,rfl,j.sub (List.nil_sublist _)⟩,.inr (Tu C m j rfl (ln j m) ap_ ow)⟩
  have p:∀ (e:Env) (G:Ao),Bo n ((F4 1 a0).drop (i+1)) (d+1)=some r→KQ .normal e ⟨B++(a0.cs::[Am 0]::[.val .nilFunc,.clo 215 [],.clo 217 [],.clo 218 [],.clo 220 [],.clo 223 [],.clo 224 [],.clo 225 [],.clo 226 [],.clo 227 [],.clo 228 []]::[Am (d+1)]::a0.cs::(XB++G)),Rr7,L++E::XL⟩:=fun e G h=>v _ _ _ ⟨⟨B++[a0.cs,[Am 0],[.val .nilFunc,.clo 215 [],.clo 217 [],.clo 218 [],.clo 220 [],.clo 223 [],.clo 224 [],.clo 225 [],.clo 226 [],.clo 227 [],.clo 228 []],[Am (d+1)],a0.cs],Rr7,L⟩,G,by simp only [List.append_assoc,List.cons_append,List.nil_append],⟨by simp,by first | exact Nat.le_refl _ | (have:=j.len;simp;omega),rfl⟩,rfl,⟨(d+1),Rr7,rfl,j,h⟩,.inr (Tu C m j rfl (ln j m) ap_ ow)⟩
  apply Aq
  obtain ⟨am,h⟩:=Au h
  refine rg [2,3,4,5,6] hs ?_
  apply An;intro K11 t
  apply Aq
  refine rg [2,3,5,6,15] hs ?_
  refine BQ h hs ?_ ?_<;>intro hs h
  ·have Q:=hs.1
   exact go (tg (a:=([2],()))) h hs o g f b j trivial (q2 kr p)
  have Q:=hs.1
  refine rg [2,3,6,18] hs ?_
  refine BQ h hs ?_ ?_<;>intro hs h
  ·have V:=hs.1
   exact go (tg (a:=([2],()))) h hs o g f b j trivial (q2 kr p)
  have V:=hs.1
  refine rc 2 [2,3,6,21] hs ?_;intro K18 u
  refine Aw _ (WB w0 _ _ _ c.2) (hv hs) ?_
  refine ne hs u ?_
  clear u
  refine BQ h hs ?_ ?_<;>intro hs h
  ·have U:=hs.1
   exact go (tg (a:=([2],()))) h hs o g f b j trivial (q2 kr p)
  have U:=hs.1
  refine rg [2,3,6,24] hs ?_
  refine BQ h hs ?_ ?_<;>intro hs h
  ·have af:=hs.1
   exact go (tg (a:=([2],()))) h hs o g f b j trivial (q2 kr p)
  have af:=hs.1
  refine rc 2 [2,3,6,33] hs ?_;intro K24 q
  refine Aw _ (Zp w0 _ _ _ c.2) (hv hs) ?_
  refine ne hs q ?_
  clear q
  refine BQ h hs ?_ ?_<;>intro hs h
  ·have Y:=hs.1
   exact go (tg (a:=([2],()))) h hs o g f b j trivial (q2 kr p)
  have Y:=hs.1
  refine sk [2,3,6] hs t ?_
  clear t
  apply An;intro K27 k
  rcases Bool.eq_false_or_eq_true (decide (c.2.kind=0)) with hf28 | hf28
  ·replace h:=A7 h hf28
   have ak:c.2.kind=0:=of_decide_eq_true hf28
   cases h
  ·replace h:=A8 h hf28
   rcases Bool.eq_false_or_eq_true (decide (c.2.kind=1)) with hf30 | hf30
   ·replace h:=A7 h hf30
    have ae:c.2.kind=1:=of_decide_eq_true hf30
    exact go (tg (a:=([7,2,7],[2,7,44],([2],()),([]:List Nat),()))) h (Ae ae (Ae hf30 (Ae hf28 hs))) o g f b j (q1 (UK w0)) (q3 kr p k)
   ·replace h:=A8 h hf30
    rcases Bool.eq_false_or_eq_true (decide (c.2.kind=2)) with hf35 | hf35
    ·replace h:=A7 h hf35
     have J:c.2.kind=2:=of_decide_eq_true hf35
     exact go (tg (a:=([7,2,7],[2,7,44],([2],()),([]:List Nat),()))) h (Ae J (Ae hf35 (Ae hf30 (Ae hf28 hs)))) o g f b j (q1 (UV w0)) (q3 kr p k)
    ·replace h:=A8 h hf35
     rcases Bool.eq_false_or_eq_true (decide (c.2.kind=3)) with hf40 | hf40
     ·replace h:=A7 h hf40
      have Z:c.2.kind=3:=of_decide_eq_true hf40
      exact go (tg (a:=([7,2,7],[2,7,44],([2],()),([]:List Nat),()))) h (Ae Z (Ae hf40 (Ae hf35 (Ae hf30 (Ae hf28 hs))))) o g f b j (q1 (Xi w0 n)) (q3 kr p k)
     ·replace h:=A8 h hf40
      rcases Bool.eq_false_or_eq_true (decide (c.2.kind=4)) with hf46 | hf46
      ·replace h:=A7 h hf46
       have D:c.2.kind=4:=of_decide_eq_true hf46
       exact go (tg (a:=([7,2,7],[2,7,44],([2],()),([]:List Nat),()))) h (Ae D (Ae hf46 (Ae hf40 (Ae hf35 (Ae hf30 (Ae hf28 hs)))))) o g f b j (q1 (WT w0 hT)) (q3 kr p k)
      ·replace h:=A8 h hf46
       rcases Bool.eq_false_or_eq_true (decide (c.2.kind=5)) with hf52 | hf52
       ·replace h:=A7 h hf52
        have y:c.2.kind=5:=of_decide_eq_true hf52
        exact go (tg (a:=([7,2,7],[2,7,44],([2],()),([]:List Nat),()))) h (Ae y (Ae hf52 (Ae hf46 (Ae hf40 (Ae hf35 (Ae hf30 (Ae hf28 hs))))))) o g f b j (q1 (UP w0)) (q3 kr p k)
       ·replace h:=A8 h hf52
        rcases Bool.eq_false_or_eq_true (decide (c.2.kind=6)) with hf57 | hf57
        ·replace h:=A7 h hf57
         have ab:c.2.kind=6:=of_decide_eq_true hf57
         exact go (tg (a:=([7,2,7],[2,7,44],([2],()),([]:List Nat),()))) h (Ae ab (Ae hf57 (Ae hf52 (Ae hf46 (Ae hf40 (Ae hf35 (Ae hf30 (Ae hf28 hs)))))))) o g f b j (q1 (U4 w0)) (q3 kr p k)
        ·replace h:=A8 h hf57
         rcases Bool.eq_false_or_eq_true (decide (c.2.kind=7)) with hf62 | hf62
         ·replace h:=A7 h hf62
          have z:c.2.kind=7:=of_decide_eq_true hf62
          exact go (tg (a:=([7,2,7],[2,7,44],([2],()),([]:List Nat),()))) h (Ae z (Ae hf62 (Ae hf57 (Ae hf52 (Ae hf46 (Ae hf40 (Ae hf35 (Ae hf30 (Ae hf28 hs))))))))) o g f b j (q1 (UY w0)) (q3 kr p k)
         ·replace h:=A8 h hf62
          rcases Bool.eq_false_or_eq_true (decide (c.2.kind=8)) with hf67 | hf67
          ·replace h:=A7 h hf67
           have N:c.2.kind=8:=of_decide_eq_true hf67
           exact go (tg (a:=([7,2,7],[2,7,44],([2],()),([]:List Nat),()))) h (Ae N (Ae hf67 (Ae hf62 (Ae hf57 (Ae hf52 (Ae hf46 (Ae hf40 (Ae hf35 (Ae hf30 (Ae hf28 hs)))))))))) o g f b j (q1 (U7 w0)) (q3 kr p k)
          ·replace h:=A8 h hf67
           rcases Bool.eq_false_or_eq_true (decide (c.2.kind=9)) with hf72 | hf72
           ·replace h:=A7 h hf72
            have aa:c.2.kind=9:=of_decide_eq_true hf72
            exact go (tg (a:=([7,2,7],[2,7,44],([2],()),([]:List Nat),()))) h (Ae aa (Ae hf72 (Ae hf67 (Ae hf62 (Ae hf57 (Ae hf52 (Ae hf46 (Ae hf40 (Ae hf35 (Ae hf30 (Ae hf28 hs))))))))))) o g f b j (q1 (W4 w0 n)) (q3 kr p k)
           ·replace h:=A8 h hf72
            rcases Bool.eq_false_or_eq_true (decide (c.2.kind=10)) with hf78 | hf78
            ·replace h:=A7 h hf78
             have ad:c.2.kind=10:=of_decide_eq_true hf78
             exact go (tg (a:=([7,2,7],[2,7,44],([2],()),([]:List Nat),()))) h (Ae ad (Ae hf78 (Ae hf72 (Ae hf67 (Ae hf62 (Ae hf57 (Ae hf52 (Ae hf46 (Ae hf40 (Ae hf35 (Ae hf30 (Ae hf28 hs)))))))))))) o g f b j (q1 (UT w0)) (q3 kr p k)
            ·replace h:=A8 h hf78
             cases h
 ·rintro s la ⟨XB,XR,XL⟩ hXR ⟨d,Rr7,rfl,j,h⟩ _ _
  simp only at hXR
  subst hXR
  rw [List.drop_eq_nil_of_le (by rw [OI];exact Nat.le_refl _),Bo] at h
  simp only [St.ext,St.push,List.append_assoc,List.append_nil]
  (repeat' apply Ae)<;>first | refine O _ _ ?_ | exact cl
  clear O
  refine VN (bs:=[a0.cs,[Am 0],[.val .nilFunc,.clo 215 [],.clo 217 [],.clo 218 [],.clo 220 [],.clo 223 [],.clo 224 [],.clo 225 [],.clo 226 [],.clo 227 [],.clo 228 []],[Am d],a0.cs]) o g f rfl b j ow ow ?_
  refine rg [2] hs ?_
  exact rt h hs b j
 ·rintro ex s la ⟨XB,XR,XL⟩ hXR ⟨rfl,z0,z2,z3,z4,rows,rfl,j⟩ _ _
  simp only at hXR
  subst hXR
  simp only [St.ext,St.push,List.append_assoc,List.append_nil]
  simp +decide only [go_sem,Nat.reduceAdd]
  (repeat' with_reducible apply Ae)<;>first | refine Zi6 b rfl j.pre ev ⟨?_,rfl⟩ | (intros;omega) | (intros;simp_all;done)
  first | rfl | (simp +decide only [go_sem,Nat.reduceAdd];done)
def BZ (b:Int) (h:Int) (g:Int):Bool :=
 (decide (b<h))||(decide (g<b))
def DF (b:Vl):Bool :=
 (((((!((((decide (1≤b.kind))&&(decide (b.kind≤3)))||(decide (b.kind=6)))||(decide (b.kind=7))))&&(!(decide (b.int=0))))||((!(decide (b.kind=3)))&&(!(decide (b.scale=0)))))||((!(((decide (b.kind=4))||(decide (b.kind=5)))||(decide (b.kind=10))))&&(!(Gn b.text (⟨#[]⟩:ByteArray)))))||((!((decide (b.kind=8))||(decide (b.kind=10))))&&(decide (0<(b.list.length:Int)))))||((!(decide (b.kind=9)))&&(decide (0<(b.fields.length:Int))))
def BO (b:Ty) (h:Int) (g:Int):Bool :=
 ((decide (h≤b.min))&&(decide (b.max≤g)))&&(decide (b.min≤b.max))
def LI (b:Int) (g:Bool):(Int × Int) :=
 if g then
  (0,1024)
 else
  if decide (b=6) then
   ((-719162),2932896)
  else
   if decide (b=7) then
    ((-62135596800000),253402300799999)
   else
    (0,256)
def MG (b:Int) (g:Bool):(Int × Int) :=
 if g then
  ((-999999999999999),999999999999999)
 else
  if decide (b=4) then
   LI b true
  else
   LI b (decide (b=5))
def AW (b:Int):(Int × Int) :=
 if decide (b=2) then
  MG b true
 else
  MG b (decide (b=3))
def Bg (b:Ty):Bool :=
 (((((!(decide (2≤b.kind)&&decide (b.kind≤8)))&&((!(decide (b.min=0)))||(!(decide (b.max=0)))))||((!(decide (b.kind=3)))&&(!(decide (b.scale=0)))))||((!(decide (b.kind=4)))&&(decide (0<(b.words.length:Int)))))||((!(decide (b.kind=8)))&&(decide (0<(b.elem.length:Int)))))||(((!(decide (b.kind=9)))&&(!(decide (b.kind=10))))&&(decide (0<(b.fields.length:Int))))
theorem Yx {j:Nat}:((j+1:Nat):Int)-1=(j:Int):=by omega
theorem Zas {j:Nat}:decide (0<((j+1:Nat):Int))=true:=Ah (by omega)
theorem ZaA {k:Nat} (h:k<1000000000000):A6 (k:Int):=by unfold A6;omega
def ZbP:Option ByteArray→List ByteArray→Int
 | _,[]=>0
 | none,x::r=>if EZ x=true then ZbP (some x) r else 12
 | some p,x::r=>if EZ x=true then (if Gn x p=true then 7 else if sLt x p=true then 24 else ZbP (some x) r) else 12
def Zy (l:List (ByteArray × Vl)):Nat→Option ByteArray
 | 0=>none
 | i+1=>(l[i]?).map Prod.fst
theorem ZaE (n:Nat) (v:Vl) (hl:(v.fields).length≤1000000000000) (hz:∀ p∈v.fields,p.1.size≤maxLen):∀ (k m i:Nat),i+k=(v.fields).length→k<m→DG n v m i=some (ZbP (Zy (v.fields) i) (((v.fields).map Prod.fst).drop i))
 | k,0,i,_,h=>absurd h (Nat.not_lt_zero _)
 | 0,m+1,i,hi,_=>by
  rw [DG,AD,Ac]
  simp only [Bool.false_eq_true,if_false,JZ]
  rw [List.drop_eq_nil_of_le (by rw [List.length_map];omega)]
  cases Zy (v.fields) i<;>rfl
 | k+1,m+1,i,hi,hm=>by
  have a:i<(v.fields).length:=by omega
  have ih:=ZaE n v hl hz k m (i+1) (by omega) (by omega)
  rw [DG,AD,Ah a]
  simp only [if_true,AH a,Af]
  rw [Ai (hz _ (List.getElem_mem a)),List.drop_eq_getElem_cons (by rw [List.length_map];omega),List.getElem_map]
  have e:Zy (v.fields) (i+1)=some (v.fields)[i].1:=by simp only [Zy,List.getElem?_eq_getElem a];rfl
  rw [e] at ih
  cases i with
  | zero =>
   simp only [Zy,ZbP]
   by_cases hb:EZ (v.fields)[0].1=true
   ·rw [Ai hb,hb]
    simp only [Bool.not_true,Bool.false_eq_true,if_false]
    rw [Aj (by decide),Ai (AG (by omega))]
    exact ih
   ·rw [Aj hb,Bool.eq_false_iff.2 hb];rfl
  | succ j =>
   have b:j<(v.fields).length:=by omega
   have c:Zy (v.fields) (j+1)=some (v.fields)[j].1:=by simp only [Zy,List.getElem?_eq_getElem b];rfl
   rw [c]
   simp only [ZbP]
   by_cases hb:EZ (v.fields)[j+1].1=true
   ·rw [Ai hb,hb]
    simp only [Bool.not_true,Bool.false_eq_true,if_false,Zas,if_true,Yx]
    have d:A6 (j:Int):=ZaA (by omega)
    simp only [Ai d,AH b,Af]
    by_cases h1:Gn (v.fields)[j+1].1 (v.fields)[j].1=true
    ·rw [Ai h1,Ai h1]
    ·rw [Aj h1,Aj h1]
     by_cases h2:sLt (v.fields)[j+1].1 (v.fields)[j].1=true
     ·rw [Ai h2,Ai h2]
     ·rw [Aj h2,Aj h2,Ai (AG (by omega))]
      exact ih
   ·rw [Aj hb,Bool.eq_false_iff.2 hb];rfl
def Fj (v:Vl):Int :=
 if Fe v=true then 19
 else if v.kind<1∨10<v.kind then 11
 else if DF v=true then 3
 else if v.kind=1 then (if BZ v.int 0 1=true then 2 else 0)
 else if v.kind=2 then (if BZ v.int (-999999999999999) 999999999999999=true∨BZ v.scale 0 12=true then 2 else 0)
 else if v.kind=3 then (if BZ v.int (-999999999999999) 999999999999999=true∨BZ v.scale 0 12=true then 2 else 0)
 else if v.kind=4 then (if 1024<v.text.size then 5 else if Lib.validD v.text.data.toList=true then 0 else 16)
 else if v.kind=5 then (if 1024<v.text.size then 5 else 0)
 else if v.kind=6 then (if BZ v.int (-719162) 2932896=true then 2 else 0)
 else if v.kind=7 then (if BZ v.int (-62135596800000) 253402300799999=true then 2 else 0)
 else if v.kind=8 then (if 256<v.list.length then 9 else 0)
 else if v.kind=9 then (if 64<v.fields.length then 9 else ZbP none (v.fields.map Prod.fst))
 else if EZ v.text=true then (if v.list.length=0 then 4 else if 1<v.list.length then 3 else 0) else 12
theorem Hy {k:Int} (h:¬ (k<1∨10<k)):k=1∨k=2∨k=3∨k=4∨k=5∨k=6∨k=7∨k=8∨k=9∨k=10:=by omega
theorem Ze6 (v:Vl) (h:¬ (v.kind<1∨10<v.kind)):LV v = !DF v:=by
 have a:∀ x:Nat,decide (0<(x:Int)) = !decide ((x:Int)=0):=fun x=>by
  by_cases h:x=0
  ·subst h;rfl
  ·rw [Ah (show 0<(x:Int) by omega),Ag (show ¬ (x:Int)=0 by omega)];rfl
 rw [LV,DF]
 simp only [a]
 rcases Hy h with hk | hk | hk | hk | hk | hk | hk | hk | hk | hk<;>simp only [hk]<;>simp [Bool.and_assoc]
theorem ZhJ (n:Nat) (hn:3≤n) (a b:Int):LZ n [a,b]=some (if a=0 then b else a):=by
 obtain ⟨m,rfl⟩:∃ m,n=m+3:=⟨n-3,by omega⟩
 rw [LZ,Ht]
 simp only [List.length_cons,List.length_nil]
 rw [Ai (by simp),show Cb [a,b] 0=some a from rfl]
 simp only [Af]
 by_cases h:a=0
 ·rw [Ah h,Aj (by decide),Ai (by decide),Ai h,Ht]
  simp only [List.length_cons,List.length_nil]
  rw [Ai (by simp),show Cb [a,b] (0+1)=some b from rfl]
  simp only [Af]
  by_cases h2:b=0
  ·rw [Ah h2,Aj (by decide),Ai (by decide),Ht]
   simp only [List.length_cons,List.length_nil]
   rw [Aj (by simp),MC,h2]
  ·rw [Ag h2,Ai (by decide)]
 ·rw [Ag h,Ai (by decide),Aj h]
theorem ZcS (n:Nat) (hn:3≤n) (v:Vl) (hfl:v.fields.length<n) (hs:v.fields.length≤1000000000000) (hv:v.ok) (h1:¬ Fe v=true) (h2:¬ (v.kind<1∨10<v.kind)) (h3:¬ DF v=true) :
  (v.kind=1→F6 v=Fj v)∧(v.kind=2→Gq v=Fj v)∧(v.kind=3→Jd n v=some (Fj v))∧(v.kind=4→Jo v=some (Fj v))∧(v.kind=5→Gu v=Fj v) ∧
  (v.kind=6→Gg v=Fj v)∧(v.kind=7→Gl v=Fj v)∧(v.kind=8→Gz v=Fj v)∧(v.kind=9→Jy n v=some (Fj v))∧(v.kind=10→Im v=some (Fj v)):=by
 obtain ⟨f,_,d⟩:=v.ok_eq.1 hv
 have g:∀ p∈v.fields,p.1.size≤maxLen:=fun p i=>Zj (by have:=(d p i).1;omega)
 have c:v.text.size≤maxLen:=Zj f
 rw [Fj,Aj h1,Aj h2,Aj h3]
 refine ⟨fun a=>?_,fun a=>?_,fun a=>?_,fun a=>?_,fun a=>?_,fun a=>?_,fun a=>?_,fun a=>?_,fun a=>?_,fun a=>?_⟩
 ·simp [a,F6,BP,BZ]
 ·have b:v.scale=0:=by
   rw [DF] at h3
   simp [a] at h3
   exact h3.1.1.1
  simp [a,b,Gq,BP,BZ]
 ·rw [Jd,ZhJ n hn]
  simp [a,BP,BZ]
  by_cases q:v.int < -999999999999999∨999999999999999<v.int
  ·simp [q];omega
  ·simp [q];omega
 ·rw [Jo]
  simp only [a,Dc,GO,Ai c]
  simp
  (repeat' split)<;>first | rfl | (exfalso;omega) | simp_all
 ·simp [a,Gu,Dc]
  (repeat' split)<;>first | rfl | (exfalso;omega) | simp_all
 ·simp [a,Gg,BP,BZ]
 ·simp [a,Gl,BP,BZ]
 ·simp [a,Gz,Dc]
  (repeat' split)<;>first | rfl | (exfalso;omega) | simp_all
 ·rw [Jy]
  by_cases h:64<v.fields.length
  ·simp [a,Dc,h,show (64:Int)<(v.fields.length:Int) by omega]
  ·have e:=ZaE n v hs g v.fields.length n 0 (by omega) hfl
   simp only [List.drop_zero] at e
   simp only [a,Dc,Ag (show ¬ (64:Int)<(v.fields.length:Int) by omega),Bool.false_eq_true,if_false,decide_true,Bool.not_true,Aj h]
   exact e
 ·rw [Im,Ai c]
  simp only [a,Dc]
  simp
  (repeat' split)<;>first | rfl | (exfalso;omega) | simp_all
theorem Zf7 (n:Nat) (hn:3≤n) (lv:Nat) (v:Vl) (rest:List (Nat × Vl)) (c:Int) (hfl:v.fields.length<n) (hs:v.fields.length≤1000000000000) (hv:v.ok) :
  Bo n ((lv,v)::rest) c=if A6 (c+1) then (if 4096<c+1 then some 9 else if 8<(lv:Int) then some 23 else if Fj v=0 then Bo n rest (c+1) else some (Fj v)) else none:=by
 rw [Bo]
 by_cases hI:A6 (c+1)
 rotate_left
 ·rw [Aj hI,Aj hI]
 rw [Ai hI,Ai hI]
 by_cases q1:4096<c+1
 ·rw [Ai q1,Ai (Ah q1)]
 rw [Aj q1,Aj (by simpa using q1)]
 by_cases q2:8<(lv:Int)
 ·rw [Ai q2,Ai (Ah q2)]
 rw [Aj q2,Aj (by simpa using q2)]
 simp only
 by_cases h1:Fe v=true
 ·have:Fj v=19:=by rw [Fj,Ai h1]
  rw [Ai h1,this];rfl
 rw [Aj h1]
 by_cases h2:v.kind<1∨10<v.kind
 ·have:Fj v=11:=by rw [Fj,Aj h1,Ai h2]
  rw [Ai (by simpa using h2),this];rfl
 rw [Aj (by simpa using h2),Ze6 v h2]
 by_cases h3:DF v=true
 ·have:Fj v=3:=by rw [Fj,Aj h1,Aj h2,Ai h3]
  rw [h3,this];rfl
 rw [Bool.eq_false_iff.2 h3]
 obtain ⟨b,k,d,f,i,g,h,j,l,a⟩:=ZcS n hn v hfl hs hv h1 h2 h3
 rcases Hy h2 with hk | hk | hk | hk | hk | hk | hk | hk | hk | hk
 ·have e:=b hk;by_cases z:Fj v=0<;>simp [hk,e,z]
 ·have e:=k hk;by_cases z:Fj v=0<;>simp [hk,e,z]
 ·have e:=d hk;by_cases z:Fj v=0<;>simp [hk,e,z]
 ·have e:=f hk;by_cases z:Fj v=0<;>simp [hk,e,z]
 ·have e:=i hk;by_cases z:Fj v=0<;>simp [hk,e,z]
 ·have e:=g hk;by_cases z:Fj v=0<;>simp [hk,e,z]
 ·have e:=h hk;by_cases z:Fj v=0<;>simp [hk,e,z]
 ·have e:=j hk;by_cases z:Fj v=0<;>simp [hk,e,z]
 ·have e:=l hk;by_cases z:Fj v=0<;>simp [hk,e,z]
 ·have e:=a hk;by_cases z:Fj v=0<;>simp [hk,e,z]
def V2:List (Nat × Vl)→Int→Int
 | [],_=>0
 | p::r,c=>if 4096<c+1 then 9 else if 8<(p.1:Int) then 23 else if Fj p.2=0 then V2 r (c+1) else Fj p.2
def Tn (v:Vl):Int:=V2 (F4 1 v) 0
theorem V9 {v x:Vl} (h:x∈BK v):x∈v.list∨∃ p∈v.fields,p.2=x:=by
 unfold BK at h
 split at h
 ·exact .inl h
 ·split at h
  ·obtain ⟨p,a,rfl⟩:=List.mem_map.1 h;exact .inr ⟨p,a,rfl⟩
  ·simp at h
theorem MD {v x:Vl} (h:x∈BK v):x.size<v.size:=by
 rcases V9 h with h | ⟨p,hp,rfl⟩
 ·exact v.list_size x h
 ·exact v.field_size p hp
theorem Zco {v x:Vl} (hv:v.ok) (h:x∈BK v):x.ok:=by
 obtain ⟨_,a,b⟩:=v.ok_eq.1 hv
 rcases V9 h with h | ⟨p,hp,rfl⟩
 ·exact a x h
 ·exact (b p hp).2
theorem ZcN:∀ (k:Nat) (v:Vl) (lv:Nat),v.size≤k→v.ok→∀ p∈F4 lv v,p.2.ok∧p.2.size≤v.size
 | 0,v,lv,h,hv,p,hp=>absurd h (by have:=v.size_eq;omega)
 | k+1,v,lv,h,hv,p,hp=>by
  rw [PY] at hp
  rcases List.mem_cons.1 hp with rfl | hp
  ·exact ⟨hv,Nat.le_refl _⟩
  ·obtain ⟨x,a,hp⟩:=List.mem_flatMap.1 hp
   have:=MD a
   obtain ⟨b,c⟩:=ZcN k x (lv+1) (by omega) (Zco hv a) p hp
   exact ⟨b,by omega⟩
theorem XU:∀ (k:Nat) (v:Vl) (lv:Nat),v.size≤k→v.wide=true→∀ p∈F4 lv v,p.2.wide=true
 | 0,v,lv,h,hv,p,hp=>absurd h (by have:=v.size_eq;omega)
 | k+1,v,lv,h,hv,p,hp=>by
  rw [PY] at hp
  rcases List.mem_cons.1 hp with rfl | hp
  ·exact hv
  ·obtain ⟨x,a,hp⟩:=List.mem_flatMap.1 hp
   have:=MD a
   exact XU k x (lv+1) (by omega) (V1 hv a) p hp
theorem Om (v:Vl):v.fields.length<v.size:=by have:=O6 v.fields;have:=v.size_eq;omega
theorem Ve (n:Nat) (hn:3≤n):∀ (l:List (Nat × Vl)) (c:Int),(∀ p∈l,p.2.ok∧p.2.fields.length≤1000000000000∧p.2.fields.length<n)→0≤c→c≤4096→Bo n l c=some (V2 l c)
 | [],c,_,_,_=>rfl
 | p::r,c,hl,h1,h2=>by
  obtain ⟨a,d,e⟩:=hl p (List.mem_cons_self ..)
  have:=Om p.2
  rw [show p=(p.1,p.2) from rfl,Zf7 n hn p.1 p.2 r c (by omega) (by omega) a,Ai (by unfold A6;omega),V2]
  simp only
  split
  ·rfl
  ·split
   ·rfl
   ·split
    ·exact Ve n hn r (c+1) (fun q b=>hl q (List.mem_cons_of_mem _ b)) (by omega) (by omega)
    ·rfl
theorem Uu (n:Nat) (v:Vl) (hn:v.size+3≤n) (hs:v.depth<4611686018427387904) (hw:v.wide=true) (hv:v.ok):GY n v=some (Tn v):=by
 rw [GY,Ai ⟨hs,hw⟩]
 exact Ve n (by omega) _ 0 (fun p a=>by obtain ⟨b,c⟩:=ZcN v.size v 1 (Nat.le_refl _) hv p a;exact ⟨b,(p.2.wide_iff.1 (XU v.size v 1 (Nat.le_refl _) hw p a)).2.1,by have:=Om p.2;omega⟩) (by omega) (by omega)
theorem V5 (n:Nat) (v:Vl) (hn:v.size+3≤n) (hs:v.size<1048576) (hv:v.ok):GY n v=some (Tn v) :=
 Uu n v hn (by have:=v.depth_size;omega) (G1 _ v (Nat.le_refl _) (by omega)) hv
theorem Y1:∀ l:List Vl,D8 l=(l.map Vl.size).sum
 | []=>rfl
 | v::r=>by simp [D8,Y1 r]
theorem YI:∀ l:List (ByteArray × Vl),EI l=(l.map fun p=>p.2.size).sum
 | []=>rfl
 | (_,v)::r=>by simp [EI,YI r]
theorem ZbI (v:Vl):((BK v).map Vl.size).sum<v.size:=by
 have c:=v.size_eq
 unfold BK
 split
 ·rw [←Y1];omega
 ·split
  ·rw [List.map_map]
   have:=YI v.fields
   have e:(v.fields.map (Vl.size∘fun x=>x.2)).sum=EI v.fields:=this.symm
   omega
  ·simp;omega
def Ox {α:Type} (p:α→Bool) (l:List α) (j:Nat):Int :=
 if (l.drop j).findIdx p<(l.drop j).length then (j:Int)+((l.drop j).findIdx p:Nat) else -1
theorem I8 {α:Type} (p:α→Bool) (l:List α) (j:Nat) (h:l.length≤j):Ox p l j = -1:=by
 unfold Ox
 rw [List.drop_eq_nil_of_le h];rfl
theorem Hg {α:Type} (p:α→Bool) (l:List α) (j:Nat) (h:j<l.length):Ox p l j=if p l[j]=true then (j:Int) else Ox p l (j+1):=by
 unfold Ox
 rw [List.drop_eq_getElem_cons h,List.findIdx_cons]
 cases hp:p l[j] with
 | true=>simp;omega
 | false =>
  simp only [cond_false,List.length_cons,Bool.false_eq_true,if_false]
  by_cases q:(l.drop (j+1)).findIdx p<(l.drop (j+1)).length
  ·rw [Ab,Ai q];push_cast;omega
  ·rw [Aa,Aj q]
theorem Q6 {α:Type} (p:α→Bool) (l:List α):∀ (k j:Nat),j+k=l.length→Ox p l j = -1∨∃ i,∃ h:i<l.length,Ox p l j=(i:Int)∧p l[i]=true
 | 0,j,h => .inl (I8 p l j (by omega))
 | k+1,j,h=>by
  have a:j<l.length:=by omega
  rw [Hg p l j a]
  by_cases hp:p l[j]=true
  ·rw [Ai hp];exact .inr ⟨j,a,rfl,hp⟩
  ·rw [Aj hp];exact Q6 p l k (j+1) (by omega)
theorem QS (n:Nat) (l:List TF) (p:TF→Bool) (hl:l.length≤1000000000):∀ (k m i:Nat),i+k=l.length→k<m→AN n l (fun x=>some (p x)) m i=some (Ox p l i)
 | k,0,i,_,h=>absurd h (Nat.not_lt_zero _)
 | 0,m+1,i,hi,_=>by
  rw [AN,AD,Ac,I8 p l i (by omega)]
  rfl
 | k+1,m+1,i,hi,hm=>by
  have a:i<l.length:=by omega
  rw [AN,AD,Ah a]
  simp only [if_true,AH a,Af]
  rw [Hg p l i a]
  by_cases hp:p l[i]=true
  ·rw [Ai hp,Ai hp]
  ·rw [Aj hp,Aj hp,Ai (AG (by omega))]
   exact QS n l p hl k m (i+1) (by omega) (by omega)
def ZG:TF:=(0,(⟨#[]⟩:ByteArray),0,Ty.mk 0 0 0 0 [] [] [],[])
theorem Zga (n:Nat) (t:Ty) (p:TF→Bool) (hn:t.size+1450000≤n) (ht:t.small) :
  (t.kind≠9∧t.kind≠10∧Ju n t (fun x=>some (p x))=some (ZG,false)) ∨
  ((t.kind=9∨t.kind=10)∧((Ox p t.fields 0 = -1∧Ju n t (fun x=>some (p x))=some (ZG,false))∨∃ i,∃ h:i<t.fields.length,Ox p t.fields 0=(i:Int)∧Ju n t (fun x=>some (p x))=some (t.fields[i],true))):=by
 obtain ⟨f,d,b⟩:=ht
 have c:=t.lens
 rw [Ju]
 by_cases hk:t.kind=9∨t.kind=10
 ·right
  refine ⟨hk,?_⟩
  rw [Aj (by simp only [Bool.and_eq_true,Bool.not_eq_true',decide_eq_false_iff_not];omega)]
  rw [Ba]
  have e:=QS n t.fields p (by omega) t.fields.length n 0 (by omega) (by omega)
  rw [show ((0:Nat):Int)=0 from rfl] at e
  rw [e]
  simp only [Af]
  rcases Q6 p t.fields t.fields.length 0 (by omega) with q | ⟨i,hi,q,hp⟩
  ·rw [q];left;exact ⟨rfl,rfl⟩
  ·rw [q];right
   refine ⟨i,hi,rfl,?_⟩
   rw [Ac]
   simp only [Bool.false_eq_true,if_false,AH hi,Af]
   obtain ⟨_,q2,q3,a⟩:=(t.ok_eq.1 b).2.2.2 _ (List.getElem_mem hi)
   have hs:=t.field_size _ (List.getElem_mem hi)
   rw [Zck (GR n) n t.fields[i] (by omega) (by omega) (fun v hv=>QJ n v (by have:=(a v hv).1;omega) (by have:=(a v hv).1;omega)) (Qz n _ (by omega) (by omega) q2)]
   rfl
 ·left
  refine ⟨fun h=>hk (.inl h),fun h=>hk (.inr h),?_⟩
  rw [Ai (by simp only [Bool.and_eq_true,Bool.not_eq_true',decide_eq_false_iff_not];omega)]
  rfl
def Kp (rec:Ty→Vl→Option Bool) (g:Vl) (h:Ty):Option Bool :=
 (Cb h.elem 0).bind fun b =>
 (rec b g).bind fun q =>
 some (!q)
theorem ZM (w0:World) (rec:Ty→Vl→Option Bool) (ih:∀ (B:Ao) (Rw:Av) (L:As) (a0:Ty) (a1:Vl) (r:Bool) (h:rec a0 a1=some r),ACalls Tryz.prog w0 201 [.agg (a0.cs),.agg (a1.cs)] ⟨B,Rw,L⟩ fun x st=>x = .val (.bool r)∧st=⟨B,Rw,L⟩) (B:Ao) (Rw:Av) (L:As) (a0:Vl) (la1:Nat) (a1:Ty) (hla1:B[la1]? = some (a1.cs)) (r:Bool) (h:Kp rec a0 a1=some r) :
  ACalls Tryz.prog w0 269 [.agg (a0.cs),.box la1 0] ⟨B,Rw,L⟩ fun x st=>x = .val (.bool r)∧st=⟨B,Rw,L⟩:=by
 rw [Kp] at h
 refine hd [.tmp 3] Tryz.func269 Tryz.ntmps269 fun M0 W0 g d e b i f hs=>?_
 simp only [AA]
 have c:=(Ak.1 hla1).1
 have hs:=Ae (Ar hla1) hs
 exact go (tg (a:=([1,2],[8,3],()))) h hs g d e b f (q1 ih) trivial
def FQ (n:Nat)  : Option Int :=
 some ((-1))
def BA (n:Nat) (q:List (ByteArray × Vl)) (y:(ByteArray × Vl)→Option Bool):Nat→Int→Option Int
 | 0,_=>none
 | m+1,b =>
  if decide (b<(q.length:Int)) then
   (Cb q b).bind fun g =>
   (y g).bind fun h =>
   if h then
    some (b)
   else
    if A6 (b+1) then
     (BA n q y m) (b+1)
    else none
  else
   FQ n 
def C7 (n:Nat) (b:List (ByteArray × Vl)) (g:(ByteArray × Vl)→Option Bool):Option Int :=
 BA n b g n 0
theorem Iw (w0:World) (n:Nat) (B:Ao) (Rw:Av) (L:As) (a0:List (ByteArray × Vl)) (fa1:FuncId) (ca1:List AV) (a1:(ByteArray × Vl)→Option Bool) (ha1:∀ (x0:ByteArray × Vl) r,a1 x0=some r→∀ B' rows,B <+: B'→Rw <+: rows→ACalls Tryz.prog w0 fa1 ([.agg (.val (.string x0.1)::(x0.2.cs))]++ca1) ⟨B',rows,L⟩ fun v s=>v = .val (.bool r)∧s=⟨B',rows,L⟩) (r:Int) (h:C7 n a0 a1=some r) :
  ACalls Tryz.prog w0 199 [.list (a0.map RO) .none,.clo fa1 ca1] ⟨B,Rw,L⟩ fun x st=>x=Am r∧st=⟨B,Rw,L⟩:=by
 rw [C7] at h
 refine hd [.tmp 4] Tryz.func199 Tryz.ntmps199 fun M0 W0 k g i c l f hs=>?_
 simp only [AA]
 have b:=B6 (l (.clo fa1 ca1) (by simp))
 refine rg [0,1] hs ?_
 refine AB (fun e st=>Ck e st B Rw L [] [] [] (FQ n  = some r)) ?_ ?_
 ·intro K4 j
  refine rg [0,1,7,8] hs ?_
  apply Aq
  refine AC (fun m e st=>∃ (d:Int),Ck e st B Rw L [(0,true,.list (a0.map RO) .none),(1,true,.clo fa1 ca1),(7,true,Am (a0.length:Int)),(8,true,Am d)] [] [] (BA n a0 a1 m d=some r)) n ⟨0,([]),Rw,ef hs,ef hs,f,h⟩ ?_
  rintro ml6 e st ⟨d,Xl6,Rl6,rfl,rfl,f,h⟩ Ul6 Vl6
  cases ml6 with
  | zero=>cases h
  | succ ml6 =>
  rw [BA] at h
  refine A9 k g i rfl c f (OJ b f) (OJ b f) ?_
  exact go (tg (a:=([0,1,7,8,9],([0,1,7,8],[0,1,5,7,8],[0,1,5,7,8,16],([4],()),[0,1,7,8],[0,1,7,8],()),[],()))) h hs k g i c f (q1 ha1) (q2 j (fun e s=>Vl6 ml6 e s (Nat.lt_succ_self _)))
 ·clear h;rintro e st ⟨Xk3,Rk3,rfl,rfl,f,h⟩
  rw [FQ] at h
  refine A9 k g i rfl c f (OJ b f) (OJ b f) ?_
  refine rg [4] hs ?_
  exact rt h hs c f
def HL (b:ByteArray × Vl) (g:ByteArray):Bool :=
 Gn b.1 g
theorem WM (w0:World) (B:Ao) (Rw:Av) (L:As) (a0:ByteArray × Vl) (la1:Nat) (a1:ByteArray) (hla1:B[la1]? = some ([.val (.string a1)])) (r:Bool) (h:HL a0 a1=r) :
  ACalls Tryz.prog w0 267 [.agg (.val (.string a0.1)::(a0.2.cs)),.box la1 0] ⟨B,Rw,L⟩ fun x st=>x = .val (.bool r)∧st=⟨B,Rw,L⟩:=by
 rw [HL] at h
 refine hd [.tmp 3] Tryz.func267 Tryz.ntmps267 fun M0 W0 f c d a g e hs=>?_
 simp only [AA]
 have b:=(Ak.1 hla1).1
 have hs:=Ae (Ar hla1) hs
 refine rg [1,2] hs ?_
 refine rg [3] hs ?_
 exact rT h hs a e
theorem UX (w0:World) (B:Ao) (Rw:Av) (L:As) (a0:ByteArray × Vl) (la1:Nat) (a1:ByteArray) (hla1:B[la1]? = some ([.val (.string a1)])) :
  ACalls Tryz.prog w0 267 [.agg (.val (.string a0.1)::(a0.2.cs)),.box la1 0] ⟨B,Rw,L⟩ fun x st=>x = .val (.bool (HL a0 a1))∧st=⟨B,Rw,L⟩:=WM w0 B Rw L a0 la1 a1 hla1 _ rfl
def N7 (n:Nat) (b:Vl) (h:ByteArray):Option Int :=
 (C7 n b.fields (fun (q:ByteArray × Vl)=>some (HL q h))).bind fun g =>
 some (g)
theorem Zaf (w0:World) (n:Nat) (B:Ao) (Rw:Av) (L:As) (a0:Vl) (a1:ByteArray) (r:Int) (h:N7 n a0 a1=some r) :
  ACalls Tryz.prog w0 197 [.agg (a0.cs),.val (.string a1)] ⟨B,Rw,L⟩ fun x st=>x=Am r∧st=⟨B,Rw,L⟩:=by
 rw [N7] at h
 refine hd [.tmp 4] Tryz.func197 Tryz.ntmps197 fun M0 W0 j c d a k e hs=>?_
 simp only [AA]
 refine rg [2,3] hs ?_
 obtain ⟨g,hy3,h⟩:=bind_some h
 refine rc 2 [4] hs ?_;intro K2 b
 refine Aw _ (Iw w0 n _ _ _ a0.fields 267 [.box (B.length+1) 0] (fun (x0:ByteArray × Vl)=>some (HL x0 a1)) (fun x0 r hx i rows' hB' f=>by cases hx;exact UX w0 _ _ _ x0 _ a1 (D1 hB' ev)) _ hy3) (hv hs) ?_
 refine ne hs b ?_
 clear b
 exact rt h hs a e
def L8 (n:Nat) (g:Vl) (y:ByteArray):Option (Vl × Bool) :=
 (N7 n g y).bind fun h =>
 if (!(decide (g.kind=9)))||(decide (h<0)) then
  some ((Vl.mk 0 0 0 (⟨#[]⟩:ByteArray) ([]) ([]),false))
 else
  (Cb g.fields h).bind fun q =>
  (Dt n q.2).bind fun b =>
  some ((b,true))
theorem Zw (w0:World) (n:Nat) (B:Ao) (Rw:Av) (L:As) (a0:Vl) (a1:ByteArray) (r:Vl × Bool) (h:L8 n a0 a1=some r) :
  ACalls Tryz.prog w0 207 [.agg (a0.cs),.val (.string a1)] ⟨B,Rw,L⟩ fun x st=>x = .tup [.agg (r.1.cs),.val (.bool r.2)]∧st=⟨B,Rw,L⟩:=by
 rw [L8] at h
 refine hd [.cell 4 34,.tmp 5] Tryz.func207 Tryz.ntmps207 fun M0 W0 f c d b g e hs=>?_
 simp only [AA]
 exact go (tg (a:=([1,2,4],[2,4,6],[2,4,6,16],([4,5],()),[2,4,6],[4,5],()))) h hs f c d b e (q2 (Zaf w0 n) (IJ w0 n)) trivial
def Kq (n:Nat) (b:Int × ByteArray × Int × Ty × List Vl) (h:Vl):Option Bool :=
 (L8 n h b.2.1).bind fun g =>
 some ((!g.2)&&(!(decide (b.2.2.1=2))))
theorem ZT (w0:World) (n:Nat) (B:Ao) (Rw:Av) (L:As) (a0:Int × ByteArray × Int × Ty × List Vl) (la1:Nat) (a1:Vl) (hla1:B[la1]? = some (a1.cs)) (r:Bool) (h:Kq n a0 a1=some r) :
  ACalls Tryz.prog w0 270 [.agg (Am a0.1::(.val (.string a0.2.1)::(Am a0.2.2.1::((a0.2.2.2.1.cs)++([.list (a0.2.2.2.2.map Di) .none]))))),.box la1 0] ⟨B,Rw,L⟩ fun x st=>x = .val (.bool r)∧st=⟨B,Rw,L⟩:=by
 rw [Kq] at h
 refine hd [.tmp 3] Tryz.func270 Tryz.ntmps270 fun M0 W0 g d e b i f hs=>?_
 simp only [AA]
 have c:=(Ak.1 hla1).1
 have hs:=Ae (Ar hla1) hs
 exact go (tg (a:=([1,2],[2,5],[3],()))) h hs g d e b f (q1 (Zw w0 n)) trivial
def AO (n:Nat) (b:List (Int × ByteArray × Int × Ty × List Vl)) (h:(Int × ByteArray × Int × Ty × List Vl)→Option Bool):Option Bool :=
 (Ba n b h).bind fun g =>
 some (decide (0≤g))
theorem DC (w0:World) (n:Nat) (B:Ao) (Rw:Av) (L:As) (a0:List (Int × ByteArray × Int × Ty × List Vl)) (fa1:FuncId) (ca1:List AV) (a1:(Int × ByteArray × Int × Ty × List Vl)→Option Bool) (ha1:∀ (x0:Int × ByteArray × Int × Ty × List Vl) r,a1 x0=some r→∀ B' rows,B <+: B'→Rw <+: rows→ACalls Tryz.prog w0 fa1 ([.agg (Am x0.1::(.val (.string x0.2.1)::(Am x0.2.2.1::((x0.2.2.2.1.cs)++([.list (x0.2.2.2.2.map Di) .none])))))]++ca1) ⟨B',rows,L⟩ fun v s=>v = .val (.bool r)∧s=⟨B',rows,L⟩) (r:Bool) (h:AO n a0 a1=some r) :
  ACalls Tryz.prog w0 111 [.list (a0.map Cd) .none,.clo fa1 ca1] ⟨B,Rw,L⟩ fun x st=>x = .val (.bool r)∧st=⟨B,Rw,L⟩:=by
 rw [AO] at h
 refine hd [.tmp 4] Tryz.func111 Tryz.ntmps111 fun M0 W0 o i j b l g hs=>?_
 simp only [AA]
 have d:=B6 (l (.clo fa1 ca1) (by simp))
 refine rg [0,1] hs ?_
 obtain ⟨m,f,h⟩:=bind_some h
 refine rc 2 [4] hs ?_;intro K2 c
 refine Aw _ (G3 w0 n _ _ _ a0 fa1 ca1 a1 (fun x0 r k e a q1 q2=>ha1 x0 r k e a (List.IsPrefix.trans px q1) (g.pre.trans q2)) _ f) (hv hs) ?_
 refine ne hs c ?_
 clear c
 exact rt h hs b g
def FO (n:Nat)  : Option Int :=
 some ((-1))
def Bt (n:Nat) (q:List Vl) (y:Vl→Option Bool):Nat→Int→Option Int
 | 0,_=>none
 | m+1,b =>
  if decide (b<(q.length:Int)) then
   (Cb q b).bind fun g =>
   (y g).bind fun h =>
   if h then
    some (b)
   else
    if A6 (b+1) then
     (Bt n q y m) (b+1)
    else none
  else
   FO n 
def EA (n:Nat) (b:List Vl) (g:Vl→Option Bool):Option Int :=
 Bt n b g n 0
theorem Nw (w0:World) (n:Nat) (B:Ao) (Rw:Av) (L:As) (a0:List Vl) (fa1:FuncId) (ca1:List AV) (a1:Vl→Option Bool) (ha1:∀ (x0:Vl) r,a1 x0=some r→∀ B' rows,B <+: B'→Rw <+: rows→ACalls Tryz.prog w0 fa1 ([.agg (x0.cs)]++ca1) ⟨B',rows,L⟩ fun v s=>v = .val (.bool r)∧s=⟨B',rows,L⟩) (r:Int) (h:EA n a0 a1=some r) :
  ACalls Tryz.prog w0 314 [.list (a0.map Di) .none,.clo fa1 ca1] ⟨B,Rw,L⟩ fun x st=>x=Am r∧st=⟨B,Rw,L⟩:=by
 rw [EA] at h
 refine hd [.tmp 4] Tryz.func314 Tryz.ntmps314 fun M0 W0 k g i c l f hs=>?_
 simp only [AA]
 have b:=B6 (l (.clo fa1 ca1) (by simp))
 refine rg [0,1] hs ?_
 refine AB (fun e st=>Ck e st B Rw L [] [] [] (FO n  = some r)) ?_ ?_
 ·intro K4 j
  refine rg [0,1,7,8] hs ?_
  apply Aq
  refine AC (fun m e st=>∃ (d:Int),Ck e st B Rw L [(0,true,.list (a0.map Di) .none),(1,true,.clo fa1 ca1),(7,true,Am (a0.length:Int)),(8,true,Am d)] [] [] (Bt n a0 a1 m d=some r)) n ⟨0,([]),Rw,ef hs,ef hs,f,h⟩ ?_
  rintro ml6 e st ⟨d,Xl6,Rl6,rfl,rfl,f,h⟩ Ul6 Vl6
  cases ml6 with
  | zero=>cases h
  | succ ml6 =>
  rw [Bt] at h
  refine A9 k g i rfl c f (OJ b f) (OJ b f) ?_
  exact go (tg (a:=([0,1,7,8,9],([0,1,7,8],[0,1,5,7,8],[0,1,5,7,8,16],([4],()),[0,1,7,8],[0,1,7,8],()),[],()))) h hs k g i c f (q1 ha1) (q2 j (fun e s=>Vl6 ml6 e s (Nat.lt_succ_self _)))
 ·clear h;rintro e st ⟨Xk3,Rk3,rfl,rfl,f,h⟩
  rw [FO] at h
  refine A9 k g i rfl c f (OJ b f) (OJ b f) ?_
  refine rg [4] hs ?_
  exact rt h hs c f
def Cc (n:Nat) (b:List Vl) (h:Vl→Option Bool):Option Bool :=
 (EA n b h).bind fun g =>
 some (decide (0≤g))
theorem LH (w0:World) (n:Nat) (B:Ao) (Rw:Av) (L:As) (a0:List Vl) (fa1:FuncId) (ca1:List AV) (a1:Vl→Option Bool) (ha1:∀ (x0:Vl) r,a1 x0=some r→∀ B' rows,B <+: B'→Rw <+: rows→ACalls Tryz.prog w0 fa1 ([.agg (x0.cs)]++ca1) ⟨B',rows,L⟩ fun v s=>v = .val (.bool r)∧s=⟨B',rows,L⟩) (r:Bool) (h:Cc n a0 a1=some r) :
  ACalls Tryz.prog w0 268 [.list (a0.map Di) .none,.clo fa1 ca1] ⟨B,Rw,L⟩ fun x st=>x = .val (.bool r)∧st=⟨B,Rw,L⟩:=by
 rw [Cc] at h
 refine hd [.tmp 4] Tryz.func268 Tryz.ntmps268 fun M0 W0 o i j b l g hs=>?_
 simp only [AA]
 have d:=B6 (l (.clo fa1 ca1) (by simp))
 refine rg [0,1] hs ?_
 obtain ⟨m,f,h⟩:=bind_some h
 refine rc 2 [4] hs ?_;intro K2 c
 refine Aw _ (Nw w0 n _ _ _ a0 fa1 ca1 a1 (fun x0 r k e a q1 q2=>ha1 x0 r k e a (List.IsPrefix.trans px q1) (g.pre.trans q2)) _ f) (hv hs) ?_
 refine ne hs c ?_
 clear c
 exact rt h hs b g
def Hu (n:Nat)  : Option Int :=
 some ((-1))
def B1 (n:Nat) (h:List ByteArray) (q:ByteArray):Nat→Int→Option Int
 | 0,_=>none
 | m+1,b =>
  if decide (b<(h.length:Int)) then
   (Cb h b).bind fun g =>
   if Gn q g then
    some (b)
   else
    if A6 (b+1) then
     (B1 n h q m) (b+1)
    else none
  else
   Hu n 
def FV (n:Nat) (b:List ByteArray) (g:ByteArray):Option Int :=
 B1 n b g n 0
theorem Py (w0:World) (n:Nat) (B:Ao) (Rw:Av) (L:As) (a0:List ByteArray) (a1:ByteArray) (r:Int) (h:FV n a0 a1=some r) :
  ACalls Tryz.prog w0 205 [.list (a0.map CB) .none,.val (.string a1)] ⟨B,Rw,L⟩ fun x st=>x=Am r∧st=⟨B,Rw,L⟩:=by
 rw [FV] at h
 refine hd [.tmp 4] Tryz.func205 Tryz.ntmps205 fun M0 W0 j f g c k d hs=>?_
 simp only [AA]
 refine rg [0,1] hs ?_
 refine AB (fun e st=>Ck e st B Rw L [] [] [] (Hu n  = some r)) ?_ ?_
 ·intro K4 i
  refine rg [0,1,7,8] hs ?_
  apply Aq
  refine AC (fun m e st=>∃ (b:Int),Ck e st B Rw L [(0,true,.list (a0.map CB) .none),(1,true,.val (.string a1)),(7,true,Am (a0.length:Int)),(8,true,Am b)] [] [] (B1 n a0 a1 m b=some r)) n ⟨0,([]),Rw,ef hs,ef hs,d,h⟩ ?_
  rintro ml6 e st ⟨b,Xl6,Rl6,rfl,rfl,d,h⟩ Ul6 Vl6
  cases ml6 with
  | zero=>cases h
  | succ ml6 =>
  rw [B1] at h
  exact go (tg (a:=([0,1,7,8,9],([0,1,7,8],[0,1,5,7,8],[0,1,5,7,8,16],([4],()),[0,1,7,8],[0,1,7,8],()),[],()))) h hs j f g c d trivial (q2 i (fun e s=>Vl6 ml6 e s (Nat.lt_succ_self _)))
 ·clear h;rintro e st ⟨Xk3,Rk3,rfl,rfl,d,h⟩
  rw [Hu] at h
  refine td j f g c d ?_
  refine rg [4] hs ?_
  exact rt h hs c d
def Df (n:Nat) (b:List ByteArray) (h:ByteArray):Option Bool :=
 (FV n b h).bind fun g =>
 some (decide (0≤g))
theorem Ns (w0:World) (n:Nat) (B:Ao) (Rw:Av) (L:As) (a0:List ByteArray) (a1:ByteArray) (r:Bool) (h:Df n a0 a1=some r) :
  ACalls Tryz.prog w0 133 [.list (a0.map CB) .none,.val (.string a1)] ⟨B,Rw,L⟩ fun x st=>x = .val (.bool r)∧st=⟨B,Rw,L⟩:=by
 rw [Df] at h
 refine hd [.tmp 4] Tryz.func133 Tryz.ntmps133 fun M0 W0 f c d b g e hs=>?_
 simp only [AA]
 exact go (tg (a:=([0,1],[4],()))) h hs f c d b e (q1 (Py w0 n)) trivial
def Oj (rec:Ty→Vl→Option Bool) (n:Nat) (g:Ty) (h:Vl):Option Bool :=
 (AO n g.fields (fun (q:Int × ByteArray × Int × Ty × List Vl)=>Kq n q h)).bind fun b =>
 some (!b)
def Qe (rec:Ty→Vl→Option Bool) (n:Nat)  : Option Bool :=
 some (true)
def HU (rec:Ty→Vl→Option Bool) (n:Nat) (z:Ty) (q:Vl):Nat→Int→Option Bool
 | 0,_=>none
 | m+1,b =>
  if decide (b<(q.fields.length:Int)) then
   (Cb q.fields b).bind fun g =>
   (ID n z g.1).bind fun h =>
   if !h.2 then
    some (false)
   else
    (rec h.1.2.2.2.1 g.2).bind fun y =>
    if !y then
     some (false)
    else
     if A6 (b+1) then
      (HU rec n z q m) (b+1)
     else none
  else
   Oj rec n z q 
def B8 (rec:Ty→Vl→Option Bool) (n:Nat) (b:Ty) (g:Vl) (h:Bool):Option Bool :=
 if h then
  some ((decide (b.min≤g.int)&&decide (g.int≤b.max))&&(decide (g.scale=b.scale)))
 else
  if decide (b.kind=4) then
   if decide (0<(b.words.length:Int)) then
    (Df n b.words g.text).bind fun z =>
    some (z)
   else
    some (decide (b.min≤(g.text.size:Int))&&decide ((g.text.size:Int)≤b.max))
  else
   if decide (b.kind=5) then
    some (decide (b.min≤(g.text.size:Int))&&decide ((g.text.size:Int)≤b.max))
   else
    if decide (b.kind=8) then
     if decide (b.min≤(g.list.length:Int))&&decide ((g.list.length:Int)≤b.max) then
      (Cc n g.list (fun (x0:Vl)=>Kp rec x0 b)).bind fun y36 =>
      some (!y36)
     else
      some (false)
    else
     if decide (b.kind=10) then
      (ID n b g.text).bind fun q =>
      if q.2 then
       (Cb g.list 0).bind fun y =>
       (rec q.1.2.2.2.1 y).bind fun y44 =>
       some (y44)
      else
       some (false)
     else
      if decide (b.kind=9) then
       HU rec n b g n 0
      else
       Qe rec n 
def Sl (rec:Ty→Vl→Option Bool) (n:Nat) (b:Ty) (g:Vl):Option Bool :=
 if !(decide (g.kind=b.kind)) then
  some (false)
 else
  if decide (b.kind=2) then
   B8 rec n b g true
  else
   if decide (b.kind=6) then
    B8 rec n b g true
   else
    if decide (b.kind=7) then
     B8 rec n b g true
    else
     B8 rec n b g (decide (b.kind=3))
def I5:Nat→Ty→Vl→Option Bool
 | 0,_,_=>none
 | n+1,b,g=>Sl (I5 n) n b g
def WF (w0:World) (F:Ty→Vl→Option Bool):Prop:=∀ (B:Ao) (Rw:Av) (L:As) (b:Ty) (g:Vl) (r:Bool),F b g=some r→ACalls Tryz.prog w0 201 [.agg (b.cs),.agg (g.cs)] ⟨B,Rw,L⟩ fun x st=>x = .val (.bool r)∧st=⟨B,Rw,L⟩
theorem Z3 (w0:World) (rec:Ty→Vl→Option Bool) (ih:WF w0 rec) (n:Nat):WF w0 (Sl rec n):=by
 intro B Rw L a0 a1 r h
 rw [Sl] at h
 refine hd [.tmp 4] Tryz.func201 Tryz.ntmps201 fun M0 W0 k g f b F i hs=>?_
 simp only [AA]
 refine rg [2,3] hs ?_
 apply An;intro K2 w
 refine rg [2,3,15] hs ?_
 refine BQ h hs ?_ ?_<;>intro hs h
 ·refine rg [4] hs ?_
  exact rt h hs b i
 refine sk [2,3] hs w ?_
 clear w
 refine AB (fun e st=>Ck e st B Rw L [] [a0.cs,a1.cs] [] (Qe rec n  = some r)) ?_ ?_
 ·intro K8 y
  refine rg [2,3,17] hs ?_
  apply Aq
  refine AB (fun e st=>∃ (d:Bool),Ck e st B Rw L [(2,true,.box B.length 0),(3,true,.box (B.length+1) 0),(17,true,Am a0.kind),(18,true,.val (.bool d))] [a0.cs,a1.cs] [] (B8 rec n a0 a1 d=some r)) ?_ ?_
  ·intro K12 v
   exact go (tg (a:=([2,3,17,18],([2,3,17,18],()),[2,3,17,18],([2,3,17,18],()),[2,3,17,18],([2,3,17,18],()),[2,3,17,18],()))) h hs k g f b i trivial (q1 v)
  ·clear h;rintro e st ⟨d,Xk11,Rk11,rfl,rfl,i,h⟩
   rw [B8] at h
   refine td k g f b i ?_
   refine BQ h hs ?_ ?_<;>intro hs h
   ·exact go (tg (a:=([4],()))) h hs k g f b i (q1 (Qb w0)) trivial
   refine rg [2,3,17,37] hs ?_
   refine BQ h hs ?_ ?_<;>intro hs h
   ·exact go (tg (a:=([2,3,42],([4],()),[2,3],[4],()))) h hs k g f b i (q2 (Ns w0 n) (Qb w0)) trivial
   refine rg [2,3,17,56] hs ?_
   refine BQ h hs ?_ ?_<;>intro hs h
   ·exact go (tg (a:=([4],()))) h hs k g f b i (q1 (Qb w0)) trivial
   refine rg [2,3,17,66] hs ?_
   refine BQ h hs ?_ ?_<;>intro hs h
   ·apply An;intro K34 j
    rcases Bool.eq_false_or_eq_true (decide (a0.min≤(a1.list.length:Int))&&decide ((a1.list.length:Int)≤a0.max)) with hf35 | hf35
    ·replace h:=A7 h hf35
     obtain ⟨D,u,h⟩:=bind_some h
     have hs:=Ae hf35 hs
     refine rk 3 [4] hs ?_
     refine Aw _ (Qb w0 _ _ _ (a1.list.length:Int) a0.min a0.max) (hv hs) ?_
     refine nc hs ?_
     refine Aw _ (LH w0 n _ _ _ a1.list 269 [.box B.length 0] (fun (o:Vl)=>Kp rec o a0) (fun o r x E rows' p z=>by exact ZM w0 rec ih _ _ _ o _ a0 (D1 p (ef hs)) _ x) _ u) (hv hs) ?_
     refine ne hs j ?_
     clear j
     exact rt h hs b i
    ·replace h:=A8 h hf35
     exact go (tg (a:=([4],()))) h (Ae hf35 hs) k g f b i (q1 (Qb w0)) (q1 j)
   refine rg [2,3,17,83] hs ?_
   refine BQ h hs ?_ ?_<;>intro hs h
   ·exact go (tg (a:=([3,5,6],([11,4],()),[11,4],()))) h hs k g f b i (q2 (OZ w0 n) ih) trivial
   refine rg [2,3,102] hs ?_
   refine BQ h hs ?_ ?_<;>intro hs h
   ·refine AB (fun e st=>Ck e st B Rw L [(2,true,.box B.length 0),(3,true,.box (B.length+1) 0)] [a0.cs,a1.cs] [] (Oj rec n a0 a1  = some r)) ?_ ?_
    ·intro K49 t
     refine rg [2,3,105,106,107] hs ?_
     apply Aq
     refine AC (fun m e st=>∃ (c:Int),Ck e st B Rw L [(2,true,.box B.length 0),(3,true,.box (B.length+1) 0),(105,true,.list (a1.fields.map RO) .none),(106,true,Am (a1.fields.length:Int)),(107,true,Am c)] [a0.cs,a1.cs] [] (HU rec n a0 a1 m c=some r)) n ⟨0,([]),Rk11,ef hs,ef hs,i,h⟩ ?_
     rintro ml51 e st ⟨c,Xl51,Rl51,rfl,rfl,i,h⟩ Ul51 Vl51
     cases ml51 with
     | zero=>cases h
     | succ ml51 =>
     rw [HU] at h
     exact go (tg (a:=([2,3,105,106,107,108],([2,3,105,106,107],[2,3,8,105,106,107],[2,3,8,9,10,105,106,107],([2,3,105,106,107,127],[4],()),[2,3,105,106,107,127],([4],()),[2,3,105,106,107],[2,3,105,106,107],()),[2,3],()))) h hs k g f b i (q2 (OZ w0 n) ih) (q2 t (fun e s=>Vl51 ml51 e s (Nat.lt_succ_self _)))
    ·clear h;rintro e st ⟨Xk48,Rk48,rfl,rfl,i,h⟩
     rw [Oj] at h
     refine td k g f b i ?_
     obtain ⟨C,q,h⟩:=bind_some h
     refine rc 2 [4] hs ?_;intro K68 l
     refine Aw _ (DC w0 n _ _ _ a0.fields 270 [.box (B.length+1) 0] (fun (o:Int × ByteArray × Int × Ty × List Vl)=>Kq n o a1) (fun o r x E rows' p z=>by exact ZT w0 n _ _ _ o _ a1 (D1 p (ef hs)) _ x) _ q) (hv hs) ?_
     refine ne hs l ?_
     clear l
     exact rt h hs b i
   refine sk [] hs y ?_
   exact ⟨([]),Rk11,ef hs,ef hs,i,h⟩
 ·clear h;rintro e st ⟨Xk7,Rk7,rfl,rfl,i,h⟩
  rw [Qe] at h
  refine td k g f b i ?_
  refine rg [4] hs ?_
  exact rt h hs b i
theorem XG (w0:World):∀ n:Nat,WF w0 (I5 n)
 | 0=>fun _ _ _ _ _ _ h=>(nomatch h)
 | n+1=>Z3 w0 (I5 n) (XG w0 n) n
def Jk (n:Nat) (h:Ty) (b:Vl):Option Bool :=
 (GY n b).bind fun q =>
 if decide (q=0) then
  (I5 n h b).bind fun g =>
  some (g)
 else
  some (false)
theorem Xp (w0:World) (hT:Lib.Utf8Tabs 2 3 w0) (n:Nat) (B:Ao) (Rw:Av) (L:As) (a0:Ty) (a1:Vl) (r:Bool) (h:Jk n a0 a1=some r) :
  ACalls Tryz.prog w0 123 [.agg (a0.cs),.agg (a1.cs)] ⟨B,Rw,L⟩ fun x st=>x = .val (.bool r)∧st=⟨B,Rw,L⟩:=by
 rw [Jk] at h
 refine hd [.tmp 4] Tryz.func123 Tryz.ntmps123 fun M0 W0 f c d b g e hs=>?_
 simp only [AA]
 exact go (tg (a:=([2,3],([4],()),[4],()))) h hs f c d b e (q2 (O1 w0 hT n) (XG w0 n)) trivial
def En (b:Int × ByteArray × Int × Ty × List Vl) (g:Int × ByteArray × Int × Ty × List Vl):Bool :=
 (Gn b.2.1 g.2.1)||(decide (b.1=g.1))
theorem WW (w0:World) (B:Ao) (Rw:Av) (L:As) (a0:Int × ByteArray × Int × Ty × List Vl) (la1:Nat) (a1:Int × ByteArray × Int × Ty × List Vl) (hla1:B[la1]? = some (Am a1.1::(.val (.string a1.2.1)::(Am a1.2.2.1::((a1.2.2.2.1.cs)++([.list (a1.2.2.2.2.map Di) .none])))))) (r:Bool) (h:En a0 a1=r) :
  ACalls Tryz.prog w0 308 [.agg (Am a0.1::(.val (.string a0.2.1)::(Am a0.2.2.1::((a0.2.2.2.1.cs)++([.list (a0.2.2.2.2.map Di) .none]))))),.box la1 0] ⟨B,Rw,L⟩ fun x st=>x = .val (.bool r)∧st=⟨B,Rw,L⟩:=by
 rw [En] at h
 refine hd [.tmp 3] Tryz.func308 Tryz.ntmps308 fun M0 W0 f c d a g e hs=>?_
 simp only [AA]
 have b:=(Ak.1 hla1).1
 have hs:=Ae (Ar hla1) hs
 refine rg [1,2] hs ?_
 refine rg [3] hs ?_
 exact rT h hs a e
theorem U2 (w0:World) (B:Ao) (Rw:Av) (L:As) (a0:Int × ByteArray × Int × Ty × List Vl) (la1:Nat) (a1:Int × ByteArray × Int × Ty × List Vl) (hla1:B[la1]? = some (Am a1.1::(.val (.string a1.2.1)::(Am a1.2.2.1::((a1.2.2.2.1.cs)++([.list (a1.2.2.2.2.map Di) .none])))))) :
  ACalls Tryz.prog w0 308 [.agg (Am a0.1::(.val (.string a0.2.1)::(Am a0.2.2.1::((a0.2.2.2.1.cs)++([.list (a0.2.2.2.2.map Di) .none]))))),.box la1 0] ⟨B,Rw,L⟩ fun x st=>x = .val (.bool (En a0 a1))∧st=⟨B,Rw,L⟩:=WW w0 B Rw L a0 la1 a1 hla1 _ rfl
def LS (n:Nat) (h:Ty) (g:Int):Option Int :=
 (Cb h.fields g).bind fun b =>
 if b.2.1.size≤maxLen then
  if !(EZ b.2.1) then
   some (12)
  else
   if !(decide (1≤b.1)&&decide (b.1≤9999)) then
    some (2)
   else
    if 0≤0∧0≤g∧g≤(h.fields.length:Int) then
     (AO n (h.fields.take g.toNat) (fun (y:Int × ByteArray × Int × Ty × List Vl)=>some (En y b))).bind fun q =>
     if q then
      some (7)
     else
      if (!(decide (1≤b.2.2.1)&&decide (b.2.2.1≤3)))||((decide (h.kind=10))&&(!(decide (b.2.2.1=1)))) then
       some (11)
      else
       if (decide (b.2.2.1=3))&&(decide ((b.2.2.2.2.length:Int)=0)) then
        some (4)
       else
        if (decide (1<(b.2.2.2.2.length:Int)))||((!(decide (b.2.2.1=3)))&&(decide (0<(b.2.2.2.2.length:Int)))) then
         some (3)
        else
         some (0)
    else none
 else none
theorem ZF (w0:World) (n:Nat) (B:Ao) (Rw:Av) (L:As) (a0:Ty) (a1:Int) (r:Int) (h:LS n a0 a1=some r) :
  ACalls Tryz.prog w0 255 [.agg (a0.cs),Am a1] ⟨B,Rw,L⟩ fun x st=>x=Am r∧st=⟨B,Rw,L⟩:=by
 rw [LS] at h
 refine hd [.tmp 4] Tryz.func255 Tryz.ntmps255 fun M0 W0 u o j b y p hs=>?_
 simp only [AA]
 refine rg [1,2] hs ?_
 obtain ⟨x3,k,h⟩:=bind_some h
 obtain ⟨q,t,e⟩:=Bi k
 have i:=Bj (f:=Cd) e
 have hs:=Ae i hs
 refine rg [1,2,5] hs ?_
 apply An;intro K4 l
 apply Aq
 obtain ⟨m,h⟩:=Au h
 refine rc 2 [1,2,5,11] hs ?_;intro K5 c
 refine Aw _ (Ol w0 _ _ _ x3.2.1 m) (hv hs) ?_
 refine ne hs c ?_
 clear c
 refine BQ h hs ?_ ?_<;>intro hs h
 ·refine rg [4] hs ?_
  exact rt h hs b p
 refine rc 2 [1,2,5,16] hs ?_;intro K9 g
 refine Aw _ (Qb w0 _ _ _ x3.1 1 9999) (hv hs) ?_
 refine ne hs g ?_
 clear g
 refine BQ h hs ?_ ?_<;>intro hs h
 ·refine rg [4] hs ?_
  exact rt h hs b p
 obtain ⟨s,h⟩:=Au h
 obtain ⟨w,hy14,h⟩:=bind_some h
 refine rc 2 [2,5,21] hs ?_;intro K12 d
 refine Aw _ (DC w0 n _ _ _ (a0.fields.take a1.toNat) 308 [.box (B.length+1) 0] (fun (x0:Int × ByteArray × Int × Ty × List Vl)=>some (En x0 x3)) (fun x0 r hx z rows' hB' v=>by cases hx;exact U2 w0 _ _ _ x0 _ x3 (D1 hB' (ef hs))) _ hy14) (hv hs) ?_
 exact go (tg (a:=(([4],()),[5,28],([4],()),[5,43],([4],()),[53],([4],()),[],[4],()))) h hs u o j b p (q1 (Qb w0)) (q2 d l)
end Go.Proofs.YtmcnjijeocmkgaaGreatDoor
