/-
  Part 7 of the proof: rules and walks that the claim's last text uses.
-/
import Derived.Test.YtgpmlelfkjfbiaaGreatDoorSw6
set_option linter.unusedSimpArgs false
set_option linter.unusedVariables false
set_option maxRecDepth 100000
set_option maxHeartbeats 4000000
namespace Go.Proofs.YtgpmlelfkjfbiaaGreatDoor
open Go Go.RowKit Go.Ev
instance (k:IntKind) (n:Int):Decidable (inK k n):=by cases k<;>exact inferInstanceAs (Decidable (_∧_))
@[go_sem] theorem ZB5 (n:Int):Zsx (.val (.int .u8 n))=(0≤n∧n≤255):=rfl
@[go_sem] theorem ZAb:Zfu []=(⟨#[]⟩:ByteArray):=rfl
theorem Ty.Fine.own {d:Nat} {t:Ty} (h:t.Fine d):ZrI t=0:=by cases h with | mk _ _ a _ _ _=>exact a
theorem Ty.Fine.good:∀ {d:Nat} {t:Ty},t.Fine d→t.Good
 | 0,t,h=>by cases h
 | d+1,t,h=>by
  cases h with
  | mk _ _ own he hf hd=>exact .mk t own (fun x hx=>(he x hx).good) fun p hp=>(hf p hp).good
theorem Ty.Fine.elem {d:Nat} {t x:Ty} (h:t.Fine (d+1)) (hx:x∈t.elem):x.Fine d:=by cases h with | mk _ _ _ a _ _=>exact a x hx
theorem Ty.Fine.field {d:Nat} {t:Ty} {p:TF} (h:t.Fine (d+1)) (hx:p∈t.fields):p.2.2.2.1.Fine d:=by cases h with | mk _ _ _ _ a _=>exact a p hx
theorem Ty.Fine.dfl {d:Nat} {t:Ty} {p:TF} (h:t.Fine (d+1)) (hx:p∈t.fields):∀ v∈p.2.2.2.2,Zp2 v=0∧Zpa 12 p.2.2.2.1 v=true:=by cases h with | mk _ _ _ _ _ a=>exact a p hx
theorem ZuR {v:Vl} (h:v.kind≠0):Za8 v=false:=by
 rw [Za8,decide_eq_false h];simp
theorem Zua {v:Vl} (h:v.Good):1≤v.kind∧v.kind≤10:=by
 have:=(ZkJ (ZhR h)).1
 omega
theorem ZmS (k:Int):∀ (l b:List TF),Zgb k b l=0→(l.map fun p=>p.2.1).Nodup∧∀ p∈l,∀ q∈b,q.2.1≠p.2.1
 | [],_,_=>⟨.nil,by simp⟩
 | x::r,b,h=>by
  rw [Zgb] at h
  by_cases q:Zkf k b x=0
  rotate_left
  ·
   rw [if_neg q] at h;exact absurd h q
  rw [if_pos q] at h
  obtain ⟨h1,h2⟩:=ZmS k r (b++[x]) h
  have hx:∀ y∈b,y.2.1≠x.2.1:=by
   intro y hy e
   unfold Zkf at q
   by_cases c1:Zei x.2.1=true
   ·
    rw [if_pos c1] at q
    by_cases c2:¬ (1≤x.1∧x.1≤9999)
    ·
     rw [if_pos c2] at q;exact absurd q (by decide)
    rw [if_neg c2,if_pos (List.any_eq_true.2 ⟨y,hy,by rw [Zbb,(Zfe _ _).2 e];simp⟩)] at q
    exact absurd q (by decide)
   ·
    rw [if_neg c1] at q;exact absurd q (by decide)
  refine ⟨List.nodup_cons.2 ⟨fun hm=>?_,h1⟩,fun p hp y hy=>?_⟩
  ·
   obtain ⟨p,hp,e⟩:=List.mem_map.1 hm
   exact h2 p hp x (by simp) e.symm
  ·
   rcases List.mem_cons.1 hp with rfl | hp
   ·
    exact hx y hy
   ·
    exact h2 p hp y (by simp [hy])
def Zck (a0:Int):Bool :=
 (decide (a0=2))||(decide (a0=3))
theorem ZlC (w0:World) (B:List (List AV)) (Rw:List RowA) (L:List LoopA) (a0:Int) (r:Bool) (h:Zck a0=r) :
  ACalls Tryz.prog w0 189 [.val (.int .i64 a0)] ⟨B,Rw,L⟩ fun x st=>x = .val (.bool r)∧st=⟨B,Rw,L⟩:=by
 rw [Zck] at h
 refine hd [.tmp 2] Tryz.func189 Tryz.ntmps189 fun M0 W0 hN b c a hu hO hs=>?_
 simp only [Zaq]
 refine rg [0] hs ?_
 refine rg [2] hs ?_
 exact rT h hs a hO
theorem Zhl (w0:World) (B:List (List AV)) (Rw:List RowA) (L:List LoopA) (a0:Int) :
  ACalls Tryz.prog w0 189 [.val (.int .i64 a0)] ⟨B,Rw,L⟩ fun x st=>x = .val (.bool (Zck a0))∧st=⟨B,Rw,L⟩:=ZlC w0 B Rw L a0 _ rfl
def Zb2 (a0:Int) (a1:Int):Bool :=
 (decide (a0=a1))||((Zck a0)&&(Zck a1))
theorem Zn7 (w0:World) (B:List (List AV)) (Rw:List RowA) (L:List LoopA) (a0:Int) (a1:Int) (r:Bool) (h:Zb2 a0 a1=r) :
  ACalls Tryz.prog w0 128 [.val (.int .i64 a0),.val (.int .i64 a1)] ⟨B,Rw,L⟩ fun x st=>x = .val (.bool r)∧st=⟨B,Rw,L⟩:=by
 rw [Zb2] at h
 refine hd [.tmp 4] Tryz.func128 Tryz.ntmps128 fun M0 W0 hN c d a hu hO hs=>?_
 simp only [Zaq]
 refine rg [0,1] hs ?_
 refine rc 3 [4] hs ?_;intro K2 b
 refine Zdv _ (fun _=>Zhl w0 _ _ _ a0) (hv hs) ?_
 refine nc hs ?_
 refine Zdv _ (fun _=>Zhl w0 _ _ _ a1) (hv hs) ?_
 refine ne hs b ?_
 clear b
 exact rT h hs a hO
theorem Zg3 (w0:World) (B:List (List AV)) (Rw:List RowA) (L:List LoopA) (a0:Int) (a1:Int) :
  ACalls Tryz.prog w0 128 [.val (.int .i64 a0),.val (.int .i64 a1)] ⟨B,Rw,L⟩ fun x st=>x = .val (.bool (Zb2 a0 a1))∧st=⟨B,Rw,L⟩:=Zn7 w0 B Rw L a0 a1 _ rfl
def ZaV (a0:Int) (a1:Ty):Bool :=
 (decide (a1.min≤a0))&&(decide (a0≤a1.max))
theorem ZlL (w0:World) (B:List (List AV)) (Rw:List RowA) (L:List LoopA) (a0:Int) (a1:Ty) (r:Bool) (h:ZaV a0 a1=r) :
  ACalls Tryz.prog w0 130 [.val (.int .i64 a0),.agg (a1.cs)] ⟨B,Rw,L⟩ fun x st=>x = .val (.bool r)∧st=⟨B,Rw,L⟩:=by
 rw [ZaV] at h
 refine hd [.tmp 4] Tryz.func130 Tryz.ntmps130 fun M0 W0 hN b c a hu hO hs=>?_
 simp only [Zaq]
 refine rg [0,3] hs ?_
 refine rg [4] hs ?_
 exact rT h hs a hO
theorem ZbK (w0:World) (B:List (List AV)) (Rw:List RowA) (L:List LoopA) (a0:Int) (a1:Ty) :
  ACalls Tryz.prog w0 130 [.val (.int .i64 a0),.agg (a1.cs)] ⟨B,Rw,L⟩ fun x st=>x = .val (.bool (ZaV a0 a1))∧st=⟨B,Rw,L⟩:=ZlL w0 B Rw L a0 a1 _ rfl
def ZaB (rec:Ty→Ty→Vl→Option (Vl × Bool)) (n:Nat) (again_l7:(List (ByteArray × Vl))→Int→Option (Vl × Bool)) (x20_l7:Int) (x8_k12:List (ByteArray × Vl)):Option (Vl × Bool) :=
 if I64 (x20_l7+1) then
  again_l7 x8_k12 (x20_l7+1)
 else none
def Zcq (rec:Ty→Ty→Vl→Option (Vl × Bool)) (n:Nat)  (x8_k4:List (ByteArray × Vl)):Option (Vl × Bool) :=
 (ZhY n x8_k4).bind fun y44 =>
 some ((y44,true))
def Zar (rec:Ty→Ty→Vl→Option (Vl × Bool)) (n:Nat) (a0:Ty) (a1:Ty) (a2:Vl):Nat→(List (ByteArray × Vl))→Int→Option (Vl × Bool)
 | 0,_,_=>none
 | m+1,x8_l7,x20_l7 =>
  if decide (x20_l7<((a1.fields.length:Int))) then
   (idx a1.fields x20_l7).bind fun x15 =>
   (Zb0 n a0.fields x15.1).bind fun y17 =>
   (Zfw n a2 y17.1.2.1).bind fun y19 =>
   if y17.2&&y19.2 then
    (rec y17.1.2.2.2.1 x15.2.2.2.1 y19.1).bind fun y23 =>
    if !y23.2 then
     some ((Vl.mk 0 0 0 ((⟨#[]⟩:ByteArray)) ([]) ([]),false))
    else
     if (x8_l7.length+1)*104≤140737488355328∧x8_l7.length+1≤4611686018427387904 then
      ZaB rec n (Zar rec n a0 a1 a2 m) x20_l7 (x8_l7++([(x15.2.1,y23.1)]))
     else none
   else
    if decide (x15.2.2.1=1) then
     some ((Vl.mk 0 0 0 ((⟨#[]⟩:ByteArray)) ([]) ([]),false))
    else
     if decide (x15.2.2.1=3) then
      (idx x15.2.2.2.2 0).bind fun x37 =>
      if (x8_l7.length+1)*104≤140737488355328∧x8_l7.length+1≤4611686018427387904 then
       ZaB rec n (Zar rec n a0 a1 a2 m) x20_l7 (x8_l7++([(x15.2.1,x37)]))
      else none
     else
      ZaB rec n (Zar rec n a0 a1 a2 m) x20_l7 x8_l7
  else
   Zcq rec n x8_l7
def ZcC (rec:Ty→Ty→Vl→Option (Vl × Bool)) (n:Nat) (a0:Ty) (a1:Ty) (a2:Vl):Option (Vl × Bool) :=
 Zar rec n a0 a1 a2 n ([]) 0
theorem Zis (w0:World) (rec:Ty→Ty→Vl→Option (Vl × Bool)) (ih:∀ (B:List (List AV)) (Rw:List RowA) (L:List LoopA) (a0:Ty) (a1:Ty) (a2:Vl) (r:Vl × Bool) (h:rec a0 a1 a2=some r),ACalls Tryz.prog w0 79 [.agg (a0.cs),.agg (a1.cs),.agg (a2.cs)] ⟨B,Rw,L⟩ fun x st=>x = .tup [.agg (r.1.cs),.val (.bool r.2)]∧st=⟨B,Rw,L⟩) (n:Nat) (B:List (List AV)) (Rw:List RowA) (L:List LoopA) (a0:Ty) (a1:Ty) (a2:Vl) (r:Vl × Bool) (h:ZcC rec n a0 a1 a2=some r) :
  ACalls Tryz.prog w0 132 [.agg (a0.cs),.agg (a1.cs),.agg (a2.cs)] ⟨B,Rw,L⟩ fun x st=>x = .tup [.agg (r.1.cs),.val (.bool r.2)]∧st=⟨B,Rw,L⟩:=by
 rw [ZcC] at h
 refine hd [.cell 6 46,.tmp 7] Tryz.func132 Tryz.ntmps132 fun M0 W0 hN aj am l hu hO hs=>?_
 simp only [Zaq]
 refine rg [3,4,5,6] hs ?_
 refine rg [3,4,5,6,8] hs ?_
 refine Zak (fun e st=>∃ (p:List (ByteArray × Vl)) (q:Ev.Own),Ck e st B Rw L [(6,true,.box (B.length+3) 0),(8,true,.list (p.map avF) q)] [a0.cs,a1.cs,a2.cs,[.val (.int .i64 0),.val (.int .i64 0),.val (.int .i64 0),.val (.string ((⟨#[]⟩:ByteArray))),.list ([]) .full,.list ([]) .full]] [(7,p.length,q)] (Zcq rec n p=some r)) ?_ ?_
 ·
  intro K5 a4
  refine rg [3,5,6,8,18,19,20] hs ?_
  apply Zad
  refine Zao (fun m e st=>∃ (a:List (ByteArray × Vl)) (d:Int) (i:Ev.Own),Ck e st B Rw L [(3,true,.box B.length 0),(5,true,.box (B.length+2) 0),(6,true,.box (B.length+3) 0),(8,true,.list (a.map avF) i),(18,true,.list (a1.fields.map ZeF) .none),(19,true,.val (.int .i64 ((a1.fields.length:Int)))),(20,true,.val (.int .i64 d))] [a0.cs,a1.cs,a2.cs,[.val (.int .i64 0),.val (.int .i64 0),.val (.int .i64 0),.val (.string ((⟨#[]⟩:ByteArray))),.list ([]) .full,.list ([]) .full]] [(7,a.length,i)] (Zar rec n a0 a1 a2 m a d=some r)) n ⟨([]),0,.full,([]),Rw,ef hs,ef hs,Owns.of_eq ((hO).full 7 0) le_,h⟩ ?_
  rintro ml7 e st ⟨a,d,i,Xl7,Rl7,rfl,rfl,hO,h⟩ Ul7 Vl7
  cases ml7 with
  | zero=>cases h
  | succ ml7 =>
  rw [Zar] at h
  have hU:=hO.unders
  simp only [List.mem_cons,List.not_mem_nil,or_false,forall_eq_or_imp,forall_eq] at hU
  refine td hN aj am l hO ?_
  refine rg [3,5,6,8,18,19,20,21] hs ?_
  apply Zaa;intro K9 aq
  refine cnd h hs (fun hs h=>?_) (fun hs h=>?_)
  rotate_left
  ·
   refine sx [6,8] hs a4 ?_
   exact ⟨a,i,([]),Rl7,ef hs,ef hs,Owns.of_eq (hO) le_,h⟩
  refine sk [3,5,6,8,18,19,20] hs aq ?_
  clear aq
  refine Zak (fun e st=>∃ (j:List (ByteArray × Vl)) (g:Ev.Own),Ck e st B Rw L [(3,true,.box B.length 0),(5,true,.box (B.length+2) 0),(6,true,.box (B.length+3) 0),(8,true,.list (j.map avF) g),(18,true,.list (a1.fields.map ZeF) .none),(19,true,.val (.int .i64 ((a1.fields.length:Int)))),(20,true,.val (.int .i64 d))] [a0.cs,a1.cs,a2.cs,[.val (.int .i64 0),.val (.int .i64 0),.val (.int .i64 0),.val (.string ((⟨#[]⟩:ByteArray))),.list ([]) .full,.list ([]) .full]] [(7,j.length,g)] (ZaB rec n (Zar rec n a0 a1 a2 ml7) d j=some r)) ?_ ?_
  ·
   intro K13 u
   apply Zad
   obtain ⟨b,av,h⟩:=bind_some h
   obtain ⟨a5,a7,ak⟩:=Zan av
   have ao:=Zap (f:=ZeF) ak
   have hs:=And.intro ao hs
   refine rg [3,5,6,8,10,18,19,20] hs ?_
   obtain ⟨c,au,h⟩:=bind_some h
   refine rc 2 [3,5,6,8,10,11,12,18,19,20] hs ?_;intro K16 af
   refine Zac _ (Zdx w0 n _ _ _ a0.fields b.1 _ au) (hv hs) ?_
   refine ne hs af ?_
   clear af
   obtain ⟨w,ar,h⟩:=bind_some h
   refine rc 2 [3,5,6,8,10,11,12,13,14,18,19,20] hs ?_;intro K18 ae
   refine Zac _ (Zlu w0 n _ _ _ a2 c.1.2.1 _ ar) (hv hs) ?_
   refine ne hs ae ?_
   clear ae
   apply Zad
   refine rg [3,5,6,8,10,11,13,18,19,20,39] hs ?_
   refine cnd h hs (fun hs h=>?_) (fun hs h=>?_)
   ·
    obtain ⟨ap,aw,h⟩:=bind_some h
    refine rc 2 [3,5,6,8,10,15,16,18,19,20] hs ?_;intro K22 ag
    refine Zac _ (ih _ _ _ c.1.2.2.2.1 b.2.2.2.1 w.1 _ aw) (hv hs) ?_
    refine ne hs ag ?_
    clear ag
    apply Zaa;intro K24 aa
    refine rg [3,5,6,8,10,15,18,19,20,54] hs ?_
    refine cnd h hs (fun hs h=>?_) (fun hs h=>?_)
    ·
     refine rg [6,7] hs ?_
     exact rt h hs l hO
    refine sk [3,5,6,8,10,15,18,19,20] hs aa ?_
    clear aa
    obtain ⟨ad,h⟩:=Zab h
    obtain ⟨a8,v,hO,k⟩:=hO.append (P:=Tryz.prog) Zkb (by rw [Zf1];rfl) (by decide) 1 ad.1 ad.2
    replace k:=fun (ys:List AV) B L o2=>k (a.map avF) ys B L o2 le_
    replace k:=fun (y:AV) B L o2=>k [y] B L o2 le_ ev
    try simp only [List.mem_singleton,List.mem_cons,List.not_mem_nil,or_false,forall_eq_or_imp,forall_eq,List.map_append,List.map_cons,List.map_nil,Ze5,ZeV,Ze4,ZeU,Ze2,Zeu,Zdc,Zc0,ZeX,Zb9,Zcc,Zc1,Zc8,Zc7] at k
    have hs:=And.intro k hs
    refine rl [3,5,6,8,18,19,20] hs u ?_
    exact ⟨(a++([(b.2.1,ap.1)])),a8,([.val (.int .i64 b.1)::(.val (.string b.2.1)::(.val (.int .i64 b.2.2.1)::((b.2.2.2.1.cs)++([.list (b.2.2.2.2.map avV) .none])))),.val (.int .i64 c.1.1)::(.val (.string c.1.2.1)::(.val (.int .i64 c.1.2.2.1)::((c.1.2.2.2.1.cs)++([.list (c.1.2.2.2.2.map avV) .none])))),w.1.cs,ap.1.cs]),v,ef hs,ef hs,Owns.of_eq (hO) le_,h⟩
   refine rg [3,5,6,8,10,18,19,20,63] hs ?_
   refine cnd h hs (fun hs h=>?_) (fun hs h=>?_)
   ·
    refine rg [6,7] hs ?_
    exact rt h hs l hO
   refine rg [3,5,6,8,10,18,19,20,68] hs ?_
   refine cnd h hs (fun hs h=>?_) (fun hs h=>?_)
   ·
    obtain ⟨az,ay,a6,t,h⟩:=ix avV h
    have ai:(b.2.2.2.2.map avV).getD 0 .junk=_:=t
    obtain ⟨ab,h⟩:=Zab h
    obtain ⟨a3,z,hO,o⟩:=hO.append (P:=Tryz.prog) Zkb (by rw [Zf1];rfl) (by decide) 1 ab.1 ab.2
    replace o:=fun (ys:List AV) B L o2=>o (a.map avF) ys B L o2 le_
    replace o:=fun (y:AV) B L o2=>o [y] B L o2 le_ ev
    try simp only [List.mem_singleton,List.mem_cons,List.not_mem_nil,or_false,forall_eq_or_imp,forall_eq,List.map_append,List.map_cons,List.map_nil,Ze5,ZeV,Ze4,ZeU,Ze2,Zeu,Zdc,Zc0,ZeX,Zb9,Zcc,Zc1,Zc8,Zc7] at o
    have hs:=And.intro t hs
    have hs:=And.intro ai hs
    have hs:=And.intro o hs
    refine dl 9 1 1 [3,5,6,8,18,19,20] hs mix u ?_
    exact ⟨(a++([(b.2.1,az)])),a3,([.val (.int .i64 b.1)::(.val (.string b.2.1)::(.val (.int .i64 b.2.2.1)::((b.2.2.2.1.cs)++([.list (b.2.2.2.2.map avV) .none])))),.val (.int .i64 c.1.1)::(.val (.string c.1.2.1)::(.val (.int .i64 c.1.2.2.1)::((c.1.2.2.2.1.cs)++([.list (c.1.2.2.2.2.map avV) .none])))),w.1.cs]),z,ef hs,ef hs,Owns.of_eq (hO) le_,h⟩
   refine sk [3,5,6,8,18,19,20] hs u ?_
   exact ⟨a,i,([.val (.int .i64 b.1)::(.val (.string b.2.1)::(.val (.int .i64 b.2.2.1)::((b.2.2.2.1.cs)++([.list (b.2.2.2.2.map avV) .none])))),.val (.int .i64 c.1.1)::(.val (.string c.1.2.1)::(.val (.int .i64 c.1.2.2.1)::((c.1.2.2.2.1.cs)++([.list (c.1.2.2.2.2.map avV) .none])))),w.1.cs]),Rl7,ef hs,ef hs,Owns.of_eq (hO) le_,h⟩
  ·
   clear h;rintro e st ⟨j,g,Xk12,Rk12,rfl,rfl,hO,h⟩
   rw [ZaB] at h
   have hU:=hO.unders
   simp only [List.mem_cons,List.not_mem_nil,or_false,forall_eq_or_imp,forall_eq] at hU
   refine td hN aj am l hO ?_
   obtain ⟨a9,h⟩:=Zab h
   refine rl [3,5,6,8,18,19,20] hs (fun e s=>Vl7 ml7 e s (Nat.lt_succ_self _)) ?_
   exact ⟨j,(d+1),g,([]),Rk12,ef hs,ef hs,Owns.of_eq (hO) le_,h⟩
 ·
  clear h;rintro e st ⟨p,q,Xk4,Rk4,rfl,rfl,hO,h⟩
  rw [Zcq] at h
  have hU:=hO.unders
  simp only [List.mem_cons,List.not_mem_nil,or_false,forall_eq_or_imp,forall_eq] at hU
  refine td hN aj am l hO ?_
  obtain ⟨ba,ax,h⟩:=bind_some h
  refine rc 2 [6,7] hs ?_;intro K43 ah
  refine Zac _ (Zsa w0 n _ _ _ p _ ax) (hv hs) ?_
  refine ne hs ah ?_
  clear ah
  exact rt h hs l hO
def ZdE (rec:Ty→Ty→Vl→Option (Vl × Bool)) (n:Nat) (a1:Ty) (a2:Vl) (b4_k41_4:List Vl):Option (Vl × Bool) :=
 some ((Vl.mk 8 0 0 ((⟨#[]⟩:ByteArray)) b4_k41_4 ([]),ZaV ((a2.list.length:Int)) a1))
def Zd9 (rec:Ty→Ty→Vl→Option (Vl × Bool)) (n:Nat) (a2:Vl):Option (Vl × Bool) :=
 some ((a2,true))
def ZbH (rec:Ty→Ty→Vl→Option (Vl × Bool)) (n:Nat) (a0:Ty) (a1:Ty) (a2:Vl):Nat→Int→(List Vl)→Option (Vl × Bool)
 | 0,_,_=>none
 | m+1,x94_l44,b4_l44_4 =>
  if decide (x94_l44<((a2.list.length:Int))) then
   (idx a2.list x94_l44).bind fun x50 =>
   (idx a0.elem 0).bind fun x52 =>
   (idx a1.elem 0).bind fun x53 =>
   (rec x52 x53 x50).bind fun y54 =>
   if !y54.2 then
    some ((Vl.mk 0 0 0 ((⟨#[]⟩:ByteArray)) ([]) ([]),false))
   else
    if (b4_l44_4.length+1)*88≤140737488355328∧b4_l44_4.length+1≤4611686018427387904 then
     if I64 (x94_l44+1) then
      (ZbH rec n a0 a1 a2 m) (x94_l44+1) (b4_l44_4++([y54.1]))
     else none
    else none
  else
   ZdE rec n a1 a2 b4_l44_4
def Zbd (rec:Ty→Ty→Vl→Option (Vl × Bool)) (n:Nat) (a0:Ty) (a1:Ty) (a2:Vl) (x54_k20:Bool):Option (Vl × Bool) :=
 if x54_k20 then
  some ((a2,ZaV a2.int a1))
 else
  if decide (a1.kind=5) then
   some ((a2,ZaV ((a2.text.size:Int)) a1))
  else
   if decide (a1.kind=4) then
    if decide (0<((a1.words.length:Int))) then
     (ZaR n a1.words a2.text).bind fun y35 =>
     some ((a2,y35))
    else
     some ((a2,ZaV ((a2.text.size:Int)) a1))
   else
    if decide (a1.kind=8) then
     ZbH rec n a0 a1 a2 n 0 ([])
    else
     if decide (a1.kind=9) then
      (ZcC rec n a0 a1 a2).bind fun y68 =>
      some ((y68.1,y68.2))
     else
      if decide (a1.kind=10) then
       (Zfj n a0 a2.text).bind fun y72 =>
       (Zb0 n a1.fields y72.1.1).bind fun y74 =>
       if !y74.2 then
        some ((Vl.mk 0 0 0 ((⟨#[]⟩:ByteArray)) ([]) ([]),false))
       else
        (idx a2.list 0).bind fun x80 =>
        (rec y72.1.2.2.2.1 y74.1.2.2.2.1 x80).bind fun y81 =>
        (Zg8 n y74.1.2.1 y81.1).bind fun y83 =>
        some ((y83,y81.2))
      else
       Zd9 rec n a2 
def Zbf (rec:Ty→Ty→Vl→Option (Vl × Bool)) (n:Nat) (a0:Ty) (a1:Ty) (a2:Vl) (x29_k11:Bool):Option (Vl × Bool) :=
 if x29_k11 then
  (ZbR n a2.int a0.scale a1.scale).bind fun y17 =>
  some ((Vl.mk a1.kind y17.1 a1.scale ((⟨#[]⟩:ByteArray)) ([]) ([]),y17.2&&(ZaV y17.1 a1)))
 else
  if decide (a1.kind=6) then
   Zbd rec n a0 a1 a2 true
  else
   Zbd rec n a0 a1 a2 (decide (a1.kind=7))
def Zev (rec:Ty→Ty→Vl→Option (Vl × Bool)) (n:Nat) (a0:Ty) (a1:Ty) (a2:Vl):Option (Vl × Bool) :=
 if !(Zb2 a0.kind a1.kind) then
  some ((Vl.mk 0 0 0 ((⟨#[]⟩:ByteArray)) ([]) ([]),false))
 else
  if decide (a1.kind=2) then
   Zbf rec n a0 a1 a2 true
  else
   Zbf rec n a0 a1 a2 (decide (a1.kind=3))
def Zax:Nat→Ty→Ty→Vl→Option (Vl × Bool)
 | 0,_,_,_=>none
 | n+1,a0,a1,a2=>Zev (Zax n) n a0 a1 a2
def Zgp (w0:World) (F:Ty→Ty→Vl→Option (Vl × Bool)):Prop:=∀ (B:List (List AV)) (Rw:List RowA) (L:List LoopA) (a0:Ty) (a1:Ty) (a2:Vl) (r:Vl × Bool),F a0 a1 a2=some r→ACalls Tryz.prog w0 79 [.agg (a0.cs),.agg (a1.cs),.agg (a2.cs)] ⟨B,Rw,L⟩ fun x st=>x = .tup [.agg (r.1.cs),.val (.bool r.2)]∧st=⟨B,Rw,L⟩
theorem Zkn (w0:World) (rec:Ty→Ty→Vl→Option (Vl × Bool)) (ih:Zgp w0 rec) (n:Nat):Zgp w0 (Zev rec n):=by
 intro B Rw L a0 a1 a2 r h
 rw [Zev] at h
 refine hd [.cell 6 46,.tmp 7] Tryz.func79 Tryz.ntmps79 fun M0 W0 hN ap aq b hu hO hs=>?_
 simp only [Zaq]
 refine rg [3,4,5,6] hs ?_
 apply Zaa;intro K2 bp
 refine rc 2 [3,4,5,6,25] hs ?_;intro K3 bn
 refine Zac _ (Zg3 w0 _ _ _ a0.kind a1.kind) (hv hs) ?_
 refine ne hs bn ?_
 clear bn
 refine cnd h hs (fun hs h=>?_) (fun hs h=>?_)
 ·
  have l:=hs.1
  refine rg [6,7] hs ?_
  exact rt h hs b hO
 have l:=hs.1
 refine sk [3,4,5,6] hs bp ?_
 clear bp
 refine Zak (fun e st=>Ck e st B Rw L [(5,true,.box (B.length+2) 0),(6,true,.box (B.length+3) 0)] [a0.cs,a1.cs,a2.cs,[.val (.int .i64 0),.val (.int .i64 0),.val (.int .i64 0),.val (.string ((⟨#[]⟩:ByteArray))),.list ([]) .full,.list ([]) .full]] [] (Zd9 rec n a2  = some r)) ?_ ?_
 ·
  intro K8 b9
  refine rg [3,4,5,6,28] hs ?_
  apply Zad
  refine Zak (fun e st=>∃ (aj:Bool),Ck e st B Rw L [(3,true,.box B.length 0),(4,true,.box (B.length+1) 0),(5,true,.box (B.length+2) 0),(6,true,.box (B.length+3) 0),(28,true,.val (.int .i64 a1.kind)),(29,true,.val (.bool aj))] [a0.cs,a1.cs,a2.cs,[.val (.int .i64 0),.val (.int .i64 0),.val (.int .i64 0),.val (.string ((⟨#[]⟩:ByteArray))),.list ([]) .full,.list ([]) .full]] [] (Zbf rec n a0 a1 a2 aj=some r)) ?_ ?_
  ·
   intro K12 bf
   refine rg [3,4,5,6,28,29] hs ?_
   refine cnd h hs (fun hs h=>?_) (fun hs h=>?_)
   ·
    refine sk [3,4,5,6,28,29] hs bf ?_
    exact ⟨true,([]),Rw,ef hs,ef hs,hO,h⟩
   refine rl [3,4,5,6,28,29] hs bf ?_
   exact ⟨(decide (a1.kind=3)),([]),Rw,ef hs,ef hs,hO,h⟩
  ·
   clear h;rintro e st ⟨aj,Xk11,Rk11,rfl,rfl,hO,h⟩
   rw [Zbf] at h
   refine td hN ap aq b hO ?_
   refine cnd h hs (fun hs h=>?_) (fun hs h=>?_)
   ·
    have a:=hs.1
    obtain ⟨b6,bk,h⟩:=bind_some h
    refine rc 2 [4,6,8,9] hs ?_;intro K16 ba
    refine Zac _ (ZfN w0 n _ _ _ a2.int a0.scale a1.scale _ bk) (hv hs) ?_
    refine ne hs ba ?_
    clear ba
    apply Zaa;intro K18 au
    apply ZfH mix [12] [6,7] kr (fun s=>∃ (X:List (List AV)) (ai:List RowA) (c3:List AV),s=⟨B++([a0.cs,a1.cs,a2.cs,c3]++X),ai,L⟩) 2 (B.length+4)
    ·
     simp +decide only [go_sem,Nat.reduceAdd]
    ·
     rintro s ⟨X,ai,c3,rfl⟩
     refine ⟨2,?_⟩
     rw [Zae];simp +decide only [go_sem,Nat.reduceAdd,Zef,and_self,imp_self,l,a]
     (repeat' apply And.intro)<;>first | refine Zdv _ (fun _=>ZbK w0 _ _ _ b6.1 a1) (hv hs) ?_ | exact cl
     rw [Zae];simp +decide only [go_sem,Nat.reduceAdd,and_self,imp_self,l,a]
     (repeat' apply And.intro)<;>first | rfl | exact cl
    ·
     refine Good.mk [12] kr ⟨[],_,_,by first | rfl | simp only [List.append_nil,List.nil_append]⟩ ?_ ?_
     ·
      intro h;exact absurd h (by decide)
     ·
      intro i hi;simp only [List.mem_cons,List.not_mem_nil,or_false] at hi
      subst hi
      ·
       apply Zbu rfl rfl ev
       ·
        simp +decide only [go_sem,Nat.reduceAdd,Zdp,l,a]
        (repeat' apply And.intro)<;>first | rfl | exact cl
       ·
        simp +decide only [go_sem,Nat.reduceAdd,l,a]
        refine Good.mk [] kr ⟨[],_,_,by first | rfl | simp only [List.append_nil,List.nil_append]⟩ ?_ ?_
        ·
         intro _;apply ZbQ [6,7];first | (simp +decide only [go_sem,Nat.reduceAdd,and_self,imp_self,l,a];done) | (simp +decide only [go_sem,Nat.reduceAdd,and_self,imp_self,l,a];rfl)
        ·
         intro i hi;cases hi
    simp +decide only [go_sem,Nat.reduceAdd,and_self,imp_self,l,a]
    (repeat' apply And.intro)<;>first | refine au _ _ ?_ | exact cl
    clear au
    exact rt h hs b hO
   have a:=hs.1
   refine Zak (fun e st=>∃ (ak:Bool),Ck e st B Rw L [(3,true,.box B.length 0),(4,true,.box (B.length+1) 0),(5,true,.box (B.length+2) 0),(6,true,.box (B.length+3) 0),(28,true,.val (.int .i64 a1.kind)),(54,true,.val (.bool ak))] [a0.cs,a1.cs,a2.cs,[.val (.int .i64 0),.val (.int .i64 0),.val (.int .i64 0),.val (.string ((⟨#[]⟩:ByteArray))),.list ([]) .full,.list ([]) .full]] [] (Zbd rec n a0 a1 a2 ak=some r)) ?_ ?_
   ·
    intro K21 a4
    refine rg [3,4,5,6,28,54] hs ?_
    refine cnd h hs (fun hs h=>?_) (fun hs h=>?_)
    ·
     refine sk [3,4,5,6,28,54] hs a4 ?_
     exact ⟨true,([]),Rk11,ef hs,ef hs,hO,h⟩
    refine rl [3,4,5,6,28,54] hs a4 ?_
    exact ⟨(decide (a1.kind=7)),([]),Rk11,ef hs,ef hs,hO,h⟩
   ·
    clear h;rintro e st ⟨ak,Xk20,Rk20,rfl,rfl,hO,h⟩
    rw [Zbd] at h
    refine td hN ap aq b hO ?_
    refine cnd h hs (fun hs h=>?_) (fun hs h=>?_)
    ·
     have j:=hs.1
     apply Zaa;intro K25 be
     refine dk 5 2 1 [6,7] hs mix ?_
     refine Zac _ (ZbK w0 _ _ _ a2.int a1) (hv hs) ?_
     refine dn hs be ?_
     clear be
     exact rt h hs b hO
    have j:=hs.1
    refine rg [3,4,5,6,28,62] hs ?_
    refine cnd h hs (fun hs h=>?_) (fun hs h=>?_)
    ·
     have k:=hs.1
     apply Zaa;intro K28 aw
     refine dk 6 2 1 [6,7] hs mix ?_
     refine Zac _ (ZbK w0 _ _ _ ((a2.text.size:Int)) a1) (hv hs) ?_
     refine dn hs aw ?_
     clear aw
     exact rt h hs b hO
    have k:=hs.1
    refine rg [3,4,5,6,28,70] hs ?_
    refine cnd h hs (fun hs h=>?_) (fun hs h=>?_)
    ·
     have d:=hs.1
     apply Zaa;intro K31 bb
     refine rg [4,5,6,75] hs ?_
     refine cnd h hs (fun hs h=>?_) (fun hs h=>?_)
     ·
      obtain ⟨cg,bw,h⟩:=bind_some h
      apply Zaa;intro K34 bh
      refine dk 6 2 1 [6,7] hs mix ?_
      refine Zac _ (ZcI w0 n _ _ _ a1.words a2.text _ bw) (hv hs) ?_
      refine dn hs bh ?_
      clear bh
      exact rt h hs b hO
     refine sk [4,5,6] hs bb ?_
     clear bb
     apply Zaa;intro K36 a3
     refine dk 6 2 1 [6,7] hs mix ?_
     refine Zac _ (ZbK w0 _ _ _ ((a2.text.size:Int)) a1) (hv hs) ?_
     refine dn hs a3 ?_
     clear a3
     exact rt h hs b hO
    have d:=hs.1
    refine rg [3,4,5,6,28,88] hs ?_
    refine cnd h hs (fun hs h=>?_) (fun hs h=>?_)
    ·
     have g:=hs.1
     refine rg [3,4,5,6,10] hs ?_
     refine Zak (fun e st=>∃ (z:List Vl) (af:Ev.Own),Ck e st B Rw L [(4,true,.box (B.length+1) 0),(5,true,.box (B.length+2) 0),(6,true,.box (B.length+3) 0),(10,true,.box (B.length+4) 0)] [a0.cs,a1.cs,a2.cs,[.val (.int .i64 0),.val (.int .i64 0),.val (.int .i64 0),.val (.string ((⟨#[]⟩:ByteArray))),.list ([]) .full,.list ([]) .full],[.val (.int .i64 8),.val (.int .i64 0),.val (.int .i64 0),.val (.string ((⟨#[]⟩:ByteArray))),.list (z.map avV) af,.list ([]) .full]] [(6,z.length,af)] (ZdE rec n a1 a2 z=some r)) ?_ ?_
     ·
      intro K42 bu
      refine rg [3,4,5,6,10,92,93,94] hs ?_
      apply Zad
      refine Zao (fun m e st=>∃ (ag:Int) (c:List Vl) (t:Ev.Own),Ck e st B Rw L [(3,true,.box B.length 0),(4,true,.box (B.length+1) 0),(5,true,.box (B.length+2) 0),(6,true,.box (B.length+3) 0),(10,true,.box (B.length+4) 0),(92,true,.list (a2.list.map avV) .none),(93,true,.val (.int .i64 ((a2.list.length:Int)))),(94,true,.val (.int .i64 ag))] [a0.cs,a1.cs,a2.cs,[.val (.int .i64 0),.val (.int .i64 0),.val (.int .i64 0),.val (.string ((⟨#[]⟩:ByteArray))),.list ([]) .full,.list ([]) .full],[.val (.int .i64 8),.val (.int .i64 0),.val (.int .i64 0),.val (.string ((⟨#[]⟩:ByteArray))),.list (c.map avV) t,.list ([]) .full]] [(6,c.length,t)] (ZbH rec n a0 a1 a2 m ag c=some r)) n ⟨0,([]),.full,([]),Rk20,ef hs,ef hs,Owns.of_eq ((hO).full 6 0) le_,h⟩ ?_
      rintro ml44 e st ⟨ag,c,t,Xl44,Rl44,rfl,rfl,hO,h⟩ Ul44 Vl44
      cases ml44 with
      | zero=>cases h
      | succ ml44 =>
      rw [ZbH] at h
      have hU:=hO.unders
      simp only [List.mem_cons,List.not_mem_nil,or_false,forall_eq_or_imp,forall_eq] at hU
      refine td hN ap aq b hO ?_
      refine rg [3,4,5,6,10,92,93,94,95] hs ?_
      apply Zaa;intro K46 a8
      refine cnd h hs (fun hs h=>?_) (fun hs h=>?_)
      rotate_left
      ·
       have ab:=hs.1
       refine sx [4,5,6,10] hs bu ?_
       exact ⟨c,t,([]),Rl44,ef hs,ef hs,Owns.of_eq (hO) le_,h⟩
      have ab:=hs.1
      refine sk [3,4,5,6,10,92,93,94] hs a8 ?_
      clear a8
      apply Zaa;intro K48 av
      apply Zad
      obtain ⟨bj,bm,h⟩:=bind_some h
      obtain ⟨b3,b2,bi⟩:=Zan bm
      have x:=Zap (f:=avV) bi
      have hs:=And.intro x hs
      refine rg [3,4,5,6,10,12,92,93,94] hs ?_
      apply Zaa;intro K51 a9
      obtain ⟨b0,ca,cb,o,h⟩:=ix avT h
      have w:(a0.elem.map avT).getD 0 .junk=_:=o
      obtain ⟨cc,b5,b1,p,h⟩:=ix avT h
      have u:(a1.elem.map avT).getD 0 .junk=_:=p
      obtain ⟨bl,bt,h⟩:=bind_some h
      apply ZfH mix [13,14] [3,4,5,6,10,13,14,92,93,94] kr (fun s=>∃ (X:List (List AV)) (ai:List RowA),s=⟨B++([a0.cs,a1.cs,a2.cs,[.val (.int .i64 0),.val (.int .i64 0),.val (.int .i64 0),.val (.string ((⟨#[]⟩:ByteArray))),.list ([]) .full,.list ([]) .full],[.val (.int .i64 8),.val (.int .i64 0),.val (.int .i64 0),.val (.string ((⟨#[]⟩:ByteArray))),.list (c.map avV) t,.list ([]) .full],bj.cs]++X),ai,L⟩) 3 (B.length+6)
      ·
       simp +decide only [go_sem,Nat.reduceAdd]
      ·
       rintro s ⟨X,ai,rfl⟩
       refine ⟨2,?_⟩
       rw [Zae];simp +decide only [go_sem,Nat.reduceAdd,Zef,l,a,j,k,d,g,ab,x,o,w,p,u]
       have hs:=And.intro o hs
       have hs:=And.intro w hs
       have hs:=And.intro p hs
       have hs:=And.intro u hs
       (repeat' apply And.intro)<;>first | refine Zac _ (ih _ _ _ b0 cc bj _ bt) (hv hs) ?_ | exact cl
       rw [Zae];simp +decide only [go_sem,Nat.reduceAdd,l,a,j,k,d,g,ab,x,o,w,p,u]
       (repeat' apply And.intro)<;>first | rfl | exact cl
      ·
       refine Good.mk [13] kr ⟨[],_,by first | rfl | simp only [List.append_nil,List.nil_append]⟩ ?_ ?_
       ·
        intro h;exact absurd h (by decide)
       ·
        intro i hi;simp only [List.mem_cons,List.not_mem_nil,or_false] at hi
        subst hi
        ·
         apply Zbu rfl rfl ev
         ·
          simp +decide only [go_sem,Nat.reduceAdd,Zdp,l,a,j,k,d,g,ab,x,o,w,p,u]
          (repeat' apply And.intro)<;>first | rfl | exact cl
         ·
          simp +decide only [go_sem,Nat.reduceAdd,l,a,j,k,d,g,ab,x,o,w,p,u]
          refine Good.mk [14] kr ⟨_,_,by first | rfl | simp only [List.append_nil,List.nil_append]⟩ ?_ ?_
          ·
           intro h;exact absurd h (by decide)
          ·
           intro i hi;simp only [List.mem_cons,List.not_mem_nil,or_false] at hi
           subst hi
           ·
            apply Zbu rfl rfl ev
            ·
             simp +decide only [go_sem,Nat.reduceAdd,Zdp,l,a,j,k,d,g,ab,x,o,w,p,u]
             (repeat' apply And.intro)<;>first | rfl | exact cl
            ·
             simp +decide only [go_sem,Nat.reduceAdd,l,a,j,k,d,g,ab,x,o,w,p,u]
             refine Good.mk [] kr ⟨_,_,by first | rfl | simp only [List.append_nil,List.nil_append]⟩ ?_ ?_
             ·
              intro _;apply ZbQ [3,4,5,6,10,13,14,92,93,94];first | (simp +decide only [go_sem,Nat.reduceAdd,l,a,j,k,d,g,ab,x,o,w,p,u];done) | (simp +decide only [go_sem,Nat.reduceAdd,l,a,j,k,d,g,ab,x,o,w,p,u];rfl)
             ·
              intro i hi;cases hi
      simp +decide only [go_sem,Nat.reduceAdd,l,a,j,k,d,g,ab,x,o,w,p,u]
      (repeat' apply And.intro)<;>first | refine a9 _ _ ?_ | exact cl
      clear a9
      apply Zaa;intro K55 a6
      have hs:=And.intro o hs
      have hs:=And.intro w hs
      have hs:=And.intro p hs
      have hs:=And.intro u hs
      refine rg [3,4,5,6,10,13,92,93,94,112] hs ?_
      refine cnd h hs (fun hs h=>?_) (fun hs h=>?_)
      ·
       refine rg [6,7] hs ?_
       exact rt h hs b hO
      refine sk [3,4,5,6,10,13,92,93,94] hs a6 ?_
      clear a6
      obtain ⟨bc,h⟩:=Zab h
      obtain ⟨b7,ar,hO,ah⟩:=hO.append (P:=Tryz.prog) Zou (by rw [ZjH];rfl) (by decide) 1 bc.1 bc.2
      replace ah:=fun (ys:List AV) B L o2=>ah (c.map avV) ys B L o2 le_
      replace ah:=fun (y:AV) B L o2=>ah [y] B L o2 le_ ev
      try simp only [List.mem_singleton,List.mem_cons,List.not_mem_nil,or_false,forall_eq_or_imp,forall_eq,List.map_append,List.map_cons,List.map_nil,Ze5,ZeV,Ze4,ZeU,Ze2,Zeu,Zdc,Zc0,ZeX,Zb9,Zcc,Zc1,Zc8,Zc7] at ah
      have hs:=And.intro ah hs
      refine rl [3,4,5,6,10,92,93,94] hs av ?_
      clear av
      obtain ⟨cd,h⟩:=Zab h
      refine rl [3,4,5,6,10,92,93,94] hs (fun e s=>Vl44 ml44 e s (Nat.lt_succ_self _)) ?_
      exact ⟨(ag+1),(c++([bl.1])),b7,([bj.cs,bl.1.cs]),ar,ef hs,ef hs,Owns.of_eq (hO) le_,h⟩
     ·
      clear h;rintro e st ⟨z,af,Xk41,Rk41,rfl,rfl,hO,h⟩
      rw [ZdE] at h
      have hU:=hO.unders
      simp only [List.mem_cons,List.not_mem_nil,or_false,forall_eq_or_imp,forall_eq] at hU
      refine td hN ap aq b hO ?_
      apply Zaa;intro K64 bd
      refine dk 6 2 1 [6,7] hs mix ?_
      refine Zac _ (ZbK w0 _ _ _ ((a2.list.length:Int)) a1) (hv hs) ?_
      refine dn hs bd ?_
      clear bd
      exact rt h hs b hO
    have g:=hs.1
    refine rg [3,4,5,6,28,127] hs ?_
    refine cnd h hs (fun hs h=>?_) (fun hs h=>?_)
    ·
     have ad:=hs.1
     obtain ⟨cf,bo,h⟩:=bind_some h
     refine rc 2 [6,7] hs ?_;intro K67 a7
     refine Zac _ (Zis w0 rec ih n _ _ _ a0 a1 a2 _ bo) (hv hs) ?_
     refine ne hs a7 ?_
     clear a7
     exact rt h hs b hO
    have ad:=hs.1
    refine rg [3,4,5,6,135] hs ?_
    refine cnd h hs (fun hs h=>?_) (fun hs h=>?_)
    ·
     have aa:=hs.1
     obtain ⟨am,br,h⟩:=bind_some h
     refine rc 2 [4,5,6,15] hs ?_;intro K71 ay
     refine Zac _ (ZlM w0 n _ _ _ a0 a2.text _ br) (hv hs) ?_
     refine ne hs ay ?_
     clear ay
     obtain ⟨ao,bq,h⟩:=bind_some h
     refine rc 2 [5,6,15,17,18] hs ?_;intro K73 bg
     refine Zac _ (Zdx w0 n _ _ _ a1.fields am.1.1 _ bq) (hv hs) ?_
     refine ne hs bg ?_
     clear bg
     apply Zaa;intro K75 ax
     refine rg [5,6,15,17,153] hs ?_
     refine cnd h hs (fun hs h=>?_) (fun hs h=>?_)
     ·
      have ae:=hs.1
      refine rg [6,7] hs ?_
      exact rt h hs b hO
     have ae:=hs.1
     refine sk [5,6,15,17] hs ax ?_
     clear ax
     apply Zaa;intro K79 a5
     obtain ⟨b8,b4,bz,q,h⟩:=ix avV h
     have v:(a2.list.map avV).getD 0 .junk=_:=q
     obtain ⟨bx,bv,h⟩:=bind_some h
     apply ZfH mix [12,13] [6,17,18,19] kr (fun s=>∃ (X:List (List AV)) (ai:List RowA),s=⟨B++([a0.cs,a1.cs,a2.cs,[.val (.int .i64 0),.val (.int .i64 0),.val (.int .i64 0),.val (.string ((⟨#[]⟩:ByteArray))),.list ([]) .full,.list ([]) .full],.val (.int .i64 am.1.1)::(.val (.string am.1.2.1)::(.val (.int .i64 am.1.2.2.1)::((am.1.2.2.2.1.cs)++([.list (am.1.2.2.2.2.map avV) .none])))),.val (.int .i64 ao.1.1)::(.val (.string ao.1.2.1)::(.val (.int .i64 ao.1.2.2.1)::((ao.1.2.2.2.1.cs)++([.list (ao.1.2.2.2.2.map avV) .none]))))]++X),ai,L⟩) 3 (B.length+6)
     ·
      simp +decide only [go_sem,Nat.reduceAdd]
     ·
      rintro s ⟨X,ai,rfl⟩
      refine ⟨2,?_⟩
      rw [Zae];simp +decide only [go_sem,Nat.reduceAdd,Zef,l,a,j,k,d,g,ad,aa,ae,q,v]
      have hs:=And.intro q hs
      have hs:=And.intro v hs
      (repeat' apply And.intro)<;>first | refine Zac _ (ih _ _ _ am.1.2.2.2.1 ao.1.2.2.2.1 b8 _ bv) (hv hs) ?_ | exact cl
      rw [Zae];simp +decide only [go_sem,Nat.reduceAdd,l,a,j,k,d,g,ad,aa,ae,q,v]
      (repeat' apply And.intro)<;>first | rfl | exact cl
     ·
      refine Good.mk [12] kr ⟨[],_,by first | rfl | simp only [List.append_nil,List.nil_append]⟩ ?_ ?_
      ·
       intro h;exact absurd h (by decide)
      ·
       intro i hi;simp only [List.mem_cons,List.not_mem_nil,or_false] at hi
       subst hi
       ·
        apply Zbu rfl rfl ev
        ·
         simp +decide only [go_sem,Nat.reduceAdd,Zdp,l,a,j,k,d,g,ad,aa,ae,q,v]
         (repeat' apply And.intro)<;>first | rfl | exact cl
        ·
         simp +decide only [go_sem,Nat.reduceAdd,l,a,j,k,d,g,ad,aa,ae,q,v]
         refine Good.mk [13] kr ⟨_,_,by first | rfl | simp only [List.append_nil,List.nil_append]⟩ ?_ ?_
         ·
          intro h;exact absurd h (by decide)
         ·
          intro i hi;simp only [List.mem_cons,List.not_mem_nil,or_false] at hi
          subst hi
          ·
           apply Zbu rfl rfl ev
           ·
            simp +decide only [go_sem,Nat.reduceAdd,Zdp,l,a,j,k,d,g,ad,aa,ae,q,v]
            (repeat' apply And.intro)<;>first | rfl | exact cl
           ·
            simp +decide only [go_sem,Nat.reduceAdd,l,a,j,k,d,g,ad,aa,ae,q,v]
            refine Good.mk [] kr ⟨_,_,by first | rfl | simp only [List.append_nil,List.nil_append]⟩ ?_ ?_
            ·
             intro _;apply ZbQ [6,17,18,19];first | (simp +decide only [go_sem,Nat.reduceAdd,l,a,j,k,d,g,ad,aa,ae,q,v];done) | (simp +decide only [go_sem,Nat.reduceAdd,l,a,j,k,d,g,ad,aa,ae,q,v];rfl)
            ·
             intro i hi;cases hi
     simp +decide only [go_sem,Nat.reduceAdd,l,a,j,k,d,g,ad,aa,ae,q,v]
     (repeat' apply And.intro)<;>first | refine a5 _ _ ?_ | exact cl
     clear a5
     obtain ⟨ce,bs,h⟩:=bind_some h
     have hs:=And.intro q hs
     have hs:=And.intro v hs
     refine rc 2 [6,7] hs ?_;intro K82 az
     refine Zac _ (Zrx w0 n _ _ _ ao.1.2.1 bx.1 _ bs) (hv hs) ?_
     refine ne hs az ?_
     clear az
     exact rt h hs b hO
    have aa:=hs.1
    refine sk [5,6] hs b9 ?_
    exact ⟨([]),Rk20,ef hs,ef hs,hO,h⟩
 ·
  clear h;rintro e st ⟨Xk7,Rk7,rfl,rfl,hO,h⟩
  rw [Zd9] at h
  refine td hN ap aq b hO ?_
  refine rg [6,7] hs ?_
  exact rt h hs b hO
theorem ZfV (w0:World):∀ n:Nat,Zgp w0 (Zax n)
 | 0=>fun _ _ _ _ _ _ _ h=>(nomatch h)
 | n+1=>Zkn w0 (Zax n) (ZfV w0 n) n
def Ze7 (n:Nat) (a0:List (ByteArray × Vl)) (a1:ByteArray × Vl) (x5_k4:Int):Option ((List (ByteArray × Vl))) :=
 if 0≤0∧0≤x5_k4∧x5_k4≤(a0.length:Int) then
  if (0+(a0.take x5_k4.toNat).length)*104≤140737488355328∧0+(a0.take x5_k4.toNat).length≤4611686018427387904 then
   if ((a0.take x5_k4.toNat).length+1)*104≤140737488355328∧(a0.take x5_k4.toNat).length+1≤4611686018427387904 then
    if 0≤x5_k4∧x5_k4≤(a0.length:Int)∧(a0.length:Int)≤(a0.length:Int) then
     if ((a0.take x5_k4.toNat).length+1+(a0.drop x5_k4.toNat).length)*104≤140737488355328∧(a0.take x5_k4.toNat).length+1+(a0.drop x5_k4.toNat).length≤4611686018427387904 then
      some (((a0.take x5_k4.toNat)++([a1]))++(a0.drop x5_k4.toNat))
     else none
    else none
   else none
  else none
 else none
def ZeW (n:Nat) (a0:List (ByteArray × Vl)) (a1:ByteArray × Vl):Nat→Int→Option ((List (ByteArray × Vl)))
 | 0,_=>none
 | m+1,x5_l6 =>
  if decide (0<x5_l6) then
   if I64 (x5_l6-1) then
    (idx a0 (x5_l6-1)).bind fun x11 =>
    if !(sLt x11.1 a1.1||sEq x11.1 a1.1) then
     if I64 (x5_l6-1) then
      (ZeW n a0 a1 m) (x5_l6-1)
     else none
    else
     Ze7 n a0 a1 x5_l6
   else none
  else
   Ze7 n a0 a1 x5_l6
def ZeD (n:Nat) (a0:List (ByteArray × Vl)) (a1:ByteArray × Vl):Option ((List (ByteArray × Vl))) :=
 ZeW n a0 a1 n ((a0.length:Int))
theorem Zmc (w0:World) (n:Nat) (B:List (List AV)) (Rw:List RowA) (L:List LoopA) (a0:List (ByteArray × Vl)) (a1:ByteArray × Vl) (r:(List (ByteArray × Vl))) (h:ZeD n a0 a1=some r) :
  ACalls Tryz.prog w0 89 [.list (a0.map avF) .none,.agg (.val (.string a1.1)::(a1.2.cs))] ⟨B,Rw,L⟩ fun x st=>x = .list (r.map avF) .none∧st=⟨B,Rw,L⟩:=by
 rw [ZeD] at h
 refine hd [.tmp 4] Tryz.func89 Tryz.ntmps89 fun M0 W0 hN p t g hu hO hs=>?_
 simp only [Zaq]
 refine rg [0,3] hs ?_
 refine rg [0,3,5] hs ?_
 refine Zak (fun e st=>∃ (a:Int),Ck e st B Rw L [(0,true,.list (a0.map avF) .none),(3,true,.box B.length 0),(5,true,.val (.int .i64 a))] [.val (.string a1.1)::(a1.2.cs)] [] (Ze7 n a0 a1 a=some r)) ?_ ?_
 ·
  intro K5 q
  apply Zad
  refine Zao (fun m e st=>∃ (b:Int),Ck e st B Rw L [(0,true,.list (a0.map avF) .none),(3,true,.box B.length 0),(5,true,.val (.int .i64 b))] [.val (.string a1.1)::(a1.2.cs)] [] (ZeW n a0 a1 m b=some r)) n ⟨((a0.length:Int)),([]),Rw,ef hs,ef hs,hO,h⟩ ?_
  rintro ml6 e st ⟨b,Xl6,Rl6,rfl,rfl,hO,h⟩ Ul6 Vl6
  cases ml6 with
  | zero=>cases h
  | succ ml6 =>
  rw [ZeW] at h
  refine td hN p t g hO ?_
  apply Zaa;intro K7 u
  apply Zaa;intro K8 i
  rcases Bool.eq_false_or_eq_true (decide (0<b)) with hf9 | hf9
  ·
   replace h:=Za9 h hf9
   obtain ⟨af,h⟩:=Zab h
   obtain ⟨ah,aa,ab,o,h⟩:=ix avF h
   have hs:=And.intro hf9 hs
   have hs:=And.intro o hs
   refine dl 13 1 1 [0,3,5,21] hs mix i ?_
   clear i
   refine cnd h hs (fun hs h=>?_) (fun hs h=>?_)
   rotate_left
   ·
    refine sx [0,3,5] hs q ?_
    exact ⟨b,([]),Rl6,ef hs,ef hs,hO,h⟩
   refine sk [0,3,5] hs u ?_
   clear u
   apply Zad
   obtain ⟨ag,h⟩:=Zab h
   refine rl [0,3,5] hs (fun e s=>Vl6 ml6 e s (Nat.lt_succ_self _)) ?_
   exact ⟨(b-1),([]),Rl6,ef hs,ef hs,hO,h⟩
  ·
   replace h:=Zba h hf9
   have hs:=And.intro hf9 hs
   refine dl 13 1 1 [0,3,5,21] hs mix i ?_
   clear i
   refine ZaQ false ev (ef hs) (fun hb14=>by cases hb14) (fun hb14=>?_)
   refine sx [0,3,5] hs q ?_
   exact ⟨b,([]),Rl6,ef hs,ef hs,hO,h⟩
 ·
  clear h;rintro e st ⟨a,Xk4,Rk4,rfl,rfl,hO,h⟩
  rw [Ze7] at h
  refine td hN p t g hO ?_
  obtain ⟨ae,h⟩:=Zab h
  obtain ⟨l,h⟩:=Zab h
  have hO:=hO.full 7 0
  obtain ⟨ai,w,hO,d⟩:=hO.append (P:=Tryz.prog) Zkb (by rw [Zf1];rfl) (by decide) ((a0.take a.toNat).length) l.1 l.2
  simp only [Nat.zero_add] at hO
  replace d:=fun (ys:List AV) B L o2=>d ([]) ys B L o2 le_
  replace d:=fun B L o2=>d ((a0.take a.toNat).map avF) B L o2 le_ (by simp +decide only [go_sem,Nat.reduceAdd])
  try simp only [List.mem_singleton,List.mem_cons,List.not_mem_nil,or_false,forall_eq_or_imp,forall_eq,List.map_append,List.map_cons,List.map_nil,Ze5,ZeV,Ze4,ZeU,Ze2,Zeu,Zdc,Zc0,ZeX,Zb9,Zcc,Zc1,Zc8,Zc7] at d
  have hs:=And.intro d hs
  refine rg [0,3,5,6] hs ?_
  obtain ⟨j,h⟩:=Zab h
  obtain ⟨ak,v,hO,c⟩:=hO.append (P:=Tryz.prog) Zkb (by rw [Zf1];rfl) (by decide) 1 j.1 j.2
  replace c:=fun (ys:List AV) B L o2=>c ((a0.take a.toNat).map avF) ys B L o2 le_
  replace c:=fun (y:AV) B L o2=>c [y] B L o2 le_ (by simp +decide only [go_sem,Nat.reduceAdd])
  try simp only [List.mem_singleton,List.mem_cons,List.not_mem_nil,or_false,forall_eq_or_imp,forall_eq,List.map_append,List.map_cons,List.map_nil,Ze5,ZeV,Ze4,ZeU,Ze2,Zeu,Zdc,Zc0,ZeX,Zb9,Zcc,Zc1,Zc8,Zc7] at c
  have hs:=And.intro c hs
  refine rg [0,5,6] hs ?_
  obtain ⟨ad,h⟩:=Zab h
  obtain ⟨k,h⟩:=Zab h
  obtain ⟨aj,z,hO,f⟩:=hO.append (P:=Tryz.prog) Zkb (by rw [Zf1];rfl) (by decide) ((a0.drop a.toNat).length) k.1 k.2
  replace f:=fun (ys:List AV) B L o2=>f (((a0.take a.toNat)++([a1])).map avF) ys B L o2 le_
  replace f:=fun B L o2=>f ((a0.drop a.toNat).map avF) B L o2 le_ (by simp +decide only [go_sem,Nat.reduceAdd])
  try simp only [List.mem_singleton,List.mem_cons,List.not_mem_nil,or_false,forall_eq_or_imp,forall_eq,List.map_append,List.map_cons,List.map_nil,Ze5,ZeV,Ze4,ZeU,Ze2,Zeu,Zdc,Zc0,ZeX,Zb9,Zcc,Zc1,Zc8,Zc7] at f
  have hs:=And.intro f hs
  refine rg [4] hs ?_
  exact rt h hs g hO
def Zbs (a0:Ty):Int :=
 if decide (a0.kind=2) then
  0
 else
  if decide (a0.kind=3) then
   a0.scale
  else
   (-1)
theorem ZrT (w0:World) (B:List (List AV)) (Rw:List RowA) (L:List LoopA) (a0:Ty) (r:Int) (h:Zbs a0=r) :
  ACalls Tryz.prog w0 84 [.agg (a0.cs)] ⟨B,Rw,L⟩ fun x st=>x = .val (.int .i64 r)∧st=⟨B,Rw,L⟩:=by
 rw [Zbs] at h
 refine hd [.tmp 2] Tryz.func84 Tryz.ntmps84 fun M0 W0 hN d e a hu hO hs=>?_
 simp only [Zaq]
 refine rg [1] hs ?_
 apply Zaa;intro K2 c
 refine rg [1,5] hs ?_
 refine cnd h hs (fun hs h=>?_) (fun hs h=>?_)
 ·
  refine rg [2] hs ?_
  exact rT h hs a hO
 refine sk [1] hs c ?_
 clear c
 apply Zaa;intro K6 b
 refine rg [1,8] hs ?_
 refine cnd h hs (fun hs h=>?_) (fun hs h=>?_)
 ·
  refine rg [2] hs ?_
  exact rT h hs a hO
 refine sk [] hs b ?_
 clear b
 refine rg [2] hs ?_
 exact rT h hs a hO
theorem Zgh (w0:World) (B:List (List AV)) (Rw:List RowA) (L:List LoopA) (a0:Ty) :
  ACalls Tryz.prog w0 84 [.agg (a0.cs)] ⟨B,Rw,L⟩ fun x st=>x = .val (.int .i64 (Zbs a0))∧st=⟨B,Rw,L⟩:=ZrT w0 B Rw L a0 _ rfl
def ZkD (rec:Ty→Ty→Vl→Option (Vl × Bool)) (n:Nat) (a1:Ty) (a2:Vl) (b3_k38_4:List Vl):Option (Vl × Bool) :=
 some ((Vl.mk 8 0 0 ((⟨#[]⟩:ByteArray)) b3_k38_4 ([]),Zci ((a2.list.length:Int)) a1))
def ZnF (rec:Ty→Ty→Vl→Option (Vl × Bool)) (n:Nat)  : Option (Vl × Bool) :=
 some ((Vl.mk 0 0 0 ((⟨#[]⟩:ByteArray)) ([]) ([]),false))
def Zfh (rec:Ty→Ty→Vl→Option (Vl × Bool)) (n:Nat) (again_l89:Int→(List (ByteArray × Vl))→Option (Vl × Bool)) (x18_l89:Int) (b3_k94_5:List (ByteArray × Vl)):Option (Vl × Bool) :=
 if I64 (x18_l89+1) then
  again_l89 (x18_l89+1) b3_k94_5
 else none
def ZkA (rec:Ty→Ty→Vl→Option (Vl × Bool)) (n:Nat)  (b3_k86_5:List (ByteArray × Vl)):Option (Vl × Bool) :=
 some ((Vl.mk 9 0 0 ((⟨#[]⟩:ByteArray)) ([]) b3_k86_5,true))
def Zg4 (rec:Ty→Ty→Vl→Option (Vl × Bool)) (n:Nat) (a0:Ty) (a1:Ty) (a2:Vl):Nat→Int→(List Vl)→Option (Vl × Bool)
 | 0,_,_=>none
 | m+1,x10_l41,b3_l41_4 =>
  if decide (x10_l41<((a2.list.length:Int))) then
   (idx a0.elem 0).bind fun x47 =>
   (idx a1.elem 0).bind fun x48 =>
   (idx a2.list x10_l41).bind fun x49 =>
   (rec x47 x48 x49).bind fun y50 =>
   if !y50.2 then
    some ((Vl.mk 0 0 0 ((⟨#[]⟩:ByteArray)) ([]) ([]),false))
   else
    if (b3_l41_4.length+1)*88≤140737488355328∧b3_l41_4.length+1≤4611686018427387904 then
     if I64 (x10_l41+1) then
      (Zg4 rec n a0 a1 a2 m) (x10_l41+1) (b3_l41_4++([y50.1]))
     else none
    else none
  else
   ZkD rec n a1 a2 b3_l41_4
def Zg5 (rec:Ty→Ty→Vl→Option (Vl × Bool)) (n:Nat) (a0:Ty) (a1:Ty) (a2:Vl):Nat→Int→Option (Vl × Bool)
 | 0,_=>none
 | m+1,x13_l67 =>
  if decide (x13_l67<((a0.fields.length:Int))) then
   (idx a0.fields x13_l67).bind fun x73 =>
   (Zfx n a1 x73.1).bind fun y74 =>
   if (!(sEq x73.2.1 a2.text))||(!y74.2) then
    if I64 (x13_l67+1) then
     (Zg5 rec n a0 a1 a2 m) (x13_l67+1)
    else none
   else
    (idx a2.list 0).bind fun x80 =>
    (rec x73.2.2.2.1 y74.1.2.2.2.1 x80).bind fun y81 =>
    some ((Vl.mk 10 0 0 y74.1.2.1 ([y81.1]) ([]),y81.2))
  else
   ZnF rec n 
def Zda (rec:Ty→Ty→Vl→Option (Vl × Bool)) (n:Nat) (a0:Ty) (a1:Ty) (a2:Vl):Nat→Int→(List (ByteArray × Vl))→Option (Vl × Bool)
 | 0,_,_=>none
 | m+1,x18_l89,b3_l89_5 =>
  if decide (x18_l89<((a1.fields.length:Int))) then
   (idx a1.fields x18_l89).bind fun x97 =>
   (Zfx n a0 x97.1).bind fun y99 =>
   (ZjS n a2 y99.1.2.1).bind fun y101 =>
   if y99.2&&y101.2 then
    (rec y99.1.2.2.2.1 x97.2.2.2.1 y101.1).bind fun y105 =>
    if !y105.2 then
     some ((Vl.mk 0 0 0 ((⟨#[]⟩:ByteArray)) ([]) ([]),false))
    else
     (ZeD n b3_l89_5 ((x97.2.1,y105.1))).bind fun y110 =>
     Zfh rec n (Zda rec n a0 a1 a2 m) x18_l89 y110
   else
    if decide (x97.2.2.1=1) then
     some ((Vl.mk 0 0 0 ((⟨#[]⟩:ByteArray)) ([]) ([]),false))
    else
     if decide (x97.2.2.1=3) then
      (idx x97.2.2.2.2 0).bind fun x116 =>
      (ZeD n b3_l89_5 ((x97.2.1,x116))).bind fun y117 =>
      Zfh rec n (Zda rec n a0 a1 a2 m) x18_l89 y117
     else
      Zfh rec n (Zda rec n a0 a1 a2 m) x18_l89 b3_l89_5
  else
   ZkA rec n b3_l89_5
def ZkK (rec:Ty→Ty→Vl→Option (Vl × Bool)) (n:Nat) (a0:Ty) (a1:Ty) (a2:Vl):Option (Vl × Bool) :=
 Zda rec n a0 a1 a2 n 0 ([])
def Zd3 (rec:Ty→Ty→Vl→Option (Vl × Bool)) (n:Nat) (a0:Ty) (a1:Ty) (a2:Vl) (x83_k28:Bool):Option (Vl × Bool) :=
 if x83_k28 then
  some ((a2,Zci a2.int a1))
 else
  if decide (a1.kind=8) then
   Zg4 rec n a0 a1 a2 n 0 ([])
  else
   if decide (a1.kind=10) then
    Zg5 rec n a0 a1 a2 n 0
   else
    ZkK rec n a0 a1 a2 
def Zpe (rec:Ty→Ty→Vl→Option (Vl × Bool)) (n:Nat) (a0:Ty) (a1:Ty) (a2:Vl):Option (Vl × Bool) :=
 if (decide (0≤(Zbs a0)))&&(decide (0≤(Zbs a1))) then
  if I64 ((Zbs a1)-(Zbs a0)) then
   (ZgL n a2.int ((Zbs a1)-(Zbs a0))).bind fun y7 =>
   some ((Vl.mk a1.kind y7.1 (Zbs a1) ((⟨#[]⟩:ByteArray)) ([]) ([]),y7.2&&(Zci y7.1 a1)))
  else none
 else
  if !(decide (a0.kind=a1.kind)) then
   some ((Vl.mk 0 0 0 ((⟨#[]⟩:ByteArray)) ([]) ([]),false))
  else
   if decide (a1.kind=1) then
    some ((a2,true))
   else
    if decide (a1.kind=4) then
     (ZkO n a2.text a1).bind fun y23 =>
     some ((a2,y23))
    else
     if decide (a1.kind=5) then
      some ((a2,Zci ((a2.text.size:Int)) a1))
     else
      if decide (a1.kind=6) then
       Zd3 rec n a0 a1 a2 true
      else
       Zd3 rec n a0 a1 a2 (decide (a1.kind=7))
def ZfF:Nat→Ty→Ty→Vl→Option (Vl × Bool)
 | 0,_,_,_=>none
 | n+1,a0,a1,a2=>Zpe (ZfF n) n a0 a1 a2
def Zsi (w0:World) (F:Ty→Ty→Vl→Option (Vl × Bool)):Prop:=∀ (B:List (List AV)) (Rw:List RowA) (L:List LoopA) (a0:Ty) (a1:Ty) (a2:Vl) (r:Vl × Bool),F a0 a1 a2=some r→ACalls Tryz.prog w0 33 [.agg (a0.cs),.agg (a1.cs),.agg (a2.cs)] ⟨B,Rw,L⟩ fun x st=>x = .tup [.agg (r.1.cs),.val (.bool r.2)]∧st=⟨B,Rw,L⟩
theorem ZtI (w0:World) (rec:Ty→Ty→Vl→Option (Vl × Bool)) (ih:Zsi w0 rec) (n:Nat):Zsi w0 (Zpe rec n):=by
 intro B Rw L a0 a1 a2 r h
 rw [Zpe] at h
 refine hd [.cell 6 46,.tmp 7] Tryz.func33 Tryz.ntmps33 fun M0 W0 hN a4 a5 a hu hO hs=>?_
 simp only [Zaq]
 refine rg [3,4,5,6] hs ?_
 apply Zaa;intro K2 cc
 have cv:=And.intro and_self @imp_self
 have hs:=And.intro cv hs
 refine rc 3 [3,4,5,6,33] hs ?_;intro K3 ca
 refine Zac _ (Zgh w0 _ _ _ a0) (hv hs) ?_
 refine nc hs ?_
 refine Zdv _ (fun _=>Zgh w0 _ _ _ a1) (hv hs) ?_
 refine ne hs ca ?_
 clear ca
 refine cnd h hs (fun hs h=>?_) (fun hs h=>?_)
 ·
  have o:=hs.1
  obtain ⟨dm,h⟩:=Zab h
  obtain ⟨y7,c9,h⟩:=bind_some h
  apply Zaa;intro K5 b7
  refine dk 13 4 1 [4,6,8,9] hs mix ?_
  refine Zac _ (Zgh w0 _ _ _ a1) (hv hs) ?_
  refine nc hs ?_
  refine Zac _ (Zgh w0 _ _ _ a0) (hv hs) ?_
  refine nc hs ?_
  refine Zac _ (Zsr w0 n _ _ _ a2.int ((Zbs a1)-(Zbs a0)) _ c9) (hv hs) ?_
  refine dn hs b7 ?_
  clear b7
  apply Zaa;intro K8 ck
  apply ZfH mix [12] [6,7] kr (fun s=>∃ (X:List (List AV)) (ai:List RowA) (c3:List AV),s=⟨B++([a0.cs,a1.cs,a2.cs,c3]++X),ai,L⟩) 2 (B.length+4)
  ·
   simp +decide only [go_sem,Nat.reduceAdd]
  ·
   rintro s ⟨X,ai,c3,rfl⟩
   refine ⟨3,?_⟩
   rw [Zae];simp +decide only [go_sem,Nat.reduceAdd,Zef,and_self,imp_self,o]
   (repeat' apply And.intro)<;>first | refine Zac _ (Zgh w0 _ _ _ a1) (hv hs) ?_ | exact cl
   rw [Zae];simp +decide only [go_sem,Nat.reduceAdd,and_self,imp_self,o]
   (repeat' apply And.intro)<;>first | refine Zdv _ (fun _=>Zft w0 _ _ _ y7.1 a1) (hv hs) ?_ | exact cl
   rw [Zae];simp +decide only [go_sem,Nat.reduceAdd,and_self,imp_self,o]
   (repeat' apply And.intro)<;>first | rfl | exact cl
  ·
   refine Good.mk [12] kr ⟨[],_,_,by first | rfl | simp only [List.append_nil,List.nil_append]⟩ ?_ ?_
   ·
    intro h;exact absurd h (by decide)
   ·
    intro i hi;simp only [List.mem_cons,List.not_mem_nil,or_false] at hi
    subst hi
    ·
     apply Zbu rfl rfl ev
     ·
      simp +decide only [go_sem,Nat.reduceAdd,Zdp,o]
      (repeat' apply And.intro)<;>first | rfl | exact cl
     ·
      simp +decide only [go_sem,Nat.reduceAdd,o]
      refine Good.mk [] kr ⟨[],_,_,by first | rfl | simp only [List.append_nil,List.nil_append]⟩ ?_ ?_
      ·
       intro _;apply ZbQ [6,7];first | (simp +decide only [go_sem,Nat.reduceAdd,and_self,imp_self,o];done) | (simp +decide only [go_sem,Nat.reduceAdd,and_self,imp_self,o];rfl)
      ·
       intro i hi;cases hi
  simp +decide only [go_sem,Nat.reduceAdd,and_self,imp_self,o]
  (repeat' apply And.intro)<;>first | refine ck _ _ ?_ | exact cl
  clear ck
  exact rt h hs a hO
 have o:=hs.1
 refine sk [3,4,5,6] hs cc ?_
 clear cc
 apply Zaa;intro K9 b5
 refine rg [3,4,5,6,61] hs ?_
 refine cnd h hs (fun hs h=>?_) (fun hs h=>?_)
 ·
  have d:=hs.1
  refine rg [6,7] hs ?_
  exact rt h hs a hO
 have d:=hs.1
 refine sk [3,4,5,6] hs b5 ?_
 clear b5
 refine Zak (fun e st=>Ck e st B Rw L [(3,true,.box B.length 0),(4,true,.box (B.length+1) 0),(5,true,.box (B.length+2) 0),(6,true,.box (B.length+3) 0)] [a0.cs,a1.cs,a2.cs,[.val (.int .i64 0),.val (.int .i64 0),.val (.int .i64 0),.val (.string ((⟨#[]⟩:ByteArray))),.list ([]) .full,.list ([]) .full]] [] (ZkK rec n a0 a1 a2  = some r)) ?_ ?_
 ·
  intro K15 cg
  refine rg [3,4,5,6,64] hs ?_
  apply Zad
  refine rg [3,4,5,6,64,65] hs ?_
  refine cnd h hs (fun hs h=>?_) (fun hs h=>?_)
  ·
   have k:=hs.1
   refine rg [6,7] hs ?_
   exact rt h hs a hO
  have k:=hs.1
  refine rg [3,4,5,6,64,68] hs ?_
  refine cnd h hs (fun hs h=>?_) (fun hs h=>?_)
  ·
   have b:=hs.1
   obtain ⟨di,cf,h⟩:=bind_some h
   apply Zaa;intro K22 bn
   refine dk 5 2 1 [6,7] hs mix ?_
   refine Zac _ (ZtC w0 n _ _ _ a2.text a1 _ cf) (hv hs) ?_
   refine dn hs bn ?_
   clear bn
   exact rt h hs a hO
  have b:=hs.1
  refine rg [3,4,5,6,64,75] hs ?_
  refine cnd h hs (fun hs h=>?_) (fun hs h=>?_)
  ·
   have g:=hs.1
   apply Zaa;intro K26 bq
   refine dk 6 2 1 [6,7] hs mix ?_
   refine Zac _ (Zft w0 _ _ _ ((a2.text.size:Int)) a1) (hv hs) ?_
   refine dn hs bq ?_
   clear bq
   exact rt h hs a hO
  have g:=hs.1
  refine Zak (fun e st=>∃ (az:Bool),Ck e st B Rw L [(3,true,.box B.length 0),(4,true,.box (B.length+1) 0),(5,true,.box (B.length+2) 0),(6,true,.box (B.length+3) 0),(64,true,.val (.int .i64 a1.kind)),(83,true,.val (.bool az))] [a0.cs,a1.cs,a2.cs,[.val (.int .i64 0),.val (.int .i64 0),.val (.int .i64 0),.val (.string ((⟨#[]⟩:ByteArray))),.list ([]) .full,.list ([]) .full]] [] (Zd3 rec n a0 a1 a2 az=some r)) ?_ ?_
  ·
   intro K29 bm
   refine rg [3,4,5,6,64,83] hs ?_
   refine cnd h hs (fun hs h=>?_) (fun hs h=>?_)
   ·
    refine sk [3,4,5,6,64,83] hs bm ?_
    exact ⟨true,([]),Rw,ef hs,ef hs,hO,h⟩
   refine rl [3,4,5,6,64,83] hs bm ?_
   exact ⟨(decide (a1.kind=7)),([]),Rw,ef hs,ef hs,hO,h⟩
  ·
   clear h;rintro e st ⟨az,Xk28,Rk28,rfl,rfl,hO,h⟩
   rw [Zd3] at h
   refine td hN a4 a5 a hO ?_
   refine cnd h hs (fun hs h=>?_) (fun hs h=>?_)
   ·
    have j:=hs.1
    apply Zaa;intro K33 br
    refine dk 5 2 1 [6,7] hs mix ?_
    refine Zac _ (Zft w0 _ _ _ a2.int a1) (hv hs) ?_
    refine dn hs br ?_
    clear br
    exact rt h hs a hO
   have j:=hs.1
   refine rg [3,4,5,6,64,91] hs ?_
   refine cnd h hs (fun hs h=>?_) (fun hs h=>?_)
   ·
    have c:=hs.1
    refine rg [3,4,5,6] hs ?_
    refine Zak (fun e st=>∃ (ak:List Vl) (aq:Ev.Own),Ck e st B Rw L [(4,true,.box (B.length+1) 0),(5,true,.box (B.length+2) 0),(6,true,.box (B.length+3) 0)] [a0.cs,a1.cs,a2.cs,[.val (.int .i64 8),.val (.int .i64 0),.val (.int .i64 0),.val (.string ((⟨#[]⟩:ByteArray))),.list (ak.map avV) aq,.list ([]) .full]] [(6,ak.length,aq)] (ZkD rec n a1 a2 ak=some r)) ?_ ?_
    ·
     intro K39 b4
     refine rg [3,4,5,6,10] hs ?_
     apply Zad
     refine Zao (fun m e st=>∃ (aw:Int) (q:List Vl) (ae:Ev.Own),Ck e st B Rw L [(3,true,.box B.length 0),(4,true,.box (B.length+1) 0),(5,true,.box (B.length+2) 0),(6,true,.box (B.length+3) 0),(10,true,.val (.int .i64 aw))] [a0.cs,a1.cs,a2.cs,[.val (.int .i64 8),.val (.int .i64 0),.val (.int .i64 0),.val (.string ((⟨#[]⟩:ByteArray))),.list (q.map avV) ae,.list ([]) .full]] [(6,q.length,ae)] (Zg4 rec n a0 a1 a2 m aw q=some r)) n ⟨0,([]),.full,([]),Rk28,ef hs,ef hs,Owns.of_eq ((hO).full 6 0) le_,h⟩ ?_
     rintro ml41 e st ⟨aw,q,ae,Xl41,Rl41,rfl,rfl,hO,h⟩ Ul41 Vl41
     cases ml41 with
     | zero=>cases h
     | succ ml41 =>
     rw [Zg4] at h
     have hU:=hO.unders
     simp only [List.mem_cons,List.not_mem_nil,or_false,forall_eq_or_imp,forall_eq] at hU
     refine td hN a4 a5 a hO ?_
     apply Zaa;intro K42 bt
     refine rg [3,4,5,6,10,98] hs ?_
     refine cnd h hs (fun hs h=>?_) (fun hs h=>?_)
     rotate_left
     ·
      have ap:=hs.1
      refine sx [4,5,6] hs b4 ?_
      exact ⟨q,ae,([]),Rl41,ef hs,ef hs,Owns.of_eq (hO) le_,h⟩
     have ap:=hs.1
     refine sk [3,4,5,6,10] hs bt ?_
     clear bt
     apply Zaa;intro K45 bw
     apply Zad
     apply Zaa;intro K46 bo
     obtain ⟨c0,cu,ct,z,h⟩:=ix avT h
     have af:(a0.elem.map avT).getD 0 .junk=_:=z
     obtain ⟨cw,c6,c4,w,h⟩:=ix avT h
     have ad:(a1.elem.map avT).getD 0 .junk=_:=w
     obtain ⟨c2,c7,da,ab,h⟩:=ix avV h
     obtain ⟨b8,b6,h⟩:=bind_some h
     apply ZfH mix [17,18] [3,4,5,6,10,11,12] kr (fun s=>∃ (X:List (List AV)) (ai:List RowA),s=⟨B++([a0.cs,a1.cs,a2.cs,[.val (.int .i64 8),.val (.int .i64 0),.val (.int .i64 0),.val (.string ((⟨#[]⟩:ByteArray))),.list (q.map avV) ae,.list ([]) .full]]++X),ai,L⟩) 3 (B.length+4)
     ·
      simp +decide only [go_sem,Nat.reduceAdd]
     ·
      rintro s ⟨X,ai,rfl⟩
      refine ⟨2,?_⟩
      rw [Zae];simp +decide only [go_sem,Nat.reduceAdd,Zef,o,d,k,b,g,j,c,ap,z,af,w,ad,ab]
      have hs:=And.intro z hs
      have hs:=And.intro af hs
      have hs:=And.intro w hs
      have hs:=And.intro ad hs
      have hs:=And.intro ab hs
      (repeat' apply And.intro)<;>first | refine Zac _ (ih _ _ _ c0 cw c2 _ b6) (hv hs) ?_ | exact cl
      rw [Zae];simp +decide only [go_sem,Nat.reduceAdd,o,d,k,b,g,j,c,ap,z,af,w,ad,ab]
      (repeat' apply And.intro)<;>first | rfl | exact cl
     ·
      refine Good.mk [17] kr ⟨[],_,by first | rfl | simp only [List.append_nil,List.nil_append]⟩ ?_ ?_
      ·
       intro h;exact absurd h (by decide)
      ·
       intro i hi;simp only [List.mem_cons,List.not_mem_nil,or_false] at hi
       subst hi
       ·
        apply Zbu rfl rfl ev
        ·
         simp +decide only [go_sem,Nat.reduceAdd,Zdp,o,d,k,b,g,j,c,ap,z,af,w,ad,ab]
         (repeat' apply And.intro)<;>first | rfl | exact cl
        ·
         simp +decide only [go_sem,Nat.reduceAdd,o,d,k,b,g,j,c,ap,z,af,w,ad,ab]
         refine Good.mk [18] kr ⟨_,_,by first | rfl | simp only [List.append_nil,List.nil_append]⟩ ?_ ?_
         ·
          intro h;exact absurd h (by decide)
         ·
          intro i hi;simp only [List.mem_cons,List.not_mem_nil,or_false] at hi
          subst hi
          ·
           apply Zbu rfl rfl ev
           ·
            simp +decide only [go_sem,Nat.reduceAdd,Zdp,o,d,k,b,g,j,c,ap,z,af,w,ad,ab]
            (repeat' apply And.intro)<;>first | rfl | exact cl
           ·
            simp +decide only [go_sem,Nat.reduceAdd,o,d,k,b,g,j,c,ap,z,af,w,ad,ab]
            refine Good.mk [] kr ⟨_,_,by first | rfl | simp only [List.append_nil,List.nil_append]⟩ ?_ ?_
            ·
             intro _;apply ZbQ [3,4,5,6,10,11,12];first | (simp +decide only [go_sem,Nat.reduceAdd,o,d,k,b,g,j,c,ap,z,af,w,ad,ab];done) | (simp +decide only [go_sem,Nat.reduceAdd,o,d,k,b,g,j,c,ap,z,af,w,ad,ab];rfl)
            ·
             intro i hi;cases hi
     simp +decide only [go_sem,Nat.reduceAdd,o,d,k,b,g,j,c,ap,z,af,w,ad,ab]
     (repeat' apply And.intro)<;>first | refine bo _ _ ?_ | exact cl
     clear bo
     apply Zaa;intro K51 bp
     have hs:=And.intro z hs
     have hs:=And.intro af hs
     have hs:=And.intro w hs
     have hs:=And.intro ad hs
     have hs:=And.intro ab hs
     refine rg [3,4,5,6,10,11,119] hs ?_
     refine cnd h hs (fun hs h=>?_) (fun hs h=>?_)
     ·
      refine rg [6,7] hs ?_
      exact rt h hs a hO
     refine sk [3,4,5,6,10,11] hs bp ?_
     clear bp
     obtain ⟨bv,h⟩:=Zab h
     obtain ⟨cy,bd,hO,ay⟩:=hO.append (P:=Tryz.prog) Zou (by rw [ZjH];rfl) (by decide) 1 bv.1 bv.2
     replace ay:=fun (ys:List AV) B L o2=>ay (q.map avV) ys B L o2 le_
     replace ay:=fun (y:AV) B L o2=>ay [y] B L o2 le_ ev
     try simp only [List.mem_singleton,List.mem_cons,List.not_mem_nil,or_false,forall_eq_or_imp,forall_eq,List.map_append,List.map_cons,List.map_nil,Ze5,ZeV,Ze4,ZeU,Ze2,Zeu,Zdc,Zc0,ZeX,Zb9,Zcc,Zc1,Zc8,Zc7] at ay
     have hs:=And.intro ay hs
     refine rl [3,4,5,6,10] hs bw ?_
     clear bw
     obtain ⟨df,h⟩:=Zab h
     refine rl [3,4,5,6,10] hs (fun e s=>Vl41 ml41 e s (Nat.lt_succ_self _)) ?_
     exact ⟨(aw+1),(q++([b8.1])),cy,([b8.1.cs]),bd,ef hs,ef hs,Owns.of_eq (hO) le_,h⟩
    ·
     clear h;rintro e st ⟨ak,aq,Xk38,Rk38,rfl,rfl,hO,h⟩
     rw [ZkD] at h
     have hU:=hO.unders
     simp only [List.mem_cons,List.not_mem_nil,or_false,forall_eq_or_imp,forall_eq] at hU
     refine td hN a4 a5 a hO ?_
     apply Zaa;intro K60 bg
     refine dk 6 2 1 [6,7] hs mix ?_
     refine Zac _ (Zft w0 _ _ _ ((a2.list.length:Int)) a1) (hv hs) ?_
     refine dn hs bg ?_
     clear bg
     exact rt h hs a hO
   have c:=hs.1
   refine rg [3,4,5,6,133] hs ?_
   refine cnd h hs (fun hs h=>?_) (fun hs h=>?_)
   ·
    have u:=hs.1
    refine Zak (fun e st=>Ck e st B Rw L [(6,true,.box (B.length+3) 0)] [a0.cs,a1.cs,a2.cs,[.val (.int .i64 0),.val (.int .i64 0),.val (.int .i64 0),.val (.string ((⟨#[]⟩:ByteArray))),.list ([]) .full,.list ([]) .full]] [] (ZnF rec n  = some r)) ?_ ?_
    ·
     intro K65 cp
     refine rg [3,4,5,6,13] hs ?_
     apply Zad
     refine Zao (fun m e st=>∃ (ax:Int),Ck e st B Rw L [(3,true,.box B.length 0),(4,true,.box (B.length+1) 0),(5,true,.box (B.length+2) 0),(6,true,.box (B.length+3) 0),(13,true,.val (.int .i64 ax))] [a0.cs,a1.cs,a2.cs,[.val (.int .i64 0),.val (.int .i64 0),.val (.int .i64 0),.val (.string ((⟨#[]⟩:ByteArray))),.list ([]) .full,.list ([]) .full]] [] (Zg5 rec n a0 a1 a2 m ax=some r)) n ⟨0,([]),Rk28,ef hs,ef hs,hO,h⟩ ?_
     rintro ml67 e st ⟨ax,Xl67,Rl67,rfl,rfl,hO,h⟩ Ul67 Vl67
     cases ml67 with
     | zero=>cases h
     | succ ml67 =>
     rw [Zg5] at h
     refine td hN a4 a5 a hO ?_
     apply Zaa;intro K68 bj
     refine rg [3,4,5,6,13,139] hs ?_
     refine cnd h hs (fun hs h=>?_) (fun hs h=>?_)
     rotate_left
     ·
      have t:=hs.1
      refine sx [6] hs cp ?_
      exact ⟨([]),Rl67,ef hs,ef hs,hO,h⟩
     have t:=hs.1
     refine sk [3,4,5,6,13] hs bj ?_
     clear bj
     apply Zaa;intro K71 bk
     apply Zad
     apply Zaa;intro K72 bu
     obtain ⟨cn,dc,dd,l,h⟩:=ix ZeF h
     obtain ⟨a3,ce,h⟩:=bind_some h
     apply ZfH mix [11,12] [3,4,5,6,13,14,15] kr (fun s=>∃ (X:List (List AV)) (ai:List RowA),s=⟨B++([a0.cs,a1.cs,a2.cs,[.val (.int .i64 0),.val (.int .i64 0),.val (.int .i64 0),.val (.string ((⟨#[]⟩:ByteArray))),.list ([]) .full,.list ([]) .full]]++X),ai,L⟩) 3 (B.length+4)
     ·
      simp +decide only [go_sem,Nat.reduceAdd]
     ·
      rintro s ⟨X,ai,rfl⟩
      refine ⟨2,?_⟩
      rw [Zae];simp +decide only [go_sem,Nat.reduceAdd,Zef,o,d,k,b,g,j,c,u,t,l]
      have hs:=And.intro l hs
      (repeat' apply And.intro)<;>first | refine Zac _ (Zka w0 n _ _ _ a1 cn.1 _ ce) (hv hs) ?_ | exact cl
      rw [Zae];simp +decide only [go_sem,Nat.reduceAdd,o,d,k,b,g,j,c,u,t,l]
      (repeat' apply And.intro)<;>first | rfl | exact cl
     ·
      refine Good.mk [11] kr ⟨[],_,by first | rfl | simp only [List.append_nil,List.nil_append]⟩ ?_ ?_
      ·
       intro h;exact absurd h (by decide)
      ·
       intro i hi;simp only [List.mem_cons,List.not_mem_nil,or_false] at hi
       subst hi
       ·
        apply Zbu rfl rfl ev
        ·
         simp +decide only [go_sem,Nat.reduceAdd,Zdp,o,d,k,b,g,j,c,u,t,l]
         (repeat' apply And.intro)<;>first | rfl | exact cl
        ·
         simp +decide only [go_sem,Nat.reduceAdd,o,d,k,b,g,j,c,u,t,l]
         refine Good.mk [12] kr ⟨_,_,by first | rfl | simp only [List.append_nil,List.nil_append]⟩ ?_ ?_
         ·
          intro h;exact absurd h (by decide)
         ·
          intro i hi;simp only [List.mem_cons,List.not_mem_nil,or_false] at hi
          subst hi
          ·
           apply Zbu rfl rfl ev
           ·
            simp +decide only [go_sem,Nat.reduceAdd,Zdp,o,d,k,b,g,j,c,u,t,l]
            (repeat' apply And.intro)<;>first | rfl | exact cl
           ·
            simp +decide only [go_sem,Nat.reduceAdd,o,d,k,b,g,j,c,u,t,l]
            refine Good.mk [] kr ⟨_,_,by first | rfl | simp only [List.append_nil,List.nil_append]⟩ ?_ ?_
            ·
             intro _;apply ZbQ [3,4,5,6,13,14,15];first | (simp +decide only [go_sem,Nat.reduceAdd,o,d,k,b,g,j,c,u,t,l];done) | (simp +decide only [go_sem,Nat.reduceAdd,o,d,k,b,g,j,c,u,t,l];rfl)
            ·
             intro i hi;cases hi
     simp +decide only [go_sem,Nat.reduceAdd,o,d,k,b,g,j,c,u,t,l]
     (repeat' apply And.intro)<;>first | refine bu _ _ ?_ | exact cl
     clear bu
     apply Zaa;intro K75 bi
     have hs:=And.intro l hs
     refine dg 13 1 1 [3,4,5,6,13,14,165] hs mix ?_
     refine cnd h hs (fun hs h=>?_) (fun hs h=>?_)
     ·
      have ao:=hs.1
      refine sx [3,4,5,6,13] hs bk ?_
      clear bk
      obtain ⟨de,h⟩:=Zab h
      refine rl [3,4,5,6,13] hs (fun e s=>Vl67 ml67 e s (Nat.lt_succ_self _)) ?_
      exact ⟨(ax+1),([.val (.int .i64 a3.1.1)::(.val (.string a3.1.2.1)::(.val (.int .i64 a3.1.2.2.1)::((a3.1.2.2.2.1.cs)++([.list (a3.1.2.2.2.2.map avV) .none]))))]),Rl67,ef hs,ef hs,hO,h⟩
     have ao:=hs.1
     refine sk [3,5,6,13,14] hs bi ?_
     clear bi
     apply Zaa;intro K79 bl
     obtain ⟨db,c8,cx,x,h⟩:=ix avV h
     have aa:(a2.list.map avV).getD 0 .junk=_:=x
     obtain ⟨dh,ci,h⟩:=bind_some h
     apply ZfH mix [16,17] [6,14,16,17] kr (fun s=>∃ (X:List (List AV)) (ai:List RowA),s=⟨B++([a0.cs,a1.cs,a2.cs,[.val (.int .i64 0),.val (.int .i64 0),.val (.int .i64 0),.val (.string ((⟨#[]⟩:ByteArray))),.list ([]) .full,.list ([]) .full],.val (.int .i64 a3.1.1)::(.val (.string a3.1.2.1)::(.val (.int .i64 a3.1.2.2.1)::((a3.1.2.2.2.1.cs)++([.list (a3.1.2.2.2.2.map avV) .none]))))]++X),ai,L⟩) 3 (B.length+5)
     ·
      simp +decide only [go_sem,Nat.reduceAdd]
     ·
      rintro s ⟨X,ai,rfl⟩
      refine ⟨2,?_⟩
      rw [Zae];simp +decide only [go_sem,Nat.reduceAdd,Zef,o,d,k,b,g,j,c,u,t,l,ao,x,aa]
      have hs:=And.intro x hs
      have hs:=And.intro aa hs
      (repeat' apply And.intro)<;>first | refine Zac _ (ih _ _ _ cn.2.2.2.1 a3.1.2.2.2.1 db _ ci) (hv hs) ?_ | exact cl
      rw [Zae];simp +decide only [go_sem,Nat.reduceAdd,o,d,k,b,g,j,c,u,t,l,ao,x,aa]
      (repeat' apply And.intro)<;>first | rfl | exact cl
     ·
      refine Good.mk [16] kr ⟨[],_,by first | rfl | simp only [List.append_nil,List.nil_append]⟩ ?_ ?_
      ·
       intro h;exact absurd h (by decide)
      ·
       intro i hi;simp only [List.mem_cons,List.not_mem_nil,or_false] at hi
       subst hi
       ·
        apply Zbu rfl rfl ev
        ·
         simp +decide only [go_sem,Nat.reduceAdd,Zdp,o,d,k,b,g,j,c,u,t,l,ao,x,aa]
         (repeat' apply And.intro)<;>first | rfl | exact cl
        ·
         simp +decide only [go_sem,Nat.reduceAdd,o,d,k,b,g,j,c,u,t,l,ao,x,aa]
         refine Good.mk [17] kr ⟨_,_,by first | rfl | simp only [List.append_nil,List.nil_append]⟩ ?_ ?_
         ·
          intro h;exact absurd h (by decide)
         ·
          intro i hi;simp only [List.mem_cons,List.not_mem_nil,or_false] at hi
          subst hi
          ·
           apply Zbu rfl rfl ev
           ·
            simp +decide only [go_sem,Nat.reduceAdd,Zdp,o,d,k,b,g,j,c,u,t,l,ao,x,aa]
            (repeat' apply And.intro)<;>first | rfl | exact cl
           ·
            simp +decide only [go_sem,Nat.reduceAdd,o,d,k,b,g,j,c,u,t,l,ao,x,aa]
            refine Good.mk [] kr ⟨_,_,by first | rfl | simp only [List.append_nil,List.nil_append]⟩ ?_ ?_
            ·
             intro _;apply ZbQ [6,14,16,17];first | (simp +decide only [go_sem,Nat.reduceAdd,o,d,k,b,g,j,c,u,t,l,ao,x,aa];done) | (simp +decide only [go_sem,Nat.reduceAdd,o,d,k,b,g,j,c,u,t,l,ao,x,aa];rfl)
            ·
             intro i hi;cases hi
     simp +decide only [go_sem,Nat.reduceAdd,o,d,k,b,g,j,c,u,t,l,ao,x,aa]
     (repeat' apply And.intro)<;>first | refine bl _ _ ?_ | exact cl
     clear bl
     have hs:=And.intro x hs
     have hs:=And.intro aa hs
     refine rg [6,7] hs ?_
     exact rt h hs a hO
    ·
     clear h;rintro e st ⟨Xk64,Rk64,rfl,rfl,hO,h⟩
     rw [ZnF] at h
     refine td hN a4 a5 a hO ?_
     refine rg [6,7] hs ?_
     exact rt h hs a hO
   have u:=hs.1
   refine sk [3,4,5,6] hs cg ?_
   exact ⟨([]),Rk28,ef hs,ef hs,hO,h⟩
 ·
  clear h;rintro e st ⟨Xk14,Rk14,rfl,rfl,hO,h⟩
  rw [ZkK] at h
  refine td hN a4 a5 a hO ?_
  refine rg [3,4,5,6] hs ?_
  refine Zak (fun e st=>∃ (am:List (ByteArray × Vl)) (au:AV),Ck e st B Rw L [(6,true,.box (B.length+3) 0)] [a0.cs,a1.cs,a2.cs,[.val (.int .i64 9),.val (.int .i64 0),.val (.int .i64 0),.val (.string ((⟨#[]⟩:ByteArray))),.list ([]) .full,au]] [] (au.pub = .list (am.map avF) .none∧ZkA rec n am=some r)) ?_ ?_
  ·
   intro K87 cb
   refine rg [3,4,5,6,18] hs ?_
   apply Zad
   refine Zao (fun m e st=>∃ (v:Int) (p:List (ByteArray × Vl)) (ar:AV),Ck e st B Rw L [(3,true,.box B.length 0),(4,true,.box (B.length+1) 0),(5,true,.box (B.length+2) 0),(6,true,.box (B.length+3) 0),(18,true,.val (.int .i64 v))] [a0.cs,a1.cs,a2.cs,[.val (.int .i64 9),.val (.int .i64 0),.val (.int .i64 0),.val (.string ((⟨#[]⟩:ByteArray))),.list ([]) .full,ar]] [] (ar.pub = .list (p.map avF) .none∧Zda rec n a0 a1 a2 m v p=some r)) n ⟨0,([]),_,([]),Rk14,ef hs,ef hs,hO,ef hs,h⟩ ?_
   rintro ml89 e st ⟨v,p,ar,Xl89,Rl89,rfl,rfl,hO,bb,h⟩ Ul89 Vl89
   cases ml89 with
   | zero=>cases h
   | succ ml89 =>
   rw [Zda] at h
   refine Zgl (B.length+3) 5 (by first | rfl | (simp only [Zgx,Zey,ZgF,Zfg];rfl)) rfl bb ?_;simp +decide only [go_sem,Nat.reduceAdd]
   show awp _ _ _ _ _ _ _ _ [(3,true,.box B.length 0),(4,true,.box (B.length+1) 0),(5,true,.box (B.length+2) 0),(6,true,.box (B.length+3) 0),(18,true,.val (.int .i64 v))] ⟨B++([a0.cs,a1.cs,a2.cs,[.val (.int .i64 9),.val (.int .i64 0),.val (.int .i64 0),.val (.string ((⟨#[]⟩:ByteArray))),.list ([]) .full,.list (p.map avF) .none]]++Xl89),Rl89,L⟩
   refine td hN a4 a5 a hO ?_
   apply Zaa;intro K90 bf
   refine rg [3,4,5,6,18,194] hs ?_
   refine cnd h hs (fun hs h=>?_) (fun hs h=>?_)
   rotate_left
   ·
    refine sx [6] hs cb ?_
    exact ⟨p,_,([]),Rl89,ef hs,ef hs,hO,ef hs,h⟩
   refine sk [3,4,5,6,18] hs bf ?_
   clear bf
   refine Zak (fun e st=>∃ (ag:List (ByteArray × Vl)) (av:AV),Ck e st B Rw L [(3,true,.box B.length 0),(4,true,.box (B.length+1) 0),(5,true,.box (B.length+2) 0),(6,true,.box (B.length+3) 0),(18,true,.val (.int .i64 v))] [a0.cs,a1.cs,a2.cs,[.val (.int .i64 9),.val (.int .i64 0),.val (.int .i64 0),.val (.string ((⟨#[]⟩:ByteArray))),.list ([]) .full,av]] [] (av.pub = .list (ag.map avF) .none∧Zfh rec n (Zda rec n a0 a1 a2 ml89) v ag=some r)) ?_ ?_
   ·
    intro K95 bc
    apply Zad
    obtain ⟨ah,b9,h⟩:=bind_some h
    obtain ⟨c1,c5,bz⟩:=Zan b9
    have b0:=Zap (f:=ZeF) bz
    have hs:=And.intro b0 hs
    refine rg [3,4,5,6,18,19] hs ?_
    obtain ⟨aj,cj,h⟩:=bind_some h
    refine rc 2 [3,4,5,6,18,19,20,21] hs ?_;intro K98 bs
    refine Zac _ (Zka w0 n _ _ _ a0 ah.1 _ cj) (hv hs) ?_
    refine ne hs bs ?_
    clear bs
    obtain ⟨a6,bx,h⟩:=bind_some h
    refine rc 2 [3,4,5,6,18,19,20,21,22,23] hs ?_;intro K100 ba
    refine Zac _ (Zsf w0 n _ _ _ a2 aj.1.2.1 _ bx) (hv hs) ?_
    refine ne hs ba ?_
    clear ba
    apply Zad
    refine rg [3,4,5,6,18,19,20,22,216] hs ?_
    refine cnd h hs (fun hs h=>?_) (fun hs h=>?_)
    ·
     obtain ⟨bh,b2,h⟩:=bind_some h
     refine rc 2 [3,4,5,6,18,19,24,25] hs ?_;intro K104 a8
     refine Zac _ (ih _ _ _ aj.1.2.2.2.1 ah.2.2.2.1 a6.1 _ b2) (hv hs) ?_
     refine ne hs a8 ?_
     clear a8
     apply Zaa;intro K106 a9
     refine rg [3,4,5,6,18,19,24,231] hs ?_
     refine cnd h hs (fun hs h=>?_) (fun hs h=>?_)
     ·
      refine rg [6,7] hs ?_
      exact rt h hs a hO
     refine sk [3,4,5,6,18,19,24] hs a9 ?_
     clear a9
     obtain ⟨cd,b3,h⟩:=bind_some h
     refine rk 2 [3,4,5,6,18] hs ?_
     refine Zac _ (Zmc w0 n _ _ _ p ((ah.2.1,bh.1)) _ b3) (hv hs) ?_
     refine ne hs bc ?_
     exact ⟨cd,_,([.val (.int .i64 ah.1)::(.val (.string ah.2.1)::(.val (.int .i64 ah.2.2.1)::((ah.2.2.2.1.cs)++([.list (ah.2.2.2.2.map avV) .none])))),.val (.int .i64 aj.1.1)::(.val (.string aj.1.2.1)::(.val (.int .i64 aj.1.2.2.1)::((aj.1.2.2.2.1.cs)++([.list (aj.1.2.2.2.2.map avV) .none])))),a6.1.cs,bh.1.cs]),Rl89,ef hs,ef hs,hO,ef hs,h⟩
    refine rg [3,4,5,6,18,19,241] hs ?_
    refine cnd h hs (fun hs h=>?_) (fun hs h=>?_)
    ·
     refine rg [6,7] hs ?_
     exact rt h hs a hO
    refine rg [3,4,5,6,18,19,246] hs ?_
    refine cnd h hs (fun hs h=>?_) (fun hs h=>?_)
    ·
     obtain ⟨co,cq,cr,a7,h⟩:=ix avV h
     have be:(ah.2.2.2.2.map avV).getD 0 .junk=_:=a7
     obtain ⟨ch,b1,h⟩:=bind_some h
     have hs:=And.intro a7 hs
     have hs:=And.intro be hs
     refine dk 11 2 1 [3,4,5,6,18] hs mix ?_
     refine Zac _ (Zmc w0 n _ _ _ p ((ah.2.1,co)) _ b1) (hv hs) ?_
     refine dn hs bc ?_
     exact ⟨ch,_,([.val (.int .i64 ah.1)::(.val (.string ah.2.1)::(.val (.int .i64 ah.2.2.1)::((ah.2.2.2.1.cs)++([.list (ah.2.2.2.2.map avV) .none])))),.val (.int .i64 aj.1.1)::(.val (.string aj.1.2.1)::(.val (.int .i64 aj.1.2.2.1)::((aj.1.2.2.2.1.cs)++([.list (aj.1.2.2.2.2.map avV) .none])))),a6.1.cs]),Rl89,ef hs,ef hs,hO,ef hs,h⟩
    refine sk [3,4,5,6,18] hs bc ?_
    exact ⟨p,_,([.val (.int .i64 ah.1)::(.val (.string ah.2.1)::(.val (.int .i64 ah.2.2.1)::((ah.2.2.2.1.cs)++([.list (ah.2.2.2.2.map avV) .none])))),.val (.int .i64 aj.1.1)::(.val (.string aj.1.2.1)::(.val (.int .i64 aj.1.2.2.1)::((aj.1.2.2.2.1.cs)++([.list (aj.1.2.2.2.2.map avV) .none])))),a6.1.cs]),Rl89,ef hs,ef hs,hO,ef hs,h⟩
   ·
    clear h;rintro e st ⟨ag,av,Xk94,Rk94,rfl,rfl,hO,bb,h⟩
    rw [Zfh] at h
    refine Zgl (B.length+3) 5 (by first | rfl | (simp only [Zgx,Zey,ZgF,Zfg];rfl)) rfl bb ?_;simp +decide only [go_sem,Nat.reduceAdd]
    show awp _ _ _ _ _ _ _ _ [(3,true,.box B.length 0),(4,true,.box (B.length+1) 0),(5,true,.box (B.length+2) 0),(6,true,.box (B.length+3) 0),(18,true,.val (.int .i64 v))] ⟨B++([a0.cs,a1.cs,a2.cs,[.val (.int .i64 9),.val (.int .i64 0),.val (.int .i64 0),.val (.string ((⟨#[]⟩:ByteArray))),.list ([]) .full,.list (ag.map avF) .none]]++Xk94),Rk94,L⟩
    refine td hN a4 a5 a hO ?_
    obtain ⟨cz,h⟩:=Zab h
    refine rl [3,4,5,6,18] hs (fun e s=>Vl89 ml89 e s (Nat.lt_succ_self _)) ?_
    exact ⟨(v+1),ag,_,([]),Rk94,ef hs,ef hs,hO,ef hs,h⟩
  ·
   clear h;rintro e st ⟨am,au,Xk86,Rk86,rfl,rfl,hO,bb,h⟩
   rw [ZkA] at h
   refine Zgl (B.length+3) 5 (by first | rfl | (simp only [Zgx,Zey,ZgF,Zfg];rfl)) rfl bb ?_;simp +decide only [go_sem,Nat.reduceAdd]
   show awp _ _ _ _ _ _ _ _ [(6,true,.box (B.length+3) 0)] ⟨B++([a0.cs,a1.cs,a2.cs,[.val (.int .i64 9),.val (.int .i64 0),.val (.int .i64 0),.val (.string ((⟨#[]⟩:ByteArray))),.list ([]) .full,.list (am.map avF) .none]]++Xk86),Rk86,L⟩
   refine td hN a4 a5 a hO ?_
   refine rg [6,7] hs ?_
   exact rt h hs a hO
theorem Ztg (w0:World):∀ n:Nat,Zsi w0 (ZfF n)
 | 0=>fun _ _ _ _ _ _ _ h=>(nomatch h)
 | n+1=>ZtI w0 (ZfF n) (Ztg w0 n) n
def ZAy (g:TF):Option (List (ByteArray × Vl)):=if g.2.2.1=1 then none else if g.2.2.1=3 then some (match g.2.2.2.2 with | x::_=>[(g.2.1,x)] | []=>[]) else some []
def ZtF (f:Ty→Ty→Vl→Option Vl) (a:Ty) (v:Vl) (g:TF):Option (List (ByteArray × Vl)) :=
 match ZoD a.fields g.1 with
 | some p=>(match ZfB v p.2.1 with
  | some x=>(f p.2.2.2.1 g.2.2.2.1 x).map fun y=>[(g.2.1,y)]
  | none=>ZAy g)
 | none=>ZAy g
def ZuB (f:Ty→Ty→Vl→Option Vl) (a:Ty) (v:Vl):List TF→Option (List (ByteArray × Vl))
 | []=>some []
 | g::gs=>(ZtF f a v g).bind fun o=>(ZuB f a v gs).map fun l=>o++l
def Zwo (f:Vl→Option Vl):List Vl→Option (List Vl)
 | []=>some []
 | v::r=>(f v).bind fun y=>(Zwo f r).map fun l=>y::l
def upS:Nat→Ty→Ty→Vl→Option Vl
 | 0,_,_,_=>none
 | d+1,a,b,v =>
  if (a.kind=2∨a.kind=3)∧(b.kind=2∨b.kind=3) then (ZxY v.int a.scale b.scale).bind fun m=>if btw m b=true then some (Vl.mk b.kind m b.scale ⟨#[]⟩ [] []) else none
  else if a.kind≠b.kind then none
  else if b.kind=6∨b.kind=7 then (if btw v.int b=true then some v else none)
  else if b.kind=5 then (if btw v.text.size b=true then some v else none)
  else if b.kind=4 then (if ZrX v.text b=true then some v else none)
  else if b.kind=8 then (match a.elem,b.elem with | [x],[y]=>(Zwo (upS d x y) v.list).bind fun l=>if btw v.list.length b=true then some (Vl.mk 8 0 0 ⟨#[]⟩ l []) else none | _,_=>none)
  else if b.kind=9 then (ZuB (upS d) a v b.fields).map fun l=>Vl.mk 9 0 0 ⟨#[]⟩ [] (Zcn l)
  else if b.kind=10 then (match Zce a v.text,v.list with | some p,x::_=>(match ZoD b.fields p.1 with | some g=>(upS d p.2.2.2.1 g.2.2.2.1 x).map fun y=>Vl.mk 10 0 0 g.2.1 [y] [] | none=>none) | _,_=>none)
  else some v
def Zl6 (D:Nat) (o:Option Vl) (r:Vl × Bool):Prop:=(match o with | some y=>r=(y,true) | none=>r.2=false)∧r.1.Nar∧r.1.depth≤D
theorem ZkM (k i s:Int) (t:ByteArray) (h:t.size≤1048576):(Vl.mk k i s t [] []).Nar := .mk _ (by simp [Vl.list]) (by simp [Vl.fields]) h (by simp [Vl.list]) (by simp [Vl.fields]) (by simp [Vl.fields])
theorem ZxM:nilV.Nar:=ZkM 0 0 0 _ (by decide)
theorem ZhC (k i s:Int) (t:ByteArray):(Vl.mk k i s t [] []).depth=1:=by simp [Vl.depth,Zgw,ZfD]
theorem Zho {D:Nat} (h:1≤D) {r:Vl × Bool} (e:r=(nilV,false)):Zl6 D none r:=by
 subst e
 exact ⟨rfl,ZxM,by rw [ZhC];exact h⟩
theorem ZnZ {D:Nat} {v:Vl} {b:Bool} (h1:v.Nar) (h2:v.depth≤D):Zl6 D (if b=true then some v else none) (v,b):=by
 cases b with
 | true=>exact ⟨rfl,h1,h2⟩
 | false=>exact ⟨rfl,h1,h2⟩
theorem Zy8 (n:Nat) (l:List (ByteArray × Vl)) (x:ByteArray × Vl) (hs:SS l) (hi:inN l x.1=false) (hl:l.length≤1000000):∀ (k m at_:Nat),at_≤k→at_≤l.length→(∀ i (h:at_≤i) (h2:i<l.length),¬ Zg9 l[i].1 x.1<0)→k<m→ZeW n l x m at_=some (ZuC l x.1 x.2)
 | k,0,at_,_,_,_,h=>absurd h (Nat.not_lt_zero _)
 | k,m+1,at_,hk,ha,hb,hm=>by
  have fin:(∀ i (h:i<at_) (h2:i<l.length),Zg9 l[i].1 x.1<0)→Ze7 n l x at_=some (ZuC l x.1 x.2):=fun q=>by
   have e:at_=lbF l x.1:=Zp7 ha (fun i h=>q i h (by omega)) (fun h=>hb _ (Nat.le_refl _) h)
   rw [Ze7,if_pos (by omega),if_pos (by rw [List.length_take];omega),if_pos (by rw [List.length_take];omega),if_pos (by omega),if_pos (by rw [List.length_take,List.length_drop];omega),ZuC,ZlD,←e,Int.toNat_natCast,List.append_assoc,List.singleton_append]
  rw [ZeW]
  by_cases c:0<at_
  ·
   obtain ⟨j,rfl⟩:∃ j,at_=j+1:=⟨at_-1,by omega⟩
   have e1:((j+1:Nat):Int)-1=(j:Int):=by omega
   have a:j<l.length:=by omega
   rw [decide_eq_true (show (0:Int)<((j+1:Nat):Int) by omega),if_pos rfl,e1,if_pos (by unfold I64;omega),Zam a,Option.bind_some,Zv8]
   have ne:sEq l[j].1 x.1=false:=by
    cases q:sEq l[j].1 x.1 with
    | false=>rfl
    | true=>rw [Zlq.2 ⟨_,List.getElem_mem a,(Zfe _ _).1 q⟩] at hi;cases hi
   rw [ne,Bool.or_false]
   by_cases d:Zg9 l[j].1 x.1<0
   ·
    rw [decide_eq_true d,if_neg (by decide)]
    refine fin fun i h h2=>?_
    rcases Nat.lt_or_ge i j with z | z
    ·
     exact ZnI (List.pairwise_iff_getElem.1 hs i j h2 a z) d
    ·
     obtain rfl:i=j:=by omega
     exact d
   ·
    obtain ⟨k,rfl⟩:∃ q,k=q+1:=⟨k-1,by omega⟩
    rw [decide_eq_false d,if_pos (by rfl),if_pos (by unfold I64;omega)]
    refine Zy8 n l x hs hi hl k m j (by omega) (by omega) (fun i h h2=>?_) (by omega)
    rcases Nat.lt_or_ge j i with z | z
    ·
     exact hb i (by omega) h2
    ·
     obtain rfl:i=j:=by omega
     exact d
  ·
   obtain rfl:at_=0:=by omega
   rw [decide_eq_false (by decide),if_neg (by decide)]
   exact fin fun i h=>absurd h (by omega)
theorem ZuS (n:Nat) (l:List (ByteArray × Vl)) (x:ByteArray × Vl) (hs:SS l) (hi:inN l x.1=false) (hl:l.length≤1000000) (hn:l.length<n):ZeD n l x=some (ZuC l x.1 x.2) :=
 Zy8 n l x hs hi hl l.length n l.length (Nat.le_refl _) (Nat.le_refl _) (fun i h h2=>by omega) hn
theorem ZyF (rec:Ty→Ty→Vl→Option (Vl × Bool)) (n D:Nat) (a b x y:Ty) (v:Vl) (f:Vl→Option Vl) (ha:a.elem=[x]) (hb:b.elem=[y]) (hD:1≤D) (hl:v.list.length≤100000000)
  (hr:∀ u∈v.list,∃ r,rec x y u=some r∧Zl6 D (f u) r):∀ (k m i:Nat) (acc:List Vl),i+k=v.list.length→k<m→acc.length=i→(∀ u∈acc,u.Nar∧u.depth≤D) →
  ∃ r,ZbH rec n a b v m i acc=some r∧Zl6 (D+1) ((Zwo f (v.list.drop i)).bind fun l=>if btw v.list.length b=true then some (Vl.mk 8 0 0 ⟨#[]⟩ (acc++l) []) else none) r
 | k,0,i,acc,_,h,_,_=>absurd h (Nat.not_lt_zero _)
 | 0,m+1,i,acc,hi,_,h1,h2=>by
  rw [ZbH,Zal,decide_eq_false (by omega),if_neg (by decide),ZdE,List.drop_eq_nil_of_le (by omega),Zwo,Option.bind_some,List.append_nil,ZaV]
  exact ⟨_,rfl,ZnZ (.mk _ (by simp only [Vl.list];omega) (by simp [Vl.fields]) (by show (⟨#[]⟩:ByteArray).size≤1048576;decide) (fun u hu=>(h2 u hu).1) (by simp [Vl.fields]) (by simp [Vl.fields])) (by
   have:=(ZfL acc D).2 fun u hu=>(h2 u hu).2
   simp only [Vl.depth,ZfD];omega)⟩
 | k+1,m+1,i,acc,hi,hm,h1,h2=>by
  have c:i<v.list.length:=by omega
  obtain ⟨r,e,⟨u1,u2,u3⟩⟩:=hr _ (List.getElem_mem c)
  rw [ZbH,Zal,decide_eq_true c,if_pos rfl,Zam c,Option.bind_some,ha,hb,show idx [x] 0=some x from rfl,Option.bind_some,show idx [y] 0=some y from rfl,Option.bind_some,e,Option.bind_some,List.drop_eq_getElem_cons c,Zwo]
  cases q:f v.list[i] with
  | none =>
   rw [q] at u1
   simp only at u1
   rw [u1,if_pos (by rfl),Option.bind_none,Option.bind_none]
   exact ⟨_,rfl,Zho (by omega) rfl⟩
  | some z =>
   rw [q] at u1
   simp only at u1
   subst u1
   rw [if_neg (by simp),if_pos (by omega),if_pos (Zaj (by omega))]
   obtain ⟨r,e,u⟩:=ZyF rec n D a b x y v f ha hb hD hl hr k m (i+1) (acc++[z]) (by omega) (by omega) (by simp;omega) (fun u hu=>by
    rcases List.mem_append.1 hu with hu | hu
    ·
     exact h2 u hu
    ·
     rw [List.mem_singleton] at hu;subst hu;exact ⟨u2,u3⟩)
   refine ⟨r,e,?_⟩
   rw [Option.bind_some]
   simp only [List.append_assoc,List.singleton_append] at u
   cases w:Zwo f (v.list.drop (i+1)) with
   | none=>rw [w] at u;exact u
   | some l=>rw [w] at u;exact u
theorem Zv6 (rec:Ty→Ty→Vl→Option (Vl × Bool)) (n D:Nat) (a b x y:Ty) (v:Vl) (f:Vl→Option Vl) (ha:a.elem=[x]) (hb:b.elem=[y]) (hD:1≤D) (hl:v.list.length≤100000000)
  (hr:∀ u∈v.list,∃ r,rec x y u=some r∧Zl6 D (f u) r):∀ (k m i:Nat) (acc:List Vl),i+k=v.list.length→k<m→acc.length=i→(∀ u∈acc,u.Nar∧u.depth≤D) →
  ∃ r,Zg4 rec n a b v m i acc=some r∧Zl6 (D+1) ((Zwo f (v.list.drop i)).bind fun l=>if btw v.list.length b=true then some (Vl.mk 8 0 0 ⟨#[]⟩ (acc++l) []) else none) r
 | k,0,i,acc,_,h,_,_=>absurd h (Nat.not_lt_zero _)
 | 0,m+1,i,acc,hi,_,h1,h2=>by
  rw [Zg4,Zal,decide_eq_false (by omega),if_neg (by decide),ZkD,List.drop_eq_nil_of_le (by omega),Zwo,Option.bind_some,List.append_nil,Zci]
  exact ⟨_,rfl,ZnZ (.mk _ (by simp only [Vl.list];omega) (by simp [Vl.fields]) (by show (⟨#[]⟩:ByteArray).size≤1048576;decide) (fun u hu=>(h2 u hu).1) (by simp [Vl.fields]) (by simp [Vl.fields])) (by
   have:=(ZfL acc D).2 fun u hu=>(h2 u hu).2
   simp only [Vl.depth,ZfD];omega)⟩
 | k+1,m+1,i,acc,hi,hm,h1,h2=>by
  have c:i<v.list.length:=by omega
  obtain ⟨r,e,⟨u1,u2,u3⟩⟩:=hr _ (List.getElem_mem c)
  rw [Zg4,Zal,decide_eq_true c,if_pos rfl,ha,hb,show idx [x] 0=some x from rfl,Option.bind_some,show idx [y] 0=some y from rfl,Option.bind_some,Zam c,Option.bind_some,e,Option.bind_some,List.drop_eq_getElem_cons c,Zwo]
  cases q:f v.list[i] with
  | none =>
   rw [q] at u1
   simp only at u1
   rw [u1,if_pos (by rfl),Option.bind_none,Option.bind_none]
   exact ⟨_,rfl,Zho (by omega) rfl⟩
  | some z =>
   rw [q] at u1
   simp only at u1
   subst u1
   rw [if_neg (by simp),if_pos (by omega),if_pos (Zaj (by omega))]
   obtain ⟨r,e,u⟩:=Zv6 rec n D a b x y v f ha hb hD hl hr k m (i+1) (acc++[z]) (by omega) (by omega) (by simp;omega) (fun u hu=>by
    rcases List.mem_append.1 hu with hu | hu
    ·
     exact h2 u hu
    ·
     rw [List.mem_singleton] at hu;subst hu;exact ⟨u2,u3⟩)
   refine ⟨r,e,?_⟩
   rw [Option.bind_some]
   simp only [List.append_assoc,List.singleton_append] at u
   cases w:Zwo f (v.list.drop (i+1)) with
   | none=>rw [w] at u;exact u
   | some l=>rw [w] at u;exact u
theorem ZrV (n D:Nat) (l:List (ByteArray × Vl)) (hl:l.length≤1000000) (hn:D+1000000001<n) (hnul:∀ p∈l,Za8 p.2=false) (hd:(l.map Prod.fst).Nodup) (hv:(Vl.mk 9 0 0 ⟨#[]⟩ [] (Zcn l)).Nar) (hdp:(Vl.mk 9 0 0 ⟨#[]⟩ [] (Zcn l)).depth≤D+1):ZhY n l=some (Vl.mk 9 0 0 ⟨#[]⟩ [] (Zcn l)):=by
 have e:=ZvL n l hl (by omega) hnul hd l.length n 0 (by omega) (by omega)
 rw [List.take_zero] at e
 have e':ZcO n l n 0 []=_:=e
 rw [ZhY,e',ZgS,if_pos (by omega),Zf9 n _ hv (by omega)]
 rfl
structure Acc (D:Nat) (b:Ty) (i:Nat) (acc:List (ByteArray × Vl)):Prop where
 len:acc.length≤i
 each:∀ p∈acc,p.1.size≤1048576∧p.2.Nar∧p.2.depth≤D∧p.2.kind≠0
 apart:(acc.map Prod.fst++(b.fields.drop i).map fun p=>p.2.1).Nodup
theorem Acc.skip {D:Nat} {b:Ty} {i:Nat} {acc:List (ByteArray × Vl)} (h:Acc D b i acc) (hi:i<b.fields.length):Acc D b (i+1) acc :=
 ⟨Nat.le_succ_of_le h.len,h.each,by
  have:=h.apart
  rw [List.drop_eq_getElem_cons hi,List.map_cons] at this
  exact this.sublist ((List.sublist_cons_self _ _).append_left _)⟩
theorem Acc.push {D:Nat} {b:Ty} {i:Nat} {acc:List (ByteArray × Vl)} (h:Acc D b i acc) (hi:i<b.fields.length) {y:Vl} (hs:b.fields[i].2.1.size≤1048576) (h1:y.Nar) (h2:y.depth≤D) (h3:y.kind≠0):Acc D b (i+1) (acc++[(b.fields[i].2.1,y)]) :=
 ⟨by rw [List.length_append];have:=h.len;simp;omega,fun p hp=>by
  rcases List.mem_append.1 hp with hp | hp
  ·
   exact h.each p hp
  ·
   rw [List.mem_singleton] at hp;subst hp;exact ⟨hs,h1,h2,h3⟩,by
  have:=h.apart
  rw [List.drop_eq_getElem_cons hi,List.map_cons] at this
  rw [List.map_append,List.map_singleton,List.append_assoc,List.singleton_append]
  exact this⟩
theorem Acc.names {D:Nat} {b:Ty} {i:Nat} {acc:List (ByteArray × Vl)} (h:Acc D b i acc):(acc.map Prod.fst).Nodup:=h.apart.sublist (List.sublist_append_left _ _)
theorem Acc.new {D:Nat} {b:Ty} {i:Nat} {acc:List (ByteArray × Vl)} (h:Acc D b i acc) (hi:i<b.fields.length):inN (Zcn acc) b.fields[i].2.1=false:=by
 cases q:inN (Zcn acc) b.fields[i].2.1 with
 | false=>rfl
 | true =>
  obtain ⟨p,hp,e⟩:=Zlq.1 q
  have:=h.apart
  rw [List.drop_eq_getElem_cons hi,List.map_cons] at this
  have:=(List.nodup_append.1 this).2.2 p.1 (List.mem_map.2 ⟨p,(ZhU acc).mem_iff.1 hp,rfl⟩) b.fields[i].2.1 (List.mem_cons_self ..)
  exact absurd e this
theorem Acc.sort {D:Nat} {b:Ty} {i:Nat} {acc:List (ByteArray × Vl)} (h:Acc D b i acc) (hi:i<b.fields.length) (y:Vl):ZuC (Zcn acc) b.fields[i].2.1 y=Zcn (acc++[(b.fields[i].2.1,y)]):=by
 refine ZqS _ _ ?_ (ZvT (ZpJ acc h.names) (h.new hi) y) (ZpJ _ ?_)
 ·
  refine ((Zns _ _ _).trans ?_).trans (ZhU _).symm
  refine ((ZhU acc).cons _).trans ?_
  exact (List.perm_append_singleton _ _).symm
 ·
  have:=h.apart
  rw [List.drop_eq_getElem_cons hi,List.map_cons] at this
  rw [List.map_append,List.map_singleton]
  exact this.sublist (List.Sublist.append_left (List.singleton_sublist.2 (List.mem_cons_self ..)) _)
theorem Acc.ok {D:Nat} {b:Ty} {i:Nat} {acc:List (ByteArray × Vl)} (h:Acc D b i acc) (hi:i≤100000000):(Vl.mk 9 0 0 ⟨#[]⟩ [] (Zcn acc)).Nar∧(Vl.mk 9 0 0 ⟨#[]⟩ [] (Zcn acc)).depth≤D+1:=by
 have hm:∀ p∈Zcn acc,_:=fun p hp=>h.each p ((ZhU acc).mem_iff.1 hp)
 refine ⟨.mk _ (by simp [Vl.list]) (by show (Zcn acc).length≤_;rw [ZdP];have:=h.len;omega) (by show (⟨#[]⟩:ByteArray).size≤1048576;decide) (by simp [Vl.list]) (fun p hp=>(hm p hp).1) (fun p hp=>(hm p hp).2.1),?_⟩
 have:=(ZgK (Zcn acc) D).2 fun p hp=>(hm p hp).2.2.1
 simp only [Vl.depth,Zgw];omega
theorem Zr8 {v:Vl} (h:v.kind≠0):Za8 v=false:=by rw [Za8,decide_eq_false h];simp
theorem ZgH {o:Option (List (ByteArray × Vl))} {acc:List (ByteArray × Vl)} {x:ByteArray × Vl}:(o.map fun l=>Vl.mk 9 0 0 ⟨#[]⟩ [] (Zcn ((acc++[x])++l)))=(o.map fun l=>[x]++l).map fun l=>Vl.mk 9 0 0 ⟨#[]⟩ [] (Zcn (acc++l)):=by
 cases o with
 | none=>rfl
 | some l=>simp only [Option.map_some,List.append_assoc]
theorem Zmg {o:Option (List (ByteArray × Vl))}:(o.map fun l=>[]++l)=o:=by cases o<;>rfl
structure RecH (rec:Ty→Ty→Vl→Option (Vl × Bool)) (n D:Nat) (a b:Ty) (v:Vl) (f:Ty→Ty→Vl→Option Vl):Prop where
 vk:v.kind=9
 vl:v.fields.length≤100000000
 al:a.fields.length≤1000000
 bl:b.fields.length≤1000000
 nn:D+2000000000<n
 hD:1≤D
 hc:∀ q∈v.fields,Zbi n q.2=some q.2
 bn:∀ g∈b.fields,g.2.1.size≤1048576
 hr:∀ g∈b.fields,∀ p,ZoD a.fields g.1=some p→∀ x,ZfB v p.2.1=some x→∃ r,rec p.2.2.2.1 g.2.2.2.1 x=some r∧Zl6 D (f p.2.2.2.1 g.2.2.2.1 x) r∧∀ y,f p.2.2.2.1 g.2.2.2.1 x=some y→y.kind≠0
 hd:∀ g∈b.fields,g.2.2.1=3→∃ x,g.2.2.2.2=[x]∧x.Nar∧x.depth≤D∧x.kind≠0
theorem ZCi {rec:Ty→Ty→Vl→Option (Vl × Bool)} {n D:Nat} {a b:Ty} {v:Vl} {f:Ty→Ty→Vl→Option Vl} (H:RecH rec n D a b v f):∀ (k m i:Nat) (acc:List (ByteArray × Vl)),i+k=b.fields.length→k<m→Acc D b i acc →
  ∃ r,Zar rec n a b v m acc i=some r∧Zl6 (D+1) ((ZuB f a v (b.fields.drop i)).map fun l=>Vl.mk 9 0 0 ⟨#[]⟩ [] (Zcn (acc++l))) r
 | k,0,i,acc,_,h,_=>absurd h (Nat.not_lt_zero _)
 | 0,m+1,i,acc,hi,_,ha=>by
  have hb:=H.bl
  have hn:=H.nn
  have hl:=ha.len
  obtain ⟨k1,k2⟩:=ha.ok (by omega)
  rw [Zar,Zal,decide_eq_false (by omega),if_neg (by decide),Zcq,ZrV n D acc (by omega) (by omega) (fun p hp=>Zr8 (ha.each p hp).2.2.2) ha.names k1 k2,List.drop_eq_nil_of_le (by omega),ZuB,Option.map_some,List.append_nil]
  exact ⟨_,rfl,rfl,k1,k2⟩
 | k+1,m+1,i,acc,hi,hm,ha=>by
  have d:i<b.fields.length:=by omega
  have j:=List.getElem_mem d
  have hb:=H.bl
  have w:=H.al
  have hn:=H.nn
  have t:=H.vl
  have hl:=ha.len
  have go:∀ c,Acc D b (i+1) c→∃ r,ZaB rec n (Zar rec n a b v m) i c=some r∧Zl6 (D+1) ((ZuB f a v (b.fields.drop (i+1))).map fun l=>Vl.mk 9 0 0 ⟨#[]⟩ [] (Zcn (c++l))) r:=fun c h=>by
   obtain ⟨r,e,u⟩:=ZCi H k m (i+1) c (by omega) (by omega) h
   rw [ZaB,if_pos (Zaj (by omega))]
   exact ⟨r,e,u⟩
  rw [Zar,Zal,decide_eq_true d,if_pos rfl,Zam d,Option.bind_some,ZuL n a.fields _ (by omega) (by omega),Option.bind_some,ZsJ n v _ H.vk (by omega) (by omega) H.hc,Option.bind_some,List.drop_eq_getElem_cons d,ZuB]
  have g:ZtF f a v b.fields[i]=ZAy b.fields[i]→∃ r,(if decide (b.fields[i].2.2.1=1)=true then some (Vl.mk 0 0 0 ⟨#[]⟩ [] [],false) else if decide (b.fields[i].2.2.1=3)=true then (idx b.fields[i].2.2.2.2 0).bind fun s=>if (acc.length+1)*104≤140737488355328∧acc.length+1≤4611686018427387904 then ZaB rec n (Zar rec n a b v m) i (acc++[(b.fields[i].2.1,s)]) else none else ZaB rec n (Zar rec n a b v m) i acc)=some r∧Zl6 (D+1) (((ZtF f a v b.fields[i]).bind fun o=>(ZuB f a v (b.fields.drop (i+1))).map fun l=>o++l).map fun l=>Vl.mk 9 0 0 ⟨#[]⟩ [] (Zcn (acc++l))) r:=fun q=>by
   rw [q,ZAy]
   by_cases c1:b.fields[i].2.2.1=1
   ·
    rw [decide_eq_true c1,if_pos rfl,if_pos c1]
    exact ⟨_,rfl,Zho (by omega) rfl⟩
   rw [decide_eq_false c1,if_neg (by decide),if_neg c1]
   by_cases c3:b.fields[i].2.2.1=3
   ·
    obtain ⟨x,hx,x1,x2,x3⟩:=H.hd _ j c3
    rw [decide_eq_true c3,if_pos rfl,if_pos c3,hx,show idx [x] 0=some x from rfl,Option.bind_some,if_pos (by omega)]
    obtain ⟨r,e,u⟩:=go _ (ha.push d (H.bn _ j) x1 x2 x3)
    rw [ZgH] at u
    exact ⟨r,e,u⟩
   ·
    rw [decide_eq_false c3,if_neg (by decide),if_neg c3]
    obtain ⟨r,e,u⟩:=go _ (ha.skip d)
    refine ⟨r,e,?_⟩
    rw [Option.bind_some,Zmg]
    exact u
  cases hp:ZoD a.fields b.fields[i].1 with
  | none =>
   rw [if_neg (by simp)]
   exact g (by rw [ZtF,hp])
  | some p =>
   simp only [Option.getD_some,Option.isSome_some,Bool.true_and]
   cases hx:ZfB v p.2.1 with
   | none =>
    rw [if_neg (by simp)]
    exact g (by rw [ZtF,hp];simp only [hx])
   | some x =>
    obtain ⟨r,e,⟨u1,u2,u3⟩,u4⟩:=H.hr _ j p hp x hx
    have ef:ZtF f a v b.fields[i]=(f p.2.2.2.1 b.fields[i].2.2.2.1 x).map fun y=>[(b.fields[i].2.1,y)]:=by rw [ZtF,hp];simp only [hx]
    rw [if_pos Option.isSome_some,Option.getD_some,e,Option.bind_some,ef]
    cases q:f p.2.2.2.1 b.fields[i].2.2.2.1 x with
    | none =>
     rw [q] at u1
     simp only at u1
     rw [u1,if_pos (by rfl)]
     exact ⟨_,rfl,Zho (by omega) rfl⟩
    | some y =>
     rw [q] at u1
     simp only at u1
     subst u1
     rw [if_neg (by simp),if_pos (by omega)]
     obtain ⟨r,e,u⟩:=go _ (ha.push d (H.bn _ j) u2 u3 (u4 y q))
     rw [ZgH] at u
     exact ⟨r,e,u⟩
theorem Zu8 {rec:Ty→Ty→Vl→Option (Vl × Bool)} {n D:Nat} {a b:Ty} {v:Vl} {f:Ty→Ty→Vl→Option Vl} (H:RecH rec n D a b v f):∀ (k m i:Nat) (acc:List (ByteArray × Vl)),i+k=b.fields.length→k<m→Acc D b i acc →
  ∃ r,Zda rec n a b v m i (Zcn acc)=some r∧Zl6 (D+1) ((ZuB f a v (b.fields.drop i)).map fun l=>Vl.mk 9 0 0 ⟨#[]⟩ [] (Zcn (acc++l))) r
 | k,0,i,acc,_,h,_=>absurd h (Nat.not_lt_zero _)
 | 0,m+1,i,acc,hi,_,ha=>by
  have hb:=H.bl
  obtain ⟨k1,k2⟩:=ha.ok (by omega)
  rw [Zda,Zal,decide_eq_false (by omega),if_neg (by decide),ZkA,List.drop_eq_nil_of_le (by omega),ZuB,Option.map_some,List.append_nil]
  exact ⟨_,rfl,rfl,k1,k2⟩
 | k+1,m+1,i,acc,hi,hm,ha=>by
  have c:i<b.fields.length:=by omega
  have j:=List.getElem_mem c
  have hb:=H.bl
  have aa:=H.al
  have hn:=H.nn
  have z:=H.vl
  have hl:=ha.len
  have s:∀ y,ZeD n (Zcn acc) (b.fields[i].2.1,y)=some (Zcn (acc++[(b.fields[i].2.1,y)])):=fun y=>by
   rw [ZuS n (Zcn acc) (b.fields[i].2.1,y) (ZpJ acc ha.names) (ha.new c) (by rw [ZdP];omega) (by rw [ZdP];omega),ha.sort c y]
  have go:∀ d,Acc D b (i+1) d→∃ r,Zfh rec n (Zda rec n a b v m) i (Zcn d)=some r∧Zl6 (D+1) ((ZuB f a v (b.fields.drop (i+1))).map fun l=>Vl.mk 9 0 0 ⟨#[]⟩ [] (Zcn (d++l))) r:=fun d h=>by
   obtain ⟨r,e,u⟩:=Zu8 H k m (i+1) d (by omega) (by omega) h
   rw [Zfh,if_pos (Zaj (by omega))]
   exact ⟨r,e,u⟩
  rw [Zda,Zal,decide_eq_true c,if_pos rfl,Zam c,Option.bind_some,Zm7 n a _ (by omega) (by omega),Option.bind_some,ZvK n v _ (by omega) (by omega),Option.bind_some,List.drop_eq_getElem_cons c,ZuB]
  have g:ZtF f a v b.fields[i]=ZAy b.fields[i]→∃ r,(if decide (b.fields[i].2.2.1=1)=true then some (Vl.mk 0 0 0 ⟨#[]⟩ [] [],false) else if decide (b.fields[i].2.2.1=3)=true then (idx b.fields[i].2.2.2.2 0).bind fun w=>(ZeD n (Zcn acc) (b.fields[i].2.1,w)).bind fun t=>Zfh rec n (Zda rec n a b v m) i t else Zfh rec n (Zda rec n a b v m) i (Zcn acc))=some r∧Zl6 (D+1) (((ZtF f a v b.fields[i]).bind fun o=>(ZuB f a v (b.fields.drop (i+1))).map fun l=>o++l).map fun l=>Vl.mk 9 0 0 ⟨#[]⟩ [] (Zcn (acc++l))) r:=fun q=>by
   rw [q,ZAy]
   by_cases c1:b.fields[i].2.2.1=1
   ·
    rw [decide_eq_true c1,if_pos rfl,if_pos c1]
    exact ⟨_,rfl,Zho (by omega) rfl⟩
   rw [decide_eq_false c1,if_neg (by decide),if_neg c1]
   by_cases c3:b.fields[i].2.2.1=3
   ·
    obtain ⟨x,hx,x1,x2,x3⟩:=H.hd _ j c3
    rw [decide_eq_true c3,if_pos rfl,if_pos c3,hx,show idx [x] 0=some x from rfl,Option.bind_some,s,Option.bind_some]
    obtain ⟨r,e,u⟩:=go _ (ha.push c (H.bn _ j) x1 x2 x3)
    rw [ZgH] at u
    exact ⟨r,e,u⟩
   ·
    rw [decide_eq_false c3,if_neg (by decide),if_neg c3]
    obtain ⟨r,e,u⟩:=go _ (ha.skip c)
    refine ⟨r,e,?_⟩
    rw [Option.bind_some,Zmg]
    exact u
  cases hp:ZoD a.fields b.fields[i].1 with
  | none =>
   rw [if_neg (by simp)]
   exact g (by rw [ZtF,hp])
  | some p =>
   simp only [Option.getD_some,Option.isSome_some,Bool.true_and]
   cases hx:ZfB v p.2.1 with
   | none =>
    rw [if_neg (by simp)]
    exact g (by rw [ZtF,hp];simp only [hx])
   | some x =>
    obtain ⟨r,e,⟨u1,u2,u3⟩,u4⟩:=H.hr _ j p hp x hx
    have ef:ZtF f a v b.fields[i]=(f p.2.2.2.1 b.fields[i].2.2.2.1 x).map fun y=>[(b.fields[i].2.1,y)]:=by rw [ZtF,hp];simp only [hx]
    rw [if_pos Option.isSome_some,Option.getD_some,e,Option.bind_some,ef]
    cases q:f p.2.2.2.1 b.fields[i].2.2.2.1 x with
    | none =>
     rw [q] at u1
     simp only at u1
     rw [u1,if_pos (by rfl)]
     exact ⟨_,rfl,Zho (by omega) rfl⟩
    | some y =>
     rw [q] at u1
     simp only at u1
     subst u1
     rw [if_neg (by simp),s,Option.bind_some]
     obtain ⟨r,e,u⟩:=go _ (ha.push c (H.bn _ j) u2 u3 (u4 y q))
     rw [ZgH] at u
     exact ⟨r,e,u⟩
theorem Zt6 (n:Nat) (t:Ty) (w:ByteArray) (hn:t.size+1450000≤n) (ht:t.small) (hk:t.kind=9∨t.kind=10):Zfj n t w=some ((Zce t w).getD ZkP,(Zce t w).isSome):=by
 have hF:Zfj n t w=(ZfY n t (fun x=>some (sEq x.2.1 w))).bind fun y3=>some (y3.1,y3.2):=rfl
 have a:Zce t w=idx t.fields (ffI (fun x:TF=>sEq x.2.1 w) t.fields 0):=Zmx _ _
 rw [hF]
 rcases Zsh n t (fun x=>sEq x.2.1 w) hn ht with ⟨k1,k2,_⟩ | ⟨_,⟨q1,q2⟩ | ⟨j,hj,q1,q2⟩⟩
 ·
  omega
 ·
  rw [q2,a,q1];rfl
 ·
  rw [q2,a,q1,Zam hj];rfl
theorem Zye:∀ (d:Nat) (a b:Ty) (v y:Vl),1≤b.kind→v.kind≠0→upS d a b v=some y→y.kind≠0
 | 0,a,b,v,y,_,_,h=>by simp [upS] at h
 | d+1,a,b,v,y,hb,hv,h=>by
  rw [upS] at h
  split at h
  ·
   obtain ⟨m,_,h⟩:=Option.bind_eq_some_iff.1 h
   split at h
   ·
    cases h;show b.kind≠0;omega
   ·
    cases h
  split at h
  ·
   cases h
  split at h
  ·
   split at h
   ·
    cases h;exact hv
   ·
    cases h
  split at h
  ·
   split at h
   ·
    cases h;exact hv
   ·
    cases h
  split at h
  ·
   split at h
   ·
    cases h;exact hv
   ·
    cases h
  split at h
  ·
   split at h
   ·
    obtain ⟨m,_,h⟩:=Option.bind_eq_some_iff.1 h
    split at h
    ·
     cases h;simp [Vl.kind]
    ·
     cases h
   ·
    cases h
  split at h
  ·
   obtain ⟨m,_,h⟩:=Option.map_eq_some_iff.1 h
   cases h;simp [Vl.kind]
  split at h
  ·
   split at h
   ·
    split at h
    ·
     obtain ⟨m,_,h⟩:=Option.map_eq_some_iff.1 h
     cases h;simp [Vl.kind]
    ·
     cases h
   ·
    cases h
  ·
   cases h;exact hv
theorem Zta:∀ {d:Nat} {t:Ty} {v:Vl},Zn8 d t v=true→v.kind=t.kind∧1≤t.kind∧t.kind≤10∧ZeB v=true
 | 0,t,v,h=>by simp [Zn8] at h
 | d+1,t,v,h=>by
  rw [Zn8] at h
  by_cases c:(t.kind<1∨10<t.kind)∨v.kind≠t.kind∨ZeB v=false
  ·
   rw [if_pos c] at h;cases h
  ·
   have q:v.kind=t.kind:=by
    by_cases q:v.kind=t.kind
    ·
     exact q
    ·
     exact absurd (.inr (.inl q)) c
   have w:ZeB v=true:=by
    cases w:ZeB v with
    | true=>rfl
    | false=>exact absurd (.inr (.inr w)) c
   have z:¬ (t.kind<1∨10<t.kind):=fun z=>c (.inl z)
   exact ⟨q,by omega,by omega,w⟩
theorem ZqW {t:Ty} (h:0≤Zbs t):t.kind=2∨t.kind=3:=by
 rw [Zbs] at h
 by_cases a:t.kind=2
 ·
  exact .inl a
 rw [decide_eq_false a,if_neg (by decide)] at h
 by_cases b:t.kind=3
 ·
  exact .inr b
 rw [decide_eq_false b,if_neg (by decide)] at h
 omega
theorem Ztn {t:Ty} (o:t.Own) (h:t.kind=2∨t.kind=3):Zbs t=t.scale:=by
 rw [Zbs]
 by_cases a:t.kind=2
 ·
  rw [decide_eq_true a,if_pos rfl,o.noscale (by omega)]
 ·
  rw [decide_eq_false a,if_neg (by decide),decide_eq_true (by omega),if_pos rfl]
theorem Zu3 {t:Ty} (o:t.Own) (h:t.kind=2∨t.kind=3) : -999999999999999≤t.min∧t.max≤999999999999999:=by
 obtain ⟨a,b,_⟩:=o.bounds (by omega) (by omega)
 have e:Zat t.kind=(-999999999999999,999999999999999):=by rcases h with h | h<;>rw [h]<;>decide
 rw [e] at a b
 exact ⟨a,b⟩
theorem ZvV {n:Int} {t:Ty}:btw n t=true↔t.min≤n∧n≤t.max:=by rw [btw,Bool.and_eq_true,decide_eq_true_eq,decide_eq_true_eq]
theorem ZBV (n D:Nat) (a b:Ty) (x:Int) (oa:a.Own) (ob:b.Own) (hD:1≤D) (hn:200<n) (ha:a.kind=2∨a.kind=3) (hb:b.kind=2∨b.kind=3) (hx:btw x a=true) :
  ∃ r1 r2,((ZbR n x a.scale b.scale).bind fun y17=>some (Vl.mk b.kind y17.1 b.scale ⟨#[]⟩ [] [],y17.2&&ZaV y17.1 b))=some r1∧((ZgL n x (b.scale-a.scale)).bind fun y7=>some (Vl.mk b.kind y7.1 b.scale ⟨#[]⟩ [] [],y7.2&&Zci y7.1 b))=some r2 ∧
   Zl6 D ((ZxY x a.scale b.scale).bind fun m=>if btw m b=true then some (Vl.mk b.kind m b.scale ⟨#[]⟩ [] []) else none) r1∧Zl6 D ((ZxY x a.scale b.scale).bind fun m=>if btw m b=true then some (Vl.mk b.kind m b.scale ⟨#[]⟩ [] []) else none) r2:=by
 have la:=Zu3 oa ha
 have lb:=Zu3 ob hb
 have sa:=oa.scale
 have sb:=ob.scale
 have hx:=ZvV.1 hx
 have z:(⟨#[]⟩:ByteArray).size≤1048576:=by decide
 obtain ⟨y,hy,hsh⟩:=Zx0 n x a.scale b.scale (by omega) (by omega) (by omega) hn
 rw [Zt5 n x a.scale b.scale (by omega) (by omega) (by omega) hn,Option.bind_some,hy,Option.bind_some]
 refine ⟨_,_,rfl,rfl,?_⟩
 cases q:ZxY x a.scale b.scale with
 | none =>
  rw [q] at hsh
  have e:(y.2&&Zci y.1 b)=false:=by
   rcases hsh with h | ⟨h,h2⟩
   ·
    rw [h];rfl
   ·
    rw [h,Bool.true_and,Bool.eq_false_iff]
    intro w
    have:btw y.1 b=true:=w
    rw [ZvV] at this
    omega
  exact ⟨⟨rfl,ZkM _ _ _ _ z,by rw [ZhC];exact hD⟩,⟨e,ZkM _ _ _ _ z,by rw [ZhC];exact hD⟩⟩
 | some m =>
  rw [q] at hsh
  have hsh:y=(m,true):=hsh
  subst hsh
  refine ⟨?_,?_⟩
  ·
   exact ZnZ (ZkM _ _ _ _ z) (by rw [ZhC];exact hD)
  ·
   exact ZnZ (ZkM _ _ _ _ z) (by rw [ZhC];exact hD)
theorem Znj (q:TF→Bool) (w:ByteArray):∀ l:List TF,(l.map fun p=>p.2.1).Nodup→l.find? (fun p=>sEq p.2.1 w&&q p)=match l.find? (fun p=>sEq p.2.1 w) with | none=>none | some p=>if q p=true then some p else none
 | [],_=>rfl
 | p::r,h=>by
  rw [List.map_cons,List.nodup_cons] at h
  rw [List.find?_cons,List.find?_cons]
  cases c:sEq p.2.1 w with
  | false=>rw [Bool.false_and];exact Znj q w r h.2
  | true =>
   rw [Bool.true_and]
   cases z:q p with
   | true=>simp [z]
   | false =>
    simp only [z,Bool.false_eq_true,if_false]
    rw [List.find?_eq_none]
    intro x hx hq
    rw [Bool.and_eq_true,Zfe] at hq
    exact h.1 (List.mem_map.2 ⟨x,hx,by rw [hq.1,(Zfe _ _).1 c]⟩)
theorem ZvO (rec:Ty→Ty→Vl→Option (Vl × Bool)) (n:Nat) (a b:Ty) (v:Vl) (ha:a.fields.length≤1000000000) (hb:b.fields.length≤1000000000) (hn:b.fields.length<n):∀ (k m i:Nat),i+k=a.fields.length→k<m →
  Zg5 rec n a b v m i=match (a.fields.drop i).find? (fun p=>sEq p.2.1 v.text&&(ZoD b.fields p.1).isSome) with
   | none=>some (nilV,false)
   | some p=>(idx v.list 0).bind fun x=>(rec p.2.2.2.1 ((ZoD b.fields p.1).getD ZkP).2.2.2.1 x).bind fun y=>some (Vl.mk 10 0 0 ((ZoD b.fields p.1).getD ZkP).2.1 [y.1] [],y.2)
 | k,0,i,_,h=>absurd h (Nat.not_lt_zero _)
 | 0,m+1,i,hi,_=>by
  rw [Zg5,Zal,decide_eq_false (by omega),if_neg (by decide),List.drop_eq_nil_of_le (by omega)];rfl
 | k+1,m+1,i,hi,hm=>by
  have d:i<a.fields.length:=by omega
  rw [Zg5,Zal,decide_eq_true d,if_pos rfl,Zam d,Option.bind_some,Zm7 n b _ hb hn,Option.bind_some,List.drop_eq_getElem_cons d,List.find?_cons]
  cases c:sEq a.fields[i].2.1 v.text&&(ZoD b.fields a.fields[i].1).isSome with
  | true =>
   rw [if_neg (by rw [←Bool.not_and,c];decide)]
  | false =>
   rw [if_pos (by rw [←Bool.not_and,c];rfl),if_pos (Zaj (by omega))]
   exact ZvO rec n a b v ha hb hn k m (i+1) (by omega) (by omega)
theorem Zrm {a b:Int} (h:a=b∨((a=2∨a=3)∧(b=2∨b=3))):Zb2 a b=true:=by
 simp only [Zb2,Zck,Bool.or_eq_true,Bool.and_eq_true,decide_eq_true_eq]
 exact h
theorem Zuc {a b:Int} (h:¬ a=b) (h2:¬ ((a=2∨a=3)∧(b=2∨b=3))):Zb2 a b=false:=by
 rw [Bool.eq_false_iff]
 intro q
 simp only [Zb2,Zck,Bool.or_eq_true,Bool.and_eq_true,decide_eq_true_eq] at q
 exact q.elim h h2
theorem Zif {D:Nat} {o:Option Vl} {A B:Option (Vl × Bool)} {r1 r2:Vl × Bool} (h1:A=some r1) (h2:B=some r2) (h3:Zl6 D o r1) (h4:Zl6 D o r2):∃ r1 r2,A=some r1∧B=some r2∧Zl6 D o r1∧Zl6 D o r2:=⟨r1,r2,h1,h2,h3,h4⟩
theorem ZxQ:∀ (d n K e:Nat) (a b:Ty) (v:Vl),a.small→b.small→a.Good→b.Fine e→v.Nar→v.depth≤K→Zn8 d a v=true→K+3100000000+d<n →
  ∃ r1 r2,Zax n a b v=some r1∧ZfF n a b v=some r2∧Zl6 (K+1048576) (upS d a b v) r1∧Zl6 (K+1048576) (upS d a b v) r2
 | 0,n,K,e,a,b,v,_,_,_,_,_,_,h,_=>by simp [Zn8] at h
 | d+1,0,K,e,a,b,v,_,_,_,_,_,_,_,h=>absurd h (by omega)
 | d+1,n+1,K,0,a,b,v,_,_,_,h,_,_,_,_=>by cases h
 | d+1,n+1,0,e+1,a,b,v,_,_,_,_,_,h,_,_=>by have:=v.depth_eq;omega
 | d+1,n+1,K+1,e+1,a,b,v,sa,sb,ga,fb,hv,hvd,hf,hn=>by
  have oa:=ga.own
  have ob:=fb.good.own
  have la:=a.lens
  have lb:=b.lens
  have ah:=sa.1
  have ag:=sb.1
  obtain ⟨v1,v2,v3,v4,v5⟩:=hv.inv
  obtain ⟨hk,_,_,ab⟩:=Zta hf
  have c0:¬ ((a.kind<1∨10<a.kind)∨v.kind≠a.kind∨ZeB v=false):=by
   rintro (q | q | q)
   ·
    omega
   ·
    exact q hk
   ·
    rw [ab] at q;cases q
  rw [Zn8,if_neg c0] at hf
  rw [Zax,Zev,ZfF,Zpe,upS]
  by_cases num:(a.kind=2∨a.kind=3)∧(b.kind=2∨b.kind=3)
  ·
   have hx:btw v.int a=true:=by
    rcases num.1 with q | q
    ·
     rwa [if_pos (.inl q)] at hf
    ·
     rw [if_neg (by omega),if_pos q,Bool.and_eq_true] at hf
     exact hf.2
   have e1:(if decide (b.kind=2)=true then Zbf (Zax n) n a b v true else Zbf (Zax n) n a b v (decide (b.kind=3)))=Zbf (Zax n) n a b v true:=by
    rcases num.2 with q | q
    ·
     rw [decide_eq_true q,if_pos rfl]
    ·
     rw [decide_eq_true q];exact ite_self _
   have s1:=oa.scale
   have s2:=ob.scale
   rw [if_pos num,Zrm (.inr num),if_neg (by decide),e1,Zbf,if_pos rfl,Ztn oa num.1,Ztn ob num.2,decide_eq_true s1.1,decide_eq_true s2.1,if_pos (by rfl),if_pos (by unfold I64;omega)]
   exact ZBV n _ a b v.int oa ob (by omega) (by omega) num.1 num.2 hx
  have af:(decide (0≤Zbs a)&&decide (0≤Zbs b))=false:=by
   rw [Bool.eq_false_iff]
   intro q
   rw [Bool.and_eq_true,decide_eq_true_eq,decide_eq_true_eq] at q
   exact num ⟨ZqW q.1,ZqW q.2⟩
  rw [if_neg num,af,if_neg (show ¬ (false=true) by decide)]
  by_cases ne:a.kind=b.kind
  rotate_left
  ·
   rw [if_pos ne,Zuc ne num,if_pos (by rfl),decide_eq_false ne,if_pos (by rfl)]
   exact Zif rfl rfl (Zho (by omega) rfl) (Zho (by omega) rfl)
  have ad:¬ b.kind=2:=fun q=>num ⟨by omega,.inl q⟩
  have ae:¬ b.kind=3:=fun q=>num ⟨by omega,.inr q⟩
  have dv:v.depth≤K+1+1048576:=by omega
  rw [if_neg (show ¬ a.kind≠b.kind from fun q=>q ne),Zrm (.inl ne),if_neg (show ¬ ((!true)=true) by decide),decide_eq_false ad,if_neg (show ¬ (false=true) by decide),decide_eq_false ae,Zbf,if_neg (show ¬ (false=true) by decide),decide_eq_true ne,if_neg (show ¬ ((!true)=true) by decide)]
  by_cases k67:b.kind=6∨b.kind=7
  ·
   have e1:(if decide (b.kind=6)=true then Zbd (Zax n) n a b v true else Zbd (Zax n) n a b v (decide (b.kind=7)))=Zbd (Zax n) n a b v true:=by
    rcases k67 with q | q
    ·
     rw [decide_eq_true q,if_pos rfl]
    ·
     rw [decide_eq_true q];exact ite_self _
   have e2:(if decide (b.kind=6)=true then Zd3 (ZfF n) n a b v true else Zd3 (ZfF n) n a b v (decide (b.kind=7)))=Zd3 (ZfF n) n a b v true:=by
    rcases k67 with q | q
    ·
     rw [decide_eq_true q,if_pos rfl]
    ·
     rw [decide_eq_true q];exact ite_self _
   rw [if_pos k67,e1,Zbd,if_pos rfl,decide_eq_false (by omega),if_neg (by decide),decide_eq_false (by omega),if_neg (by decide),decide_eq_false (by omega),if_neg (by decide),e2,Zd3,if_pos rfl]
   exact Zif rfl rfl (ZnZ hv dv) (ZnZ hv dv)
  have n6:¬ b.kind=6:=fun q=>k67 (.inl q)
  have n7:¬ b.kind=7:=fun q=>k67 (.inr q)
  rw [if_neg k67,decide_eq_false n6,if_neg (show ¬ (false=true) by decide),decide_eq_false n7,Zbd,if_neg (show ¬ (false=true) by decide),if_neg (show ¬ (false=true) by decide)]
  by_cases k5:b.kind=5
  ·
   rw [if_pos k5,decide_eq_true k5,if_pos rfl,decide_eq_false (by omega),if_neg (by decide),decide_eq_false (by omega),if_neg (by decide),if_pos rfl]
   exact Zif rfl rfl (ZnZ hv dv) (ZnZ hv dv)
  rw [if_neg k5,decide_eq_false k5,if_neg (show ¬ (false=true) by decide),if_neg (show ¬ (false=true) by decide)]
  by_cases k4:b.kind=4
  ·
   have bw:=(b.ok_eq.1 sb.2.2).1
   rw [if_pos k4,decide_eq_true k4,if_pos rfl,decide_eq_false (show ¬ b.kind=1 by omega),if_neg (show ¬ (false=true) by decide),if_pos rfl,ZzW n v.text b (by omega) (by omega),Option.bind_some]
   refine Zif (r1:=(v,ZrX v.text b)) ?_ rfl (ZnZ hv dv) (ZnZ hv dv)
   rw [ZrX]
   by_cases q:b.words=[]
   ·
    rw [if_pos q,q,if_neg (by decide)];rfl
   ·
    have q0:0<b.words.length:=List.length_pos_iff.2 q
    rw [if_neg q,if_pos (by rw [decide_eq_true_eq];omega),Zk3 n _ b (by omega) (by omega),Option.bind_some]
  rw [if_neg k4,decide_eq_false k4,if_neg (show ¬ (false=true) by decide),if_neg (show ¬ (false=true) by decide)]
  by_cases k8:b.kind=8
  ·
   obtain ⟨x,hx⟩:=oa.elem (by omega)
   obtain ⟨y,hy⟩:=ob.elem k8
   have f:x∈a.elem:=by rw [hx];simp
   have t:y∈b.elem:=by rw [hy];simp
   rw [if_neg (by omega),if_neg (by omega),if_neg (by omega),if_neg (by omega),if_pos (by omega),Bool.and_eq_true,List.all_eq_true] at hf
   have m:∀ u∈v.list,Zn8 d x u=true:=fun u hu=>by have:=hf.2 u hu;rw [hx] at this;exact this
   have ih:=fun u (hu:u∈v.list)=>ZxQ d n K e x y u (Ty.small_elem sa f) (Ty.small_elem sb t) (ZhG ga f) (fb.elem t) (v4 u hu) (by have:=Vl.depth_list hu;omega) (m u hu) (by omega)
   obtain ⟨r1,e1,u1⟩:=ZyF (Zax n) n (K+1048576) a b x y v (upS d x y) hx hy (by omega) (by omega) (fun u hu=>by obtain ⟨r1,r2,h1,h2,h3,h4⟩:=ih u hu;exact ⟨r1,h1,h3⟩) v.list.length n 0 [] (by omega) (by omega) rfl (by simp)
   obtain ⟨r2,e2,u2⟩:=Zv6 (ZfF n) n (K+1048576) a b x y v (upS d x y) hx hy (by omega) (by omega) (fun u hu=>by obtain ⟨r1,r2,h1,h2,h3,h4⟩:=ih u hu;exact ⟨r2,h2,h4⟩) v.list.length n 0 [] (by omega) (by omega) rfl (by simp)
   rw [if_pos k8,decide_eq_true k8,if_pos rfl,decide_eq_false (by omega),if_neg (by decide),Zd3,if_neg (by decide),decide_eq_true k8,if_pos rfl,hx,hy]
   rw [List.drop_zero] at u1 u2
   exact Zif e1 e2 (by rw [Nat.add_right_comm];exact u1) (by rw [Nat.add_right_comm];exact u2)
  rw [if_neg k8,decide_eq_false k8,if_neg (show ¬ (false=true) by decide)]
  by_cases k9:b.kind=9
  ·
   rw [if_neg (by omega),if_neg (by omega),if_neg (by omega),if_neg (by omega),if_neg (by omega),if_pos (by omega),Bool.and_eq_true,List.all_eq_true] at hf
   have fx:∀ p∈a.fields,∀ x,ZfB v p.2.1=some x→Zn8 d p.2.2.2.1 x=true:=fun p hp x hx=>by have:=hf.1 p hp;rw [hx] at this;exact this
   have ih:∀ g∈b.fields,∀ p,ZoD a.fields g.1=some p→∀ x,ZfB v p.2.1=some x→(∃ r1 r2,Zax n p.2.2.2.1 g.2.2.2.1 x=some r1∧ZfF n p.2.2.2.1 g.2.2.2.1 x=some r2∧Zl6 (K+1048576) (upS d p.2.2.2.1 g.2.2.2.1 x) r1∧Zl6 (K+1048576) (upS d p.2.2.2.1 g.2.2.2.1 x) r2)∧∀ y,upS d p.2.2.2.1 g.2.2.2.1 x=some y→y.kind≠0:=fun g hg p hp x hx=>by
    have i:p∈a.fields:=List.mem_of_find?_eq_some hp
    have w:=fx p i x hx
    obtain ⟨q,hq,_,rfl⟩:=Zon hx
    have fk:=Zta w
    have gk:=(ZcG fb.good hg).own.kind
    exact ⟨ZxQ d n K e _ _ _ (Ty.small_field sa i) (Ty.small_field sb hg) (ZcG ga i) (fb.field hg) (v5 q hq).2 (by have:=Vl.depth_fld hq;omega) w (by omega),fun y hy=>Zye d _ _ _ y gk.1 (by omega) hy⟩
   have hc:∀ q∈v.fields,Zbi n q.2=some q.2:=fun q hq=>Zf9 n q.2 (v5 q hq).2 (by have:=Vl.depth_fld hq;omega)
   have bn:=(b.ok_eq.1 sb.2.2).2.2.2
   have l:∀ g∈b.fields,g.2.2.1=3→∃ x,g.2.2.2.2=[x]∧x.Nar∧x.depth≤K+1048576∧x.kind≠0:=fun g hg h3=>by
    obtain ⟨x,hx⟩:=List.length_eq_one_iff.1 ((ob.each g hg).2.2.2.2.1 h3)
    have f:x∈g.2.2.2.2:=by rw [hx];simp
    obtain ⟨z1,z2,z3⟩:=(bn g hg).2.2.2 x f
    have:=Zua (Zh4 (fb.dfl hg x f).1)
    exact ⟨x,hx,ZlT x.size x (Nat.le_refl _) (by omega) z3,by omega,by omega⟩
   have H1:RecH (Zax n) n (K+1048576) a b v (upS d):=⟨by omega,by omega,by omega,by omega,by omega,by omega,hc,fun g hg=>(bn g hg).1,fun g hg p hp x hx=>by obtain ⟨⟨r1,r2,h1,h2,h3,h4⟩,h5⟩:=ih g hg p hp x hx;exact ⟨r1,h1,h3,h5⟩,l⟩
   have H2:RecH (ZfF n) n (K+1048576) a b v (upS d):=⟨by omega,by omega,by omega,by omega,by omega,by omega,hc,fun g hg=>(bn g hg).1,fun g hg p hp x hx=>by obtain ⟨⟨r1,r2,h1,h2,h3,h4⟩,h5⟩:=ih g hg p hp x hx;exact ⟨r2,h2,h4,h5⟩,l⟩
   have A0:Acc (K+1048576) b 0 []:=⟨Nat.le_refl _,by simp,by rw [List.map_nil,List.nil_append,List.drop_zero];exact (ZmS _ _ _ ob.apart).1⟩
   obtain ⟨r1,e1,u1⟩:=ZCi H1 b.fields.length n 0 [] (by omega) (by omega) A0
   obtain ⟨r2,e2,u2⟩:=Zu8 H2 b.fields.length n 0 [] (by omega) (by omega) A0
   rw [show Zcn []=[] from List.length_eq_zero_iff.1 (by rw [ZdP];rfl)] at e2
   have aa:ZcC (Zax n) n a b v=some r1:=e1
   rw [if_pos k9,decide_eq_true k9,if_pos rfl,aa,Option.bind_some,decide_eq_false (by omega),if_neg (by decide),Zd3,if_neg (by decide),decide_eq_false (by omega),if_neg (by decide),decide_eq_false (by omega),if_neg (by decide),ZkK]
   rw [List.drop_zero] at u1 u2
   exact Zif rfl e2 (by rw [Nat.add_right_comm];exact u1) (by rw [Nat.add_right_comm];exact u2)
  rw [if_neg k9,decide_eq_false k9,if_neg (show ¬ (false=true) by decide)]
  by_cases k10:b.kind=10
  ·
   rw [if_neg (by omega),if_neg (by omega),if_neg (by omega),if_neg (by omega),if_neg (by omega),if_neg (by omega),if_pos (by omega)] at hf
   rw [if_pos k10,decide_eq_true k10,if_pos rfl,decide_eq_false (by omega),if_neg (by decide),Zd3,if_neg (by decide),decide_eq_false k8,if_neg (by decide),decide_eq_true k10,if_pos rfl,Zt6 n a v.text (by omega) sa (by omega),Option.bind_some]
   have hr:=ZvO (ZfF n) n a b v (by omega) (by omega) (by omega) a.fields.length n 0 (by omega) (by omega)
   rw [List.drop_zero,Znj (fun p=>(ZoD b.fields p.1).isSome) v.text a.fields (ZmS _ _ _ oa.apart).1] at hr
   cases c:Zce a v.text with
   | none=>rw [c] at hf;simp at hf
   | some p =>
    have c':a.fields.find? (fun p=>sEq p.2.1 v.text)=some p:=c
    cases hl:v.list with
    | nil=>rw [c,hl] at hf;simp at hf
    | cons x xs =>
     rw [c,hl] at hf
     have hf:Zn8 d p.2.2.2.1 x=true:=hf
     have f:x∈v.list:=by rw [hl];simp
     have i:=(ZfU c).1
     rw [c',hl] at hr
     simp only [Option.getD_some]
     rw [ZuL n b.fields _ (by omega) (by omega),Option.bind_some]
     cases g:ZoD b.fields p.1 with
     | none =>
      simp only [g,Option.isSome_none,Bool.false_eq_true,if_false] at hr
      rw [if_pos (by rfl)]
      exact Zif rfl hr (Zho (by omega) rfl) (Zho (by omega) rfl)
     | some q =>
      have j:q∈b.fields:=List.mem_of_find?_eq_some g
      simp only [g,Option.isSome_some,if_true,Option.getD_some] at hr
      obtain ⟨r1,r2,h1,h2,h3,h4⟩:=ZxQ d n K e p.2.2.2.1 q.2.2.2.1 x (Ty.small_field sa i) (Ty.small_field sb j) (ZcG ga i) (fb.field j) (v4 x f) (by have:=Vl.depth_list f;omega) hf (by omega)
      have bn:=((b.ok_eq.1 sb.2.2).2.2.2 q j).1
      have k:∀ {o:Option Vl} {r:Vl × Bool},Zl6 (K+1048576) o r→(Vl.mk 10 0 0 q.2.1 [r.1] []).Nar∧(Vl.mk 10 0 0 q.2.1 [r.1] []).depth≤K+1+1048576:=fun {o r} u=>by
       refine ⟨.mk _ (by simp [Vl.list]) (by simp [Vl.fields]) bn (fun z hz=>?_) (by simp [Vl.fields]) (by simp [Vl.fields]),?_⟩
       ·
        have hz:z∈[r.1]:=hz
        rw [List.mem_singleton] at hz;subst hz;exact u.2.1
       ·
        have:=u.2.2
        simp only [Vl.depth,Zgw,ZfD];omega
      have fin:∀ {o:Option Vl} {r:Vl × Bool},Zl6 (K+1048576) o r→Zl6 (K+1+1048576) (o.map fun y=>Vl.mk 10 0 0 q.2.1 [y] []) (Vl.mk 10 0 0 q.2.1 [r.1] [],r.2):=fun {o r} u=>by
       obtain ⟨b1,b2⟩:=k u
       refine ⟨?_,b1,b2⟩
       have u1:=u.1
       cases o with
       | none=>exact u1
       | some y =>
        have u1:r=(y,true):=u1
        subst u1;rfl
      rw [show idx (x::xs) 0=some x from rfl,Option.bind_some,h2,Option.bind_some] at hr
      have s:Zg8 n q.2.1 r1.1=some (Vl.mk 10 0 0 q.2.1 [r1.1] []):=by
       obtain ⟨b1,b2⟩:=k h3
       rw [Zg8,Zf9 n _ b1 (by omega)];rfl
      rw [if_neg (by simp),show idx (x::xs) 0=some x from rfl,Option.bind_some,Option.getD_some,h1,Option.bind_some,s,Option.bind_some]
      simp only [g]
      exact Zif rfl hr (fin h3) (fin h4)
  ·
   have k1:b.kind=1:=by have:=ob.kind;omega
   rw [if_neg k10,decide_eq_false k10,if_neg (show ¬ (false=true) by decide),Zd9,decide_eq_true k1,if_pos rfl]
   exact Zif rfl rfl ⟨rfl,hv,dv⟩ ⟨rfl,hv,dv⟩
theorem Zok:∀ (l:List ByteArray) (o:Option ByteArray),ZrJ o l=0→∀ w∈l,Zei w=true
 | [],_,_,w,hw=>by simp at hw
 | x::r,o,h,w,hw=>by
  have a:Zei x=true∧ZrJ (some x) r=0:=by
   by_cases h0:Zei x=true
   ·
    refine ⟨h0,?_⟩
    cases o with
    | none=>rw [ZrJ,if_pos h0] at h;exact h
    | some p =>
     rw [ZrJ,if_pos h0] at h
     by_cases h1:sEq x p=true
     ·
      rw [if_pos h1] at h;exact absurd h (by decide)
     rw [if_neg h1] at h
     by_cases h2:sLt x p=true
     ·
      rw [if_pos h2] at h;exact absurd h (by decide)
     rw [if_neg h2] at h;exact h
   ·
    cases o with
    | none=>rw [ZrJ,if_neg h0] at h;exact absurd h (by decide)
    | some p=>rw [ZrJ,if_neg h0] at h;exact absurd h (by decide)
  rcases List.mem_cons.1 hw with rfl | hw
  ·
   exact a.1
  ·
   exact Zok r _ a.2 w hw
structure Vl.Own (v:Vl):Prop where
 kind:1≤v.kind∧v.kind≤10
 nolist:v.kind≠8→v.kind≠10→v.list=[]
 nofields:v.kind≠9→v.fields=[]
 text:v.text.size≤1024
 names:∀ p∈v.fields,p.1.size≤32
theorem Vl.own_of {v:Vl} (h:Zhc v=0):v.Own:=by
 obtain ⟨k1,k2⟩:=ZkJ h
 have hn:Za8 v=false:=ZuR (by omega)
 have nl:v.kind≠8→v.kind≠10→v.list=[]:=fun q q'=>by
  rcases Nat.eq_zero_or_pos v.list.length with e | e
  ·
   exact List.length_eq_zero_iff.1 e
  ·
   exfalso;apply k2;rw [Zby];simp [q,q'];omega
 have nf:v.kind≠9→v.fields=[]:=fun q=>by
  rcases Nat.eq_zero_or_pos v.fields.length with e | e
  ·
   exact List.length_eq_zero_iff.1 e
  ·
   exfalso;apply k2;rw [Zby];simp [q];omega
 have nt:v.kind≠4→v.kind≠5→v.kind≠10→v.text.size=0:=fun q1 q2 q3=>by
  cases hs:sEq v.text ⟨#[]⟩ with
  | true=>exact Zu6 hs
  | false=>exfalso;apply k2;rw [Zby];simp [q1,q2,q3,hs]
 rw [Zhc,hn,if_neg (by decide),if_neg k1,if_neg k2] at h
 have nm:v.kind=9→∀ p∈v.fields,p.1.size≤32:=fun k9 p hp=>by
  rw [if_neg (by omega),if_neg (by omega),if_neg (by omega),if_neg (by omega),if_neg (by omega),if_neg (by omega),if_neg (by omega),if_neg (by omega),if_pos k9] at h
  by_cases q:64<v.fields.length
  ·
   rw [if_pos q] at h;exact absurd h (by decide)
  rw [if_neg q] at h
  exact Zsu (Zok _ _ h p.1 (List.mem_map_of_mem hp))
 refine ⟨by omega,nl,nf,?_,fun p hp=>?_⟩
 ·
  by_cases k4:v.kind=4
  ·
   rw [if_neg (by omega),if_neg (by omega),if_neg (by omega),if_pos k4] at h
   by_cases q:1024<v.text.size
   ·
    rw [if_pos q] at h;exact absurd h (by decide)
   ·
    omega
  by_cases k5:v.kind=5
  ·
   rw [if_neg (by omega),if_neg (by omega),if_neg (by omega),if_neg (by omega),if_pos k5] at h
   by_cases q:1024<v.text.size
   ·
    rw [if_pos q] at h;exact absurd h (by decide)
   ·
    omega
  by_cases k10:v.kind=10
  ·
   rw [if_neg (by omega),if_neg (by omega),if_neg (by omega),if_neg (by omega),if_neg (by omega),if_neg (by omega),if_neg (by omega),if_neg (by omega),if_neg (by omega)] at h
   by_cases q:Zei v.text=true
   ·
    have:=Zsu q;omega
   ·
    rw [if_neg q] at h;exact absurd h (by decide)
  ·
   have:=nt k4 k5 k10;omega
 ·
  by_cases k9:v.kind=9
  ·
   exact nm k9 p hp
  ·
   rw [nf k9] at hp;simp at hp
theorem Vl.Good.own {v:Vl} (h:v.Good):v.Own:=Vl.own_of (ZhR h)
theorem Zp8:∀ (k:Nat) (v:Vl) (lv:Nat),v.size≤k→v.Good→(Zha lv v).length=v.size
 | 0,v,lv,h,_=>absurd h (by have:=v.size_eq;omega)
 | k+1,v,lv,h,g=>by
  have own:=g.own
  rw [Zhp,List.length_cons,List.length_flatMap]
  have e1:((Za6 v).map fun x=>(Zha (lv+1) x).length)=(Za6 v).map Vl.size:=List.map_congr_left fun x hx=>Zp8 k x (lv+1) (by have:=Zd4 hx;omega) (ZfQ g hx)
  rw [e1]
  have c:=v.size_eq
  by_cases k8:v.kind=8∨v.kind=10
  ·
   rw [Za6,if_pos k8,←ZpV]
   rw [own.nofields (by omega)] at c
   simp only [Zfo] at c
   omega
  by_cases k9:v.kind=9
  ·
   rw [Za6,if_neg k8,if_pos k9,List.map_map]
   have:=ZpU v.fields
   have e:(v.fields.map (Vl.size∘fun x=>x.2)).sum=Zfo v.fields:=this.symm
   rw [own.nolist (by omega) (by omega)] at c
   simp only [Zf6] at c
   omega
  ·
   rw [Za6,if_neg k8,if_neg k9]
   rw [own.nolist (by omega) (by omega),own.nofields k9] at c
   simp only [Zf6,Zfo] at c
   simp;omega
theorem Vl.depth_part {v x:Vl} (h:x∈Za6 v):x.depth<v.depth:=by
 have e:=v.depth_eq
 rcases ZkR h with hx | ⟨p,hp,rfl⟩
 ·
  have:=(ZfL v.list (Zgw v.list)).1 (Nat.le_refl _) x hx;omega
 ·
  have:=(ZgK v.fields (ZfD v.fields)).1 (Nat.le_refl _) p hp;omega
theorem ZvW (k i s:Int) (t:ByteArray) (L:List Vl) (F:List (ByteArray × Vl)) (B:Nat) (ht:t.size≤1048576) (hL:L.length≤100000000) (hF:F.length≤100000000) (h1:∀ x∈L,x.Nar∧x.depth≤B) (h2:∀ p∈F,p.1.size≤1048576∧p.2.Nar∧p.2.depth≤B):(Vl.mk k i s t L F).Nar∧(Vl.mk k i s t L F).depth≤B+1:=by
 refine ⟨.mk _ hL hF ht (fun x hx=>(h1 x hx).1) (fun p hp=>(h2 p hp).1) (fun p hp=>(h2 p hp).2.1),?_⟩
 have a:=(ZfL L B).2 fun x hx=>(h1 x hx).2
 have b:=(ZgK F B).2 fun p hp=>(h2 p hp).2.2
 simp only [Vl.depth];omega
theorem ZsM:∀ (ps:List TF) (l:List (ByteArray × Vl)),(Zsk ps l).length≤l.length+ps.length∧∀ q∈Zsk ps l,q∈l∨∃ p∈ps,q.1=p.2.1∧q.2∈p.2.2.2.2
 | [],l=>⟨Nat.le_refl _,fun q hq => .inl hq⟩
 | p::ps,l=>by
  have d:∀ l',l'.length≤l.length+1→(∀ q∈l',q∈l∨(q.1=p.2.1∧q.2∈p.2.2.2.2))→(Zsk ps l').length≤l.length+(p::ps).length∧∀ q∈Zsk ps l',q∈l∨∃ x∈p::ps,q.1=x.2.1∧q.2∈x.2.2.2.2:=fun l' h1 h2=>by
   obtain ⟨a,b⟩:=ZsM ps l'
   refine ⟨by rw [List.length_cons];omega,fun q hq=>?_⟩
   rcases b q hq with h | ⟨x,hx,h⟩
   ·
    rcases h2 q h with h | h
    ·
     exact .inl h
    ·
     exact .inr ⟨p,List.mem_cons_self .., h⟩
   ·
    exact .inr ⟨x,List.mem_cons_of_mem _ hx,h⟩
  rw [Zsk]
  cases c:ZCN p with
  | none=>exact d l (by omega) fun q hq => .inl hq
  | some x =>
   have hx:x∈p.2.2.2.2:=by
    rw [ZCN] at c
    split at c
    ·
     exact List.mem_of_getElem? c
    ·
     cases c
   simp only
   split
   ·
    exact d l (by omega) fun q hq => .inl hq
   ·
    refine d _ (by rw [ZsC];omega) fun q hq=>?_
    rcases List.mem_cons.1 ((Zns l p.2.1 x).mem_iff.1 hq) with rfl | h
    ·
     exact .inr ⟨rfl,hx⟩
    ·
     exact .inl h
theorem ZmB:∀ (d:Nat) (t:Ty) (v:Vl),t.small→v.ok→v.size≤1048576→(Zdd d t v).Nar∧(Zdd d t v).depth≤v.depth+1048576
 | 0,t,v,_,hv,hs=>⟨ZlT v.size v (Nat.le_refl _) hs hv,by rw [Zdd];omega⟩
 | d+1,t,v,ht,hv,hs=>by
  have f:v.Nar∧v.depth≤v.depth+1048576:=⟨ZlT v.size v (Nat.le_refl _) hs hv,by omega⟩
  have vl:=ZdR v
  have tl:=t.lens
  have ts:=ht.1
  obtain ⟨o1,o2,o3⟩:=v.ok_eq.1 hv
  obtain ⟨t1,t2,t3,t4⟩:=t.ok_eq.1 ht.2.2
  have dp:=v.depth_eq
  have j:∀ u∈v.list,u.Nar∧u.depth≤v.depth-1+1048576:=fun u hu=>⟨ZlT u.size u (Nat.le_refl _) (by have:=v.list_size u hu;omega) (o2 u hu),by have:=Vl.depth_list hu;omega⟩
  have i:∀ q∈v.fields,q.1.size≤1048576∧q.2.Nar∧q.2.depth≤v.depth-1+1048576:=fun q hq=>⟨(o3 q hq).1,ZlT q.2.size q.2 (Nat.le_refl _) (by have:=v.field_size q hq;omega) (o3 q hq).2,by have:=Vl.depth_fld hq;omega⟩
  have cl:∀ x,x.small→∀ u∈v.list,(Zdd d x u).Nar∧(Zdd d x u).depth≤v.depth-1+1048576:=fun x hx u hu=>by
   obtain ⟨a,b⟩:=ZmB d x u hx (o2 u hu) (by have:=v.list_size u hu;omega)
   exact ⟨a,by have:=Vl.depth_list hu;omega⟩
  have cf:∀ x,x.small→∀ q∈v.fields,(Zdd d x q.2).Nar∧(Zdd d x q.2).depth≤v.depth-1+1048576:=fun x hx q hq=>by
   obtain ⟨a,b⟩:=ZmB d x q.2 hx (o3 q hq).2 (by have:=v.field_size q hq;omega)
   exact ⟨a,by have:=Vl.depth_fld hq;omega⟩
  have up:v.depth-1+1048576+1=v.depth+1048576:=by omega
  rw [Zdd]
  split
  ·
   exact f
  split
  ·
   rename_i k9
   have em:Zem (Zdd d) t v=ZxX v (v.fields.map fun q=>match Zce t q.1 with | some p=>(q.1,Zdd d p.2.2.2.1 q.2) | none=>q):=by rw [Zem,if_neg (by omega),if_pos k9];rfl
   have hm:∀ q∈(Zem (Zdd d) t v).fields,q.1.size≤1048576∧q.2.Nar∧q.2.depth≤v.depth-1+1048576:=fun q hq=>by
    rw [em] at hq
    obtain ⟨z,hz,rfl⟩:=List.mem_map.1 (show q∈v.fields.map _ from hq)
    cases c:Zce t z.1 with
    | none=>exact i z hz
    | some p=>exact ⟨(o3 z hz).1,cf _ (Ty.small_field ht (ZfU c).1) z hz⟩
   have k:(Zem (Zdd d) t v).fields.length=v.fields.length:=by rw [em];exact List.length_map _
   obtain ⟨a1,a2⟩:=ZsM t.fields (Zem (Zdd d) t v).fields
   have:=ZvW v.kind v.int v.scale v.text v.list (Zsk t.fields (Zem (Zdd d) t v).fields) (v.depth-1+1048576) o1 (by omega) (by omega) j (fun q hq=>by
    rcases a2 q hq with h | ⟨p,hp,h1,h2⟩
    ·
     exact hm q h
    ·
     obtain ⟨z1,z2,z3⟩:=(t4 p hp).2.2.2 q.2 h2
     exact ⟨by rw [h1];exact (t4 p hp).1,ZlT q.2.size q.2 (Nat.le_refl _) (by omega) z3,by omega⟩)
   rw [up] at this
   have e:ZxX (Zem (Zdd d) t v) (Zsk t.fields (Zem (Zdd d) t v).fields)=Vl.mk v.kind v.int v.scale v.text v.list (Zsk t.fields (Zem (Zdd d) t v).fields):=by rw [em];rfl
   rw [e]
   exact this
  ·
   rename_i k9
   rw [Zem]
   split
   ·
    split
    ·
     rename_i x he
     have g:x∈t.elem:=by rw [he];simp
     have:=ZvW v.kind v.int v.scale v.text (v.list.map (Zdd d x)) v.fields (v.depth-1+1048576) o1 (by rw [List.length_map];omega) (by omega) (fun y hy=>by
      obtain ⟨u,hu,rfl⟩:=List.mem_map.1 hy
      exact cl x (Ty.small_elem ht g) u hu) i
     rw [up] at this
     exact this
    ·
     exact f
   ·
    split
    ·
     split
     ·
      rename_i p x xs hp hx
      have g:x∈v.list:=by rw [hx];simp
      have:=ZvW v.kind v.int v.scale v.text [Zdd d p.2.2.2.1 x] v.fields (v.depth-1+1048576) o1 (by simp) (by omega) (fun y hy=>by
       rw [List.mem_singleton] at hy;subst hy
       exact cl _ (Ty.small_field ht (ZfU hp).1) x g) i
      rw [up] at this
      exact this
     ·
      exact f
    ·
     exact f
theorem Zvm:∀ (k:Nat) (v:Vl) (lv:Nat),v.size≤k→v.Nar→∀ p∈Zha lv v,p.2.Nar
 | 0,v,lv,h,_,_,_=>absurd h (by have:=v.size_eq;omega)
 | k+1,v,lv,h,hv,p,hp=>by
  rw [Zhp] at hp
  rcases List.mem_cons.1 hp with rfl | hp
  ·
   exact hv
  ·
   obtain ⟨x,hx,hp⟩:=List.mem_flatMap.1 hp
   have:=Zd4 hx
   exact Zvm k x (lv+1) (by omega) (by
    rcases ZkR hx with h | ⟨q,hq,rfl⟩
    ·
     exact hv.list h
    ·
     exact hv.field hq) p hp
theorem Ztz (n:Nat) (v:Vl) (hn:1000000000≤n) (hs:v.depth<4611686018427387904) (hv:v.Nar):Zc5 n v=some (Zp2 v):=by
 rw [Zc5,if_pos ⟨hs,hv.wide⟩]
 exact ZnD n (by omega) _ 0 (fun p hp=>by
  have h:=Zvm v.size v 1 (Nat.le_refl _) hv p hp
  have h2:=h.inv
  exact ⟨h.ok,by omega,by omega⟩) (by omega) (by omega)
theorem Ztb:∀ (l:List (Nat × Vl)) (c:Int),c≤4096→Zn0 l c=0→c+l.length≤4096
 | [],c,hc,_=>by simpa using hc
 | p::r,c,hc,h=>by
  rw [Zn0] at h
  split at h
  ·
   cases h
  split at h
  ·
   cases h
  split at h
  ·
   have:=Ztb r (c+1) (by omega) h
   rw [List.length_cons];omega
  ·
   rename_i h0;exact absurd h h0
theorem ZwN {v:Vl} (h:Zp2 v=0):v.size≤4096:=by
 have a:=Ztb (Zha 1 v) 0 (by omega) h
 have b:=Zp8 v.size v 1 (Nat.le_refl _) (Zh4 h)
 omega
theorem Zse (n:Nat) (t:Ty) (v:Vl) (ht:t.small) (hv:v.ok) (hs:v.size≤1048576) (hn:2100000000≤n):Zdu n t v=some (if Zn8 12 t (Zdd 12 t v)=true then (Zdd 12 t v,0) else (nilV,18)):=by
 obtain ⟨c1,c2⟩:=ZmB 12 t v ht hv hs
 have dv:=v.depth_size
 have ts:=ht.1
 have a:=ht.2.2
 rw [Zdu,Zic 12 n t v ht.2.1 ts hs hv (by omega),Option.bind_some,ZzH n 12 t _ ht.2.1 (by omega) ts a c1 (by omega) (by omega),Option.bind_some]
 cases Zn8 12 t (Zdd 12 t v) with
 | false=>rfl
 | true=>rw [if_neg (by decide),Zf9 n _ c1 (by omega),Option.bind_some,if_pos rfl]
def Zhi (rec:Ty→Option Int) (n:Nat)  (x3_k16:Int):Option Int :=
 if I64 (x3_k16+1) then
  some (x3_k16+1)
 else none
def ZdO (rec:Ty→Option Int) (n:Nat) (a0:Ty):Nat→Int→Int→Option Int
 | 0,_,_=>none
 | m+1,x3_l19,x5_l19 =>
  if decide (x5_l19<((a0.fields.length:Int))) then
   (idx a0.fields x5_l19).bind fun x24 =>
   (rec x24.2.2.2.1).bind fun y25 =>
   if I64 (x5_l19+1) then
    (ZdO rec n a0 m) ((if x3_l19<y25 then y25 else x3_l19)) (x5_l19+1)
   else none
  else
   Zhi rec n x3_l19
def Zit (rec:Ty→Option Int) (n:Nat) (a0:Ty) (x3_k4:Int):Option Int :=
 ZdO rec n a0 n x3_k4 0
def ZeL (rec:Ty→Option Int) (n:Nat) (a0:Ty):Nat→Int→Int→Option Int
 | 0,_,_=>none
 | m+1,x3_l7,x4_l7 =>
  if decide (x4_l7<((a0.elem.length:Int))) then
   (idx a0.elem x4_l7).bind fun x12 =>
   (rec x12).bind fun y13 =>
   if I64 (x4_l7+1) then
    (ZeL rec n a0 m) ((if x3_l7<y13 then y13 else x3_l7)) (x4_l7+1)
   else none
  else
   Zit rec n a0 x3_l7
def ZjR (rec:Ty→Option Int) (n:Nat) (a0:Ty):Option Int :=
 ZeL rec n a0 n 0 0
def ZfR:Nat→Ty→Option Int
 | 0,_=>none
 | n+1,a0=>ZjR (ZfR n) n a0
def ZlQ (w0:World) (F:Ty→Option Int):Prop:=∀ (B:List (List AV)) (Rw:List RowA) (L:List LoopA) (a0:Ty) (r:Int),F a0=some r→ACalls Tryz.prog w0 74 [.agg (a0.cs)] ⟨B,Rw,L⟩ fun x st=>x = .val (.int .i64 r)∧st=⟨B,Rw,L⟩
theorem Zp1 (w0:World) (rec:Ty→Option Int) (ih:ZlQ w0 rec) (n:Nat):ZlQ w0 (ZjR rec n):=by
 intro B Rw L a0 r h
 rw [ZjR] at h
 refine hd [.tmp 2] Tryz.func74 Tryz.ntmps74 fun M0 W0 hN j k d hu hO hs=>?_
 simp only [Zaq]
 refine rg [1] hs ?_
 refine rg [1,3] hs ?_
 refine Zak (fun e st=>∃ (i:Int),Ck e st B Rw L [(1,true,.box B.length 0),(3,true,.val (.int .i64 i))] [a0.cs] [] (Zit rec n a0 i=some r)) ?_ ?_
 ·
  intro K5 ab
  refine rg [1,3,4] hs ?_
  apply Zad
  refine Zao (fun m e st=>∃ (b:Int) (g:Int),Ck e st B Rw L [(1,true,.box B.length 0),(3,true,.val (.int .i64 b)),(4,true,.val (.int .i64 g))] [a0.cs] [] (ZeL rec n a0 m b g=some r)) n ⟨0,0,([]),Rw,ef hs,ef hs,hO,h⟩ ?_
  rintro ml7 e st ⟨b,g,Xl7,Rl7,rfl,rfl,hO,h⟩ Ul7 Vl7
  cases ml7 with
  | zero=>cases h
  | succ ml7 =>
  rw [ZeL] at h
  refine td hN j k d hO ?_
  apply Zaa;intro K8 x
  refine rg [1,3,4,10] hs ?_
  refine cnd h hs (fun hs h=>?_) (fun hs h=>?_)
  rotate_left
  ·
   refine sx [1,3] hs ab ?_
   exact ⟨b,([]),Rl7,ef hs,ef hs,hO,h⟩
  refine sk [1,3,4] hs x ?_
  clear x
  apply Zaa;intro K11 p
  apply Zad
  obtain ⟨aa,ag,af,t,h⟩:=ix avT h
  obtain ⟨v,u,h⟩:=bind_some h
  have hs:=And.intro t hs
  refine rk 2 [1,3,4] hs ?_
  refine Zac _ (ih _ _ _ aa _ u) (hv hs) ?_
  refine ne hs p ?_
  clear p
  obtain ⟨aj,h⟩:=Zab h
  refine rl [1,3,4] hs (fun e s=>Vl7 ml7 e s (Nat.lt_succ_self _)) ?_
  exact ⟨((if b<v then v else b)),(g+1),([]),Rl7,ef hs,ef hs,hO,h⟩
 ·
  clear h;rintro e st ⟨i,Xk4,Rk4,rfl,rfl,hO,h⟩
  rw [Zit] at h
  refine td hN j k d hO ?_
  refine Zak (fun e st=>∃ (f:Int),Ck e st B Rw L [(3,true,.val (.int .i64 f))] [a0.cs] [] (Zhi rec n f=some r)) ?_ ?_
  ·
   intro K17 w
   refine rg [1,3,5] hs ?_
   apply Zad
   refine Zao (fun m e st=>∃ (a:Int) (c:Int),Ck e st B Rw L [(1,true,.box B.length 0),(3,true,.val (.int .i64 a)),(5,true,.val (.int .i64 c))] [a0.cs] [] (ZdO rec n a0 m a c=some r)) n ⟨i,0,([]),Rk4,ef hs,ef hs,hO,h⟩ ?_
   rintro ml19 e st ⟨a,c,Xl19,Rl19,rfl,rfl,hO,h⟩ Ul19 Vl19
   cases ml19 with
   | zero=>cases h
   | succ ml19 =>
   rw [ZdO] at h
   refine td hN j k d hO ?_
   apply Zaa;intro K20 l
   refine rg [1,3,5,25] hs ?_
   refine cnd h hs (fun hs h=>?_) (fun hs h=>?_)
   rotate_left
   ·
    refine sx [3] hs w ?_
    exact ⟨a,([]),Rl19,ef hs,ef hs,hO,h⟩
   refine sk [1,3,5] hs l ?_
   clear l
   apply Zaa;intro K23 o
   apply Zad
   obtain ⟨ah,ae,ad,q,h⟩:=ix ZeF h
   obtain ⟨y,z,h⟩:=bind_some h
   have hs:=And.intro q hs
   refine rk 2 [1,3,5] hs ?_
   refine Zac _ (ih _ _ _ ah.2.2.2.1 _ z) (hv hs) ?_
   refine ne hs o ?_
   clear o
   obtain ⟨ak,h⟩:=Zab h
   refine rl [1,3,5] hs (fun e s=>Vl19 ml19 e s (Nat.lt_succ_self _)) ?_
   exact ⟨((if a<y then y else a)),(c+1),([]),Rl19,ef hs,ef hs,hO,h⟩
  ·
   clear h;rintro e st ⟨f,Xk16,Rk16,rfl,rfl,hO,h⟩
   rw [Zhi] at h
   refine td hN j k d hO ?_
   obtain ⟨ai,h⟩:=Zab h
   refine rg [2] hs ?_
   exact rt h hs d hO
theorem Zkd (w0:World):∀ n:Nat,ZlQ w0 (ZfR n)
 | 0=>fun _ _ _ _ _ h=>(nomatch h)
 | n+1=>Zp1 w0 (ZfR n) (Zkd w0 n) n
def Zkz (rec:Ty→Option Int) (n:Nat)  (x3_k17:Int):Option Int :=
 some (x3_k17)
def ZeN (rec:Ty→Option Int) (n:Nat) (a0:Ty):Nat→Int→Int→Option Int
 | 0,_,_=>none
 | m+1,x3_l20,x5_l20 =>
  if decide (x5_l20<((a0.fields.length:Int))) then
   (idx a0.fields x5_l20).bind fun x25 =>
   (rec x25.2.2.2.1).bind fun y26 =>
   if I64 (x3_l20+y26) then
    if I64 (x5_l20+1) then
     (ZeN rec n a0 m) (x3_l20+y26) (x5_l20+1)
    else none
   else none
  else
   Zkz rec n x3_l20
def Zls (rec:Ty→Option Int) (n:Nat) (a0:Ty) (x3_k4:Int):Option Int :=
 ZeN rec n a0 n x3_k4 0
def ZfJ (rec:Ty→Option Int) (n:Nat) (a0:Ty):Nat→Int→Int→Option Int
 | 0,_,_=>none
 | m+1,x3_l7,x4_l7 =>
  if decide (x4_l7<((a0.elem.length:Int))) then
   (idx a0.elem x4_l7).bind fun x12 =>
   (rec x12).bind fun y13 =>
   if I64 (x3_l7+y13) then
    if I64 (x4_l7+1) then
     (ZfJ rec n a0 m) (x3_l7+y13) (x4_l7+1)
    else none
   else none
  else
   Zls rec n a0 x3_l7
def Zla (rec:Ty→Option Int) (n:Nat) (a0:Ty):Option Int :=
 ZfJ rec n a0 n 1 0
def ZgR:Nat→Ty→Option Int
 | 0,_=>none
 | n+1,a0=>Zla (ZgR n) n a0
def Zm8 (w0:World) (F:Ty→Option Int):Prop:=∀ (B:List (List AV)) (Rw:List RowA) (L:List LoopA) (a0:Ty) (r:Int),F a0=some r→ACalls Tryz.prog w0 75 [.agg (a0.cs)] ⟨B,Rw,L⟩ fun x st=>x = .val (.int .i64 r)∧st=⟨B,Rw,L⟩
theorem Zqn (w0:World) (rec:Ty→Option Int) (ih:Zm8 w0 rec) (n:Nat):Zm8 w0 (Zla rec n):=by
 intro B Rw L a0 r h
 rw [Zla] at h
 refine hd [.tmp 2] Tryz.func75 Tryz.ntmps75 fun M0 W0 hN j k d hu hO hs=>?_
 simp only [Zaq]
 refine rg [1] hs ?_
 refine rg [1,3] hs ?_
 refine Zak (fun e st=>∃ (i:Int),Ck e st B Rw L [(1,true,.box B.length 0),(3,true,.val (.int .i64 i))] [a0.cs] [] (Zls rec n a0 i=some r)) ?_ ?_
 ·
  intro K5 ae
  refine rg [1,3,4] hs ?_
  apply Zad
  refine Zao (fun m e st=>∃ (c:Int) (g:Int),Ck e st B Rw L [(1,true,.box B.length 0),(3,true,.val (.int .i64 c)),(4,true,.val (.int .i64 g))] [a0.cs] [] (ZfJ rec n a0 m c g=some r)) n ⟨1,0,([]),Rw,ef hs,ef hs,hO,h⟩ ?_
  rintro ml7 e st ⟨c,g,Xl7,Rl7,rfl,rfl,hO,h⟩ Ul7 Vl7
  cases ml7 with
  | zero=>cases h
  | succ ml7 =>
  rw [ZfJ] at h
  refine td hN j k d hO ?_
  apply Zaa;intro K8 w
  refine rg [1,3,4,10] hs ?_
  refine cnd h hs (fun hs h=>?_) (fun hs h=>?_)
  rotate_left
  ·
   refine sx [1,3] hs ae ?_
   exact ⟨c,([]),Rl7,ef hs,ef hs,hO,h⟩
  refine sk [1,3,4] hs w ?_
  clear w
  apply Zaa;intro K11 p
  apply Zad
  obtain ⟨aa,ag,af,t,h⟩:=ix avT h
  obtain ⟨z,u,h⟩:=bind_some h
  obtain ⟨ak,h⟩:=Zab h
  have hs:=And.intro t hs
  refine rk 2 [1,3,4] hs ?_
  refine Zac _ (ih _ _ _ aa _ u) (hv hs) ?_
  refine ne hs p ?_
  clear p
  obtain ⟨am,h⟩:=Zab h
  refine rl [1,3,4] hs (fun e s=>Vl7 ml7 e s (Nat.lt_succ_self _)) ?_
  exact ⟨(c+z),(g+1),([]),Rl7,ef hs,ef hs,hO,h⟩
 ·
  clear h;rintro e st ⟨i,Xk4,Rk4,rfl,rfl,hO,h⟩
  rw [Zls] at h
  refine td hN j k d hO ?_
  refine Zak (fun e st=>∃ (f:Int),Ck e st B Rw L [(3,true,.val (.int .i64 f))] [a0.cs] [] (Zkz rec n f=some r)) ?_ ?_
  ·
   intro K18 v
   refine rg [1,3,5] hs ?_
   apply Zad
   refine Zao (fun m e st=>∃ (a:Int) (b:Int),Ck e st B Rw L [(1,true,.box B.length 0),(3,true,.val (.int .i64 a)),(5,true,.val (.int .i64 b))] [a0.cs] [] (ZeN rec n a0 m a b=some r)) n ⟨i,0,([]),Rk4,ef hs,ef hs,hO,h⟩ ?_
   rintro ml20 e st ⟨a,b,Xl20,Rl20,rfl,rfl,hO,h⟩ Ul20 Vl20
   cases ml20 with
   | zero=>cases h
   | succ ml20 =>
   rw [ZeN] at h
   refine td hN j k d hO ?_
   apply Zaa;intro K21 o
   refine rg [1,3,5,25] hs ?_
   refine cnd h hs (fun hs h=>?_) (fun hs h=>?_)
   rotate_left
   ·
    refine sx [3] hs v ?_
    exact ⟨a,([]),Rl20,ef hs,ef hs,hO,h⟩
   refine sk [1,3,5] hs o ?_
   clear o
   apply Zaa;intro K24 l
   apply Zad
   obtain ⟨ah,ad,y,q,h⟩:=ix ZeF h
   obtain ⟨ab,x,h⟩:=bind_some h
   obtain ⟨ai,h⟩:=Zab h
   have hs:=And.intro q hs
   refine rk 2 [1,3,5] hs ?_
   refine Zac _ (ih _ _ _ ah.2.2.2.1 _ x) (hv hs) ?_
   refine ne hs l ?_
   clear l
   obtain ⟨aj,h⟩:=Zab h
   refine rl [1,3,5] hs (fun e s=>Vl20 ml20 e s (Nat.lt_succ_self _)) ?_
   exact ⟨(a+ab),(b+1),([]),Rl20,ef hs,ef hs,hO,h⟩
  ·
   clear h;rintro e st ⟨f,Xk17,Rk17,rfl,rfl,hO,h⟩
   rw [Zkz] at h
   refine td hN j k d hO ?_
   refine rg [2] hs ?_
   exact rt h hs d hO
theorem Zpb (w0:World):∀ n:Nat,Zm8 w0 (ZgR n)
 | 0=>fun _ _ _ _ _ h=>(nomatch h)
 | n+1=>Zqn w0 (ZgR n) (Zpb w0 n) n
def ZgJ (n:Nat) (a0:Ty):Option Bool :=
 (ZfR n a0).bind fun y3 =>
 if decide (y3≤10) then
  (ZgR n a0).bind fun y5 =>
  some (decide (y5≤60))
 else
  some (false)
theorem ZgU (w0:World) (n:Nat) (B:List (List AV)) (Rw:List RowA) (L:List LoopA) (a0:Ty) (r:Bool) (h:ZgJ n a0=some r) :
  ACalls Tryz.prog w0 27 [.agg (a0.cs)] ⟨B,Rw,L⟩ fun x st=>x = .val (.bool r)∧st=⟨B,Rw,L⟩:=by
 rw [ZgJ] at h
 refine hd [.tmp 2] Tryz.func27 Tryz.ntmps27 fun M0 W0 hN e f a hu hO hs=>?_
 simp only [Zaq]
 refine rg [1] hs ?_
 apply Zaa;intro K2 b
 obtain ⟨y3,c,h⟩:=bind_some h
 rcases Bool.eq_false_or_eq_true (decide (y3≤10)) with hf4 | hf4
 ·
  replace h:=Za9 h hf4
  obtain ⟨y5,d,h⟩:=bind_some h
  have hs:=And.intro hf4 hs
  refine rk 3 [2] hs ?_
  refine Zac _ (Zkd w0 n _ _ _ a0 _ c) (hv hs) ?_
  refine nc hs ?_
  refine Zac _ (Zpb w0 n _ _ _ a0 _ d) (hv hs) ?_
  refine ne hs b ?_
  clear b
  exact rt h hs a hO
 ·
  replace h:=Zba h hf4
  have hs:=And.intro hf4 hs
  refine rk 3 [2] hs ?_
  refine Zac _ (Zkd w0 n _ _ _ a0 _ c) (hv hs) ?_
  refine nc hs ?_
  refine Zau ?_
  refine ne hs b ?_
  clear b
  exact rt h hs a hO
def ZfO  : List (Nat × Vl)→Int→Option Int
 | [],b1_r6 =>
  some (b1_r6)
 | p_r6::rest,b1_r6 =>
  (ZfO  rest) ((if b1_r6<(p_r6.1:Int) then (p_r6.1:Int) else b1_r6))
def ZkF (a0:Vl):Option Int :=
 if a0.depth<4611686018427387904∧a0.wide=true then
  ZfO  (Zha 1 a0) 0
 else none
theorem Zo9 (w0:World) (B:List (List AV)) (Rw:List RowA) (L:List LoopA) (a0:Vl) (r:Int) (h:ZkF a0=some r) :
  ACalls Tryz.prog w0 76 [.agg (a0.cs)] ⟨B,Rw,L⟩ fun x st=>x = .val (.int .i64 r)∧st=⟨B,Rw,L⟩:=by
 rw [ZkF] at h
 refine hd [.tmp 2] Tryz.func76 Tryz.ntmps76 fun M0 W0 hN j m c hu hO hs=>?_
 simp only [Zaq]
 refine rg [1] hs ?_
 refine rg [1,3] hs ?_
 apply Zaa;intro K3 f
 refine rc 2 [3,6] hs ?_;intro K4 d
 refine Zbc _ (Zki w0 _ _ _ a0) (hv hs) ?_;rintro _ _ ⟨rfl,rfl⟩
 refine ne hs d ?_
 clear d
 apply Zad
 obtain ⟨p,h⟩:=Zab h
 refine ZmJ (ZhE a0) (fun st=>st.boxes[(B.length+2)]? = some a0.cs) (fun i st=>∃ (a:Int) (Rr6:List RowA),st=⟨B++([a0.cs,[.val (.int .i64 a)],a0.cs]),Rr6,L⟩∧Owns Rw Rr6 []∧ZfO  ((Zha 1 a0).drop i) a=some r) (fun _ _=>False) ev ev (Zim w0 a0 p _) (fun x hx=>Zlk a0 x hx) (by decide) ?_ ⟨0,Rw,ef hs,hO,h⟩ (fun _ _ h=>h.elim) ?_ ?_ ?_
 ·
  rintro i st la ⟨a,Rr6,rfl,hO,h⟩ _ _;simp +decide [St.push]
 ·
  rintro i s1 ⟨XB,XR,XL⟩ x M1 W1 l la t hX hI n g hx q K hK
  obtain ⟨b,k,rfl,hi⟩:=ZlS a0 i x hx
  (try simp only at hX)
  subst hX
  obtain ⟨a,Rr6,rfl,hO,h⟩:=hI
  rw [ZpR k,ZfO] at h
  have e:=hO
  simp only [St.ext,St.push,List.append_assoc,List.append_nil]
  apply Zaf 1 [3,4]
  rw [Zae];simp +decide only [go_sem,Nat.reduceAdd]
  (repeat' apply And.intro)<;>first | refine hK _ _ (by simp [St.ext,St.push]) (fun KQ o=>?_) | exact cl
  clear hK
  dsimp only [St.ext,St.push]
  apply Zad
  apply Zaf 1 [3]
  rw [Zae];simp +decide only [go_sem,Nat.reduceAdd]
  (repeat' apply And.intro)<;>first | refine o _ _ _ ⟨⟨B++[a0.cs,[.val (.int .i64 ((if a<(b.1:Int) then (b.1:Int) else a)))],a0.cs],Rr6,L⟩,[],by first | rfl | (simp only [List.append_assoc,List.append_nil,List.cons_append,List.nil_append];done),⟨by simp,by first | exact Nat.le_refl _ | (have:=hO.len;simp;omega),rfl⟩,rfl,⟨((if a<(b.1:Int) then (b.1:Int) else a)),Rr6,ef hs,hO,h⟩,?_⟩ | exact cl
  exact .inl rfl
 ·
  rintro s la ⟨XB,XR,XL⟩ hXR ⟨a,Rr6,rfl,hO,h⟩ _ _
  simp only at hXR
  subst hXR
  rw [List.drop_eq_nil_of_le (by rw [Zix];exact Nat.le_refl _),ZfO] at h
  simp only [St.ext,St.push,List.append_assoc,List.append_nil]
  (repeat' apply And.intro)<;>first | refine f _ _ ?_ | exact cl
  clear f
  refine Znp (bs:=[a0.cs,[.val (.int .i64 a)],a0.cs]) hN j m rfl c hO ow ow ?_
  refine rg [2] hs ?_
  exact rt h hs c hO
 ·
  rintro ex s la X hX h;exact h.elim
def Zk6 (a0:Vl):Option Bool :=
 (ZkF a0).bind fun y3 =>
 if decide (y3≤12) then
  (ZjC a0).bind fun y5 =>
  some (decide (y5≤1000))
 else
  some (false)
theorem ZuY (w0:World) (B:List (List AV)) (Rw:List RowA) (L:List LoopA) (a0:Vl) (r:Bool) (h:Zk6 a0=some r) :
  ACalls Tryz.prog w0 28 [.agg (a0.cs)] ⟨B,Rw,L⟩ fun x st=>x = .val (.bool r)∧st=⟨B,Rw,L⟩:=by
 rw [Zk6] at h
 refine hd [.tmp 2] Tryz.func28 Tryz.ntmps28 fun M0 W0 hN e f a hu hO hs=>?_
 simp only [Zaq]
 refine rg [1] hs ?_
 apply Zaa;intro K2 b
 obtain ⟨y3,c,h⟩:=bind_some h
 rcases Bool.eq_false_or_eq_true (decide (y3≤12)) with hf4 | hf4
 ·
  replace h:=Za9 h hf4
  obtain ⟨y5,d,h⟩:=bind_some h
  have hs:=And.intro hf4 hs
  refine rk 3 [2] hs ?_
  refine Zac _ (Zo9 w0 _ _ _ a0 _ c) (hv hs) ?_
  refine nc hs ?_
  refine Zac _ (Zqc w0 _ _ _ a0 _ d) (hv hs) ?_
  refine ne hs b ?_
  clear b
  exact rt h hs a hO
 ·
  replace h:=Zba h hf4
  have hs:=And.intro hf4 hs
  refine rk 3 [2] hs ?_
  refine Zac _ (Zo9 w0 _ _ _ a0 _ c) (hv hs) ?_
  refine nc hs ?_
  refine Zau ?_
  refine ne hs b ?_
  clear b
  exact rt h hs a hO
theorem Zo5:∀ (l:List Vl) (v:Vl),v∈l→v.bulk≤ZgO l
 | [],_,h=>by simp at h
 | a::r,v,h=>by
  rcases List.mem_cons.1 h with rfl | h
  ·
   simp [ZgO]
  ·
   have:=Zo5 r v h
   simp [ZgO];omega
theorem ZoU:∀ (l:List ByteArray) (v:ByteArray),v∈l→v.size+1≤ZkN l
 | [],_,h=>by simp at h
 | a::r,v,h=>by
  rcases List.mem_cons.1 h with rfl | h
  ·
   simp [ZkN]
  ·
   have:=ZoU r v h
   simp [ZkN];omega
theorem ZoT:∀ l:List ByteArray,l.length≤ZkN l
 | []=>Nat.le_refl _
 | v::r=>by have:=ZoT r;simp [ZkN];omega
mutual
theorem Vl.size_bulk:∀ v:Vl,v.size≤v.bulk
 | .mk _ _ _ _ l f=>by have:=Zkl l;have:=ZmM f;simp only [Vl.size,Vl.bulk];omega
theorem Zkl:∀ l:List Vl,Zf6 l≤ZgO l
 | []=>Nat.le_refl _
 | v::r=>by have:=v.size_bulk;have:=Zkl r;simp only [Zf6,ZgO];omega
theorem ZmM:∀ l:List (ByteArray × Vl),Zfo l≤Zl0 l
 | []=>Nat.le_refl _
 | (_,v)::r=>by have:=v.size_bulk;have:=ZmM r;simp only [Zfo,Zl0];omega
end
theorem Zus (l:List Vl):l.length≤ZgO l:=Nat.le_trans (Zh0 l) (Zkl l)
mutual
theorem Ty.size_bulk:∀ t:Ty,t.size≤t.bulk
 | .mk _ _ _ _ _ l f=>by have:=ZnL l;have:=Zma f;simp only [Ty.size,Ty.bulk];omega
theorem ZnL:∀ l:List Ty,Zgn l≤Zmd l
 | []=>Nat.le_refl _
 | v::r=>by have:=v.size_bulk;have:=ZnL r;simp only [Zgn,Zmd];omega
theorem Zma:∀ l:List TF,Zdz l≤Zjo l
 | []=>Nat.le_refl _
 | (_,_,_,v,_)::r=>by have:=v.size_bulk;have:=Zma r;simp only [Zdz,Zjo];omega
end
mutual
theorem Vl.ok_bulk:∀ v:Vl,v.bulk≤1048576→v.ok
 | .mk _ _ _ t l f,h=>by
  simp only [Vl.bulk] at h
  exact ⟨by omega,ZrD l (by omega),Zrf f (by omega)⟩
theorem ZrD:∀ l:List Vl,ZgO l≤1048576→ZzD l
 | [],_=>trivial
 | v::r,h=>by
  simp only [ZgO] at h
  exact ⟨v.ok_bulk (by omega),ZrD r (by omega)⟩
theorem Zrf:∀ l:List (ByteArray × Vl),Zl0 l≤1048576→ZzV l
 | [],_=>trivial
 | (_,v)::r,h=>by
  simp only [Zl0] at h
  exact ⟨by omega,v.ok_bulk (by omega),Zrf r (by omega)⟩
end
theorem Vl.small_bulk (v:Vl) (h:v.bulk≤1048575):v.small:=by
 have:=v.size_bulk
 have:=v.depth_size
 exact ⟨by omega,by omega,v.ok_bulk (by omega)⟩
mutual
theorem Ty.ok_bulk:∀ t:Ty,t.bulk≤1048576→t.ok
 | .mk _ _ _ _ w l f,h=>by
  simp only [Ty.bulk] at h
  have:=ZoT w
  exact ⟨by omega,fun x hx=>by have:=ZoU w x hx;omega,ZrF l (by omega),Zof f (by omega)⟩
theorem ZrF:∀ l:List Ty,Zmd l≤1048576→ZAG l
 | [],_=>trivial
 | v::r,h=>by
  simp only [Zmd] at h
  exact ⟨v.ok_bulk (by omega),ZrF r (by omega)⟩
theorem Zof:∀ l:List TF,Zjo l≤1048576→ZtS l
 | [],_=>trivial
 | (_,n,_,v,d)::r,h=>by
  simp only [Zjo] at h
  have:=Zus d
  have hp:=v.size_bulk
  have:=v.size_pos
  exact ⟨⟨by omega,v.ok_bulk (by omega),by omega,fun x hx=>x.small_bulk (by have:=Zo5 d x hx;omega)⟩,Zof r (by omega)⟩
end
theorem Ty.small_of {t:Ty} (h:t.bulk≤1048576) (h1:t.size≤200) (h2:t.depth≤12):t.small:=⟨h1,h2,t.ok_bulk h⟩
theorem ZoK (rec:Ty→Option Int) (n:Nat) (t:Ty) (hr:∀ p∈t.fields,rec p.2.2.2.1=some (p.2.2.2.1.size:Int)) (hl:t.fields.length≤1000000000):∀ (k m i c:Nat),i+k=t.fields.length→k<m→c+Zdz (t.fields.drop i)≤1000000000 →
  ZeN rec n t m (c:Int) i=some ((c+Zdz (t.fields.drop i):Nat):Int)
 | k,0,i,c,_,h,_=>absurd h (Nat.not_lt_zero _)
 | 0,m+1,i,c,hi,_,_=>by
  rw [ZeN,Zal,decide_eq_false (show ¬ i<t.fields.length by omega),List.drop_eq_nil_of_le (by omega)]
  rfl
 | k+1,m+1,i,c,hi,hm,hc=>by
  have a:i<t.fields.length:=by omega
  rw [Zl4 _ _ a] at hc
  rw [ZeN,Zal,decide_eq_true a]
  rw [if_pos rfl,Zam a,Option.bind_some,hr _ (List.getElem_mem a),Option.bind_some]
  rw [if_pos (by unfold I64;omega),if_pos (Zaj (by omega)),Zl4 _ _ a,←Nat.add_assoc]
  exact ZoK rec n t hr hl k m (i+1) (c+t.fields[i].2.2.2.1.size) (by omega) (by omega) (by omega)
theorem Zqr (rec:Ty→Option Int) (n:Nat) (t:Ty) (hs:t.size≤1000000000) (hn:t.fields.length<n) (hr:∀ x∈t.elem,rec x=some (x.size:Int)) (hr2:∀ p∈t.fields,rec p.2.2.2.1=some (p.2.2.2.1.size:Int)):∀ (k m i c:Nat),i+k=t.elem.length→k<m→c+Zgn (t.elem.drop i)+Zdz t.fields≤1000000000 →
  ZfJ rec n t m (c:Int) i=some ((c+Zgn (t.elem.drop i)+Zdz t.fields:Nat):Int)
 | k,0,i,c,_,h,_=>absurd h (Nat.not_lt_zero _)
 | 0,m+1,i,c,hi,_,hc=>by
  have:=t.lens
  rw [ZfJ,Zal,decide_eq_false (show ¬ i<t.elem.length by omega),List.drop_eq_nil_of_le (by omega)]
  have:=ZoK rec n t hr2 (by omega) t.fields.length n 0 c (by omega) hn (by rw [List.drop_zero];omega)
  rw [List.drop_zero] at this
  exact this
 | k+1,m+1,i,c,hi,hm,hc=>by
  have:=t.lens
  have a:i<t.elem.length:=by omega
  rw [Zm1 _ _ a] at hc
  rw [ZfJ,Zal,decide_eq_true a]
  rw [if_pos rfl,Zam a,Option.bind_some,hr _ (List.getElem_mem a),Option.bind_some]
  rw [if_pos (by unfold I64;omega),if_pos (Zaj (by omega)),Zm1 _ _ a,←Nat.add_assoc]
  exact Zqr rec n t hs hn hr hr2 k m (i+1) (c+t.elem[i].size) (by omega) (by omega) (by omega)
theorem Zni:∀ (n:Nat) (t:Ty),t.size<n→t.size≤1000000000→ZgR n t=some (t.size:Int)
 | 0,t,h,_=>absurd h (Nat.not_lt_zero _)
 | n+1,t,h,hs=>by
  have hl:=t.lens
  have he:=t.size_eq
  rw [ZgR,Zla]
  have:=Zqr (ZgR n) n t hs (by omega) (fun x hx=>Zni n x (by have:=t.elem_size x hx;omega) (by have:=t.elem_size x hx;omega)) (fun p hp=>Zni n _ (by have:=t.field_size p hp;omega) (by have:=t.field_size p hp;omega)) t.elem.length n 0 1 (by omega) (by omega) (by rw [List.drop_zero];omega)
  rw [List.drop_zero,←he] at this
  exact this
theorem ZlU (l:List Ty) (i:Nat) (h:i<l.length):Zc3 (l.drop i)=Max.max l[i].depth (Zc3 (l.drop (i+1))):=by rw [List.drop_eq_getElem_cons h,Zc3]
theorem Zlb (l:List TF) (i:Nat) (h:i<l.length):Zca (l.drop i)=Max.max l[i].2.2.2.1.depth (Zca (l.drop (i+1))):=by
 rw [List.drop_eq_getElem_cons h];rfl
theorem Zvy (a b:Nat):(if (a:Int)<(b:Int) then (b:Int) else (a:Int))=((Max.max a b:Nat):Int):=by
 split<;>omega
theorem Znl (rec:Ty→Option Int) (n:Nat) (t:Ty) (hr:∀ p∈t.fields,rec p.2.2.2.1=some (p.2.2.2.1.depth:Int)) (hl:t.fields.length≤1000000000):∀ (k m i c:Nat),i+k=t.fields.length→k<m→Max.max c (Zca (t.fields.drop i))≤1000000000 →
  ZdO rec n t m (c:Int) i=some ((Max.max c (Zca (t.fields.drop i))+1:Nat):Int)
 | k,0,i,c,_,h,_=>absurd h (Nat.not_lt_zero _)
 | 0,m+1,i,c,hi,_,hc=>by
  rw [ZdO,Zal,decide_eq_false (show ¬ i<t.fields.length by omega),List.drop_eq_nil_of_le (by omega),if_neg (by decide),Zhi,if_pos (by unfold I64;omega)]
  simp [Zca]
 | k+1,m+1,i,c,hi,hm,hc=>by
  have a:i<t.fields.length:=by omega
  rw [Zlb _ _ a] at hc
  rw [ZdO,Zal,decide_eq_true a]
  rw [if_pos rfl,Zam a,Option.bind_some,hr _ (List.getElem_mem a),Option.bind_some]
  rw [if_pos (Zaj (by omega)),Zlb _ _ a,Zvy,←Nat.max_assoc]
  exact Znl rec n t hr hl k m (i+1) _ (by omega) (by omega) (by omega)
theorem Zoc (rec:Ty→Option Int) (n:Nat) (t:Ty) (hs:t.size≤1000000000) (hn:t.fields.length<n) (hr:∀ x∈t.elem,rec x=some (x.depth:Int)) (hr2:∀ p∈t.fields,rec p.2.2.2.1=some (p.2.2.2.1.depth:Int)):∀ (k m i c:Nat),i+k=t.elem.length→k<m→Max.max (Max.max c (Zc3 (t.elem.drop i))) (Zca t.fields)≤1000000000 →
  ZeL rec n t m (c:Int) i=some ((Max.max (Max.max c (Zc3 (t.elem.drop i))) (Zca t.fields)+1:Nat):Int)
 | k,0,i,c,_,h,_=>absurd h (Nat.not_lt_zero _)
 | 0,m+1,i,c,hi,_,hc=>by
  have:=t.lens
  rw [ZeL,Zal,decide_eq_false (show ¬ i<t.elem.length by omega),if_neg (by decide)]
  rw [List.drop_eq_nil_of_le (by omega)] at hc ⊢
  have h:=Znl rec n t hr2 (by omega) t.fields.length n 0 c (by omega) hn (by rw [List.drop_zero];simp only [Zc3] at hc;omega)
  rw [List.drop_zero] at h
  rw [Zit]
  refine h.trans ?_
  simp only [Zc3,Nat.max_zero]
 | k+1,m+1,i,c,hi,hm,hc=>by
  have:=t.lens
  have a:i<t.elem.length:=by omega
  rw [ZlU _ _ a] at hc
  rw [ZeL,Zal,decide_eq_true a]
  rw [if_pos rfl,Zam a,Option.bind_some,hr _ (List.getElem_mem a),Option.bind_some]
  rw [if_pos (Zaj (by omega)),ZlU _ _ a,Zvy,←Nat.max_assoc]
  exact Zoc rec n t hs hn hr hr2 k m (i+1) _ (by omega) (by omega) (by omega)
mutual
theorem Ty.depth_size:∀ v:Ty,v.depth≤v.size
 | .mk _ _ _ _ _ l f=>by have:=ZlX l;have:=ZkX f;simp only [Ty.depth,Ty.size];omega
theorem ZlX:∀ l:List Ty,Zc3 l≤Zgn l
 | []=>Nat.le_refl _
 | v::r=>by have:=v.depth_size;have:=ZlX r;simp only [Zc3,Zgn];omega
theorem ZkX:∀ l:List TF,Zca l≤Zdz l
 | []=>Nat.le_refl _
 | (_,_,_,v,_)::r=>by have:=v.depth_size;have:=ZkX r;simp only [Zca,Zdz];omega
end
theorem ZlJ:∀ (n:Nat) (t:Ty),t.size<n→t.size≤1000000000→ZfR n t=some (t.depth:Int)
 | 0,t,h,_=>absurd h (Nat.not_lt_zero _)
 | n+1,t,h,hs=>by
  have hl:=t.lens
  have he:=t.depth_eq
  have hd:=t.depth_size
  rw [ZfR,ZjR]
  have:=Zoc (ZfR n) n t hs (by omega) (fun x hx=>ZlJ n x (by have:=t.elem_size x hx;omega) (by have:=t.elem_size x hx;omega)) (fun p hp=>ZlJ n _ (by have:=t.field_size p hp;omega) (by have:=t.field_size p hp;omega)) t.elem.length n 0 0 (by omega) (by omega) (by rw [List.drop_zero];omega)
  rw [List.drop_zero,Nat.zero_max,Nat.add_comm,←he] at this
  exact this
theorem ZoF (n:Nat) (t:Ty) (hn:t.size<n) (hs:t.size≤1000000000):ZgJ n t=some (decide (t.depth≤10∧t.size≤60)):=by
 rw [ZgJ,ZlJ n t hn hs,Option.bind_some]
 by_cases h:t.depth≤10
 ·
  rw [decide_eq_true (show (t.depth:Int)≤10 by omega),if_pos rfl,Zni n t hn hs,Option.bind_some]
  congr 1
  rw [decide_eq_decide]
  omega
 ·
  rw [decide_eq_false (show ¬ (t.depth:Int)≤10 by omega),if_neg (by decide)]
  congr 1
  exact (decide_eq_false (by omega)).symm
theorem Zqq:∀ (l:List (Nat × Vl)) (b:Int),∃ c,ZfO l b=some c
 | [],b=>⟨b,rfl⟩
 | p::r,b=>by rw [ZfO];exact Zqq r _
theorem Zw4 (v:Vl) (h:v.size≤1048576):∃ b,Zk6 v=some b:=by
 obtain ⟨c,hc⟩:=Zqq (Zha 1 v) 0
 rw [Zk6,ZkF,if_pos ⟨by have:=v.depth_size;omega,Ze9 _ v (Nat.le_refl _) (by omega)⟩,hc,Option.bind_some]
 by_cases q:c≤12
 ·
  rw [decide_eq_true q,if_pos rfl,Ztw v h];exact ⟨_,rfl⟩
 ·
  rw [decide_eq_false q,if_neg (by decide)];exact ⟨_,rfl⟩
def Zig (n:Nat)  : Option Int :=
 some (0)
def Zdk (n:Nat) (a0:List Int):Nat→Int→Option Int
 | 0,_=>none
 | m+1,x8_l7 =>
  if decide (x8_l7<((a0.length:Int))) then
   (idx a0 x8_l7).bind fun x13 =>
   if !(decide (x13=0)) then
    some (x13)
   else
    if I64 (x8_l7+1) then
     (Zdk n a0 m) (x8_l7+1)
    else none
  else
   Zig n 
def Zf7 (n:Nat) (a0:List Int):Option Int :=
 Zdk n a0 n 0
theorem Zk1 (w0:World) (n:Nat) (B:List (List AV)) (Rw:List RowA) (L:List LoopA) (a0:List Int) (r:Int) (h:Zf7 n a0=some r) :
  ACalls Tryz.prog w0 142 [.list (a0.map avI) .none] ⟨B,Rw,L⟩ fun x st=>x = .val (.int .i64 r)∧st=⟨B,Rw,L⟩:=by
 rw [Zf7] at h
 refine hd [.tmp 2] Tryz.func142 Tryz.ntmps142 fun M0 W0 hN i l a hu hO hs=>?_
 simp only [Zaq]
 refine rg [0] hs ?_
 refine rg [0,3] hs ?_
 refine Zak (fun e st=>Ck e st B Rw L [(3,true,.val (.int .i64 0))] [] [] (Zig n  = some r)) ?_ ?_
 ·
  intro K5 q
  refine rg [3,6,7,8] hs ?_
  apply Zad
  refine Zao (fun m e st=>∃ (b:Int),Ck e st B Rw L [(3,true,.val (.int .i64 0)),(6,true,.list (a0.map avI) .none),(7,true,.val (.int .i64 ((a0.length:Int)))),(8,true,.val (.int .i64 b))] [] [] (Zdk n a0 m b=some r)) n ⟨0,([]),Rw,ef hs,ef hs,hO,h⟩ ?_
  rintro ml7 e st ⟨b,Xl7,Rl7,rfl,rfl,hO,h⟩ Ul7 Vl7
  cases ml7 with
  | zero=>cases h
  | succ ml7 =>
  rw [Zdk] at h
  refine td hN i l a hO ?_
  refine rg [3,6,7,8,9] hs ?_
  apply Zaa;intro K9 k
  refine cnd h hs (fun hs h=>?_) (fun hs h=>?_)
  rotate_left
  ·
   refine sx [3] hs q ?_
   exact ⟨([]),Rl7,ef hs,ef hs,hO,h⟩
  refine sk [3,6,7,8] hs k ?_
  clear k
  apply Zaa;intro K11 c
  apply Zad
  obtain ⟨u,j,h⟩:=bind_some h
  obtain ⟨o,p,d⟩:=Zan j
  have g:=Zap (f:=avI) d
  have hs:=And.intro g hs
  refine rg [3,5,6,7,8] hs ?_
  refine rg [3,5,6,7,8,14] hs ?_
  refine cnd h hs (fun hs h=>?_) (fun hs h=>?_)
  ·
   refine rg [2] hs ?_
   exact rt h hs a hO
  refine sk [3,6,7,8] hs c ?_
  clear c
  obtain ⟨t,h⟩:=Zab h
  refine rl [3,6,7,8] hs (fun e s=>Vl7 ml7 e s (Nat.lt_succ_self _)) ?_
  exact ⟨(b+1),([]),Rl7,ef hs,ef hs,hO,h⟩
 ·
  clear h;rintro e st ⟨Xk4,Rk4,rfl,rfl,hO,h⟩
  rw [Zig] at h
  refine td hN i l a hO ?_
  refine rg [2] hs ?_
  exact rt h hs a hO
def ZdZ (n:Nat)  : Option Bool :=
 some (true)
def ZcB (n:Nat) (a0:List Vl) (a1:List Vl) (a2:Vl→Vl→Option Bool):Nat→Int→Option Bool
 | 0,_=>none
 | m+1,x17_l10 =>
  if decide (x17_l10<((a0.length:Int))) then
   (idx a0 x17_l10).bind fun x16 =>
   (idx a1 x17_l10).bind fun x18 =>
   (a2 x16 x18).bind fun y20 =>
   if !y20 then
    some (false)
   else
    if I64 (x17_l10+1) then
     (ZcB n a0 a1 a2 m) (x17_l10+1)
    else none
  else
   ZdZ n 
def Zeo (n:Nat) (a0:List Vl) (a1:List Vl) (a2:Vl→Vl→Option Bool):Option Bool :=
 if !(decide (((a0.length:Int))=((a1.length:Int)))) then
  some (false)
 else
  ZcB n a0 a1 a2 n 0
theorem Zi2 (w0:World) (n:Nat) (B:List (List AV)) (Rw:List RowA) (L:List LoopA) (a0:List Vl) (a1:List Vl) (fa2:FuncId) (ca2:List AV) (a2:Vl→Vl→Option Bool) (ha2:∀ (x0:Vl) (x1:Vl) r,a2 x0 x1=some r→∀ B' rows,B <+: B'→Rw <+: rows→ACalls Tryz.prog w0 fa2 ([.agg (x0.cs),.agg (x1.cs)]++ca2) ⟨B',rows,L⟩ fun v s=>v = .val (.bool r)∧s=⟨B',rows,L⟩) (r:Bool) (h:Zeo n a0 a1 a2=some r) :
  ACalls Tryz.prog w0 208 [.list (a0.map avV) .none,.list (a1.map avV) .none,.clo fa2 ca2] ⟨B,Rw,L⟩ fun x st=>x = .val (.bool r)∧st=⟨B,Rw,L⟩:=by
 rw [Zeo] at h
 refine hd [.tmp 6] Tryz.func208 Tryz.ntmps208 fun M0 W0 hN q y b hu hO hs=>?_
 simp only [Zaq]
 have c:=ZbC (hu (.clo fa2 ca2) (by simp))
 refine rg [0,1,2] hs ?_
 apply Zaa;intro K2 aa
 refine rg [0,1,2,14] hs ?_
 refine cnd h hs (fun hs h=>?_) (fun hs h=>?_)
 ·
  refine rg [6] hs ?_
  exact rt h hs b hO
 refine sk [0,1,2] hs aa ?_
 clear aa
 refine Zak (fun e st=>Ck e st B Rw L [] [] [] (ZdZ n  = some r)) ?_ ?_
 ·
  intro K8 ad
  refine rg [1,2,15,16,17] hs ?_
  apply Zad
  refine Zao (fun m e st=>∃ (a:Int),Ck e st B Rw L [(1,true,.list (a1.map avV) .none),(2,true,.clo fa2 ca2),(15,true,.list (a0.map avV) .none),(16,true,.val (.int .i64 ((a0.length:Int)))),(17,true,.val (.int .i64 a))] [] [] (ZcB n a0 a1 a2 m a=some r)) n ⟨0,([]),Rw,ef hs,ef hs,hO,h⟩ ?_
  rintro ml10 e st ⟨a,Xl10,Rl10,rfl,rfl,hO,h⟩ Ul10 Vl10
  cases ml10 with
  | zero=>cases h
  | succ ml10 =>
  rw [ZcB] at h
  refine ZaD hN q y rfl b hO (owf c hO) (owf c hO) ?_
  refine rg [1,2,15,16,17,18] hs ?_
  apply Zaa;intro K12 g
  refine cnd h hs (fun hs h=>?_) (fun hs h=>?_)
  rotate_left
  ·
   refine sx [] hs ad ?_
   exact ⟨([]),Rl10,ef hs,ef hs,hO,h⟩
  refine sk [1,2,15,16,17] hs g ?_
  clear g
  apply Zaa;intro K14 i
  apply Zad
  obtain ⟨t,z,h⟩:=bind_some h
  obtain ⟨ae,af,l⟩:=Zan z
  have o:=Zap (f:=avV) l
  have hs:=And.intro o hs
  refine rg [1,2,7,8,15,16,17] hs ?_
  obtain ⟨u,p,h⟩:=bind_some h
  obtain ⟨ag,ab,j⟩:=Zan p
  have k:=Zap (f:=avV) j
  have hs:=And.intro k hs
  refine rg [1,2,8,9,15,16,17] hs ?_
  obtain ⟨ai,w,h⟩:=bind_some h
  refine rc 2 [1,2,15,16,17,30] hs ?_;intro K19 d
  refine ZeR _ (ha2 t u _ w _ _ px hO.pre) (hv hs) ?_
  refine ne hs d ?_
  clear d
  refine cnd h hs (fun hs h=>?_) (fun hs h=>?_)
  ·
   refine rg [6] hs ?_
   exact rt h hs b hO
  refine sk [1,2,15,16,17] hs i ?_
  clear i
  obtain ⟨ah,h⟩:=Zab h
  refine rl [1,2,15,16,17] hs (fun e s=>Vl10 ml10 e s (Nat.lt_succ_self _)) ?_
  exact ⟨(a+1),([t.cs,u.cs]),Rl10,ef hs,ef hs,hO,h⟩
 ·
  clear h;rintro e st ⟨Xk7,Rk7,rfl,rfl,hO,h⟩
  rw [ZdZ] at h
  refine ZaD hN q y rfl b hO (owf c hO) (owf c hO) ?_
  refine rg [6] hs ?_
  exact rt h hs b hO
def Zcm (n:Nat) (a0:List (ByteArray × Vl)) (a1:List (ByteArray × Vl)):Option Int :=
 if decide (((a0.length:Int))<((a1.length:Int))) then
  some ((-1))
 else
  some (0)
def Za2 (n:Nat) (a0:List (ByteArray × Vl)) (a1:List (ByteArray × Vl)) (a2:(ByteArray × Vl)→(ByteArray × Vl)→Option Int):Nat→Int→Option Int
 | 0,_=>none
 | m+1,x13_l6 =>
  if decide (x13_l6<((a0.length:Int))) then
   (idx a0 x13_l6).bind fun x12 =>
   if decide (((a1.length:Int))≤x13_l6) then
    some (1)
   else
    (idx a1 x13_l6).bind fun x18 =>
    (a2 x12 x18).bind fun y20 =>
    if !(decide (y20=0)) then
     some (y20)
    else
     if I64 (x13_l6+1) then
      (Za2 n a0 a1 a2 m) (x13_l6+1)
     else none
  else
   Zcm n a0 a1 
def Zcz (n:Nat) (a0:List (ByteArray × Vl)) (a1:List (ByteArray × Vl)) (a2:(ByteArray × Vl)→(ByteArray × Vl)→Option Int):Option Int :=
 Za2 n a0 a1 a2 n 0
theorem Ziy (w0:World) (n:Nat) (B:List (List AV)) (Rw:List RowA) (L:List LoopA) (a0:List (ByteArray × Vl)) (a1:List (ByteArray × Vl)) (fa2:FuncId) (ca2:List AV) (a2:(ByteArray × Vl)→(ByteArray × Vl)→Option Int) (ha2:∀ (x0:ByteArray × Vl) (x1:ByteArray × Vl) r,a2 x0 x1=some r→∀ B' rows,B <+: B'→Rw <+: rows→ACalls Tryz.prog w0 fa2 ([.agg (.val (.string x0.1)::(x0.2.cs)),.agg (.val (.string x1.1)::(x1.2.cs))]++ca2) ⟨B',rows,L⟩ fun v s=>v = .val (.int .i64 r)∧s=⟨B',rows,L⟩) (r:Int) (h:Zcz n a0 a1 a2=some r) :
  ACalls Tryz.prog w0 145 [.list (a0.map avF) .none,.list (a1.map avF) .none,.clo fa2 ca2] ⟨B,Rw,L⟩ fun x st=>x = .val (.int .i64 r)∧st=⟨B,Rw,L⟩:=by
 rw [Zcz] at h
 refine hd [.tmp 6] Tryz.func145 Tryz.ntmps145 fun M0 W0 hN w ab a hu hO hs=>?_
 simp only [Zaq]
 have c:=ZbC (hu (.clo fa2 ca2) (by simp))
 refine rg [0,1,2] hs ?_
 refine Zak (fun e st=>Ck e st B Rw L [(0,true,.list (a0.map avF) .none),(1,true,.list (a1.map avF) .none)] [] [] (Zcm n a0 a1  = some r)) ?_ ?_
 ·
  intro K4 ae
  refine rg [0,1,2,11,12,13] hs ?_
  apply Zad
  refine Zao (fun m e st=>∃ (b:Int),Ck e st B Rw L [(0,true,.list (a0.map avF) .none),(1,true,.list (a1.map avF) .none),(2,true,.clo fa2 ca2),(11,true,.list (a0.map avF) .none),(12,true,.val (.int .i64 ((a0.length:Int)))),(13,true,.val (.int .i64 b))] [] [] (Za2 n a0 a1 a2 m b=some r)) n ⟨0,([]),Rw,ef hs,ef hs,hO,h⟩ ?_
  rintro ml6 e st ⟨b,Xl6,Rl6,rfl,rfl,hO,h⟩ Ul6 Vl6
  cases ml6 with
  | zero=>cases h
  | succ ml6 =>
  rw [Za2] at h
  refine ZaD hN w ab rfl a hO (owf c hO) (owf c hO) ?_
  refine rg [0,1,2,11,12,13,14] hs ?_
  apply Zaa;intro K8 z
  refine cnd h hs (fun hs h=>?_) (fun hs h=>?_)
  rotate_left
  ·
   refine sx [0,1] hs ae ?_
   exact ⟨([]),Rl6,ef hs,ef hs,hO,h⟩
  refine sk [0,1,2,11,12,13] hs z ?_
  clear z
  apply Zaa;intro K10 i
  apply Zad
  obtain ⟨l,y,h⟩:=bind_some h
  obtain ⟨ag,af,k⟩:=Zan y
  have t:=Zap (f:=avF) k
  have hs:=And.intro t hs
  refine rg [0,1,2,7,8,11,12,13] hs ?_
  apply Zaa;intro K13 g
  refine rg [0,1,2,7,8,11,12,13,21] hs ?_
  refine cnd h hs (fun hs h=>?_) (fun hs h=>?_)
  ·
   refine rg [6] hs ?_
   exact rt h hs a hO
  refine sk [0,1,2,7,8,11,12,13] hs g ?_
  clear g
  obtain ⟨p,u,h⟩:=bind_some h
  obtain ⟨ah,ad,o⟩:=Zan u
  have q:=Zap (f:=avF) o
  have hs:=And.intro q hs
  refine rg [0,1,2,8,9,11,12,13] hs ?_
  obtain ⟨aj,aa,h⟩:=bind_some h
  refine rc 2 [0,1,2,10,11,12,13] hs ?_;intro K19 d
  refine ZeR _ (ha2 l p _ aa _ _ px hO.pre) (hv hs) ?_
  refine ne hs d ?_
  clear d
  refine rg [0,1,2,10,11,12,13,31] hs ?_
  refine cnd h hs (fun hs h=>?_) (fun hs h=>?_)
  ·
   refine rg [6] hs ?_
   exact rt h hs a hO
  refine sk [0,1,2,11,12,13] hs i ?_
  clear i
  obtain ⟨ai,h⟩:=Zab h
  refine rl [0,1,2,11,12,13] hs (fun e s=>Vl6 ml6 e s (Nat.lt_succ_self _)) ?_
  exact ⟨(b+1),([.val (.string l.1)::(l.2.cs),.val (.string p.1)::(p.2.cs)]),Rl6,ef hs,ef hs,hO,h⟩
 ·
  clear h;rintro e st ⟨Xk3,Rk3,rfl,rfl,hO,h⟩
  rw [Zcm] at h
  refine ZaD hN w ab rfl a hO (owf c hO) (owf c hO) ?_
  apply Zaa;intro K25 j
  refine rg [38] hs ?_
  refine cnd h hs (fun hs h=>?_) (fun hs h=>?_)
  ·
   refine rg [6] hs ?_
   exact rt h hs a hO
  refine sk [] hs j ?_
  clear j
  refine rg [6] hs ?_
  exact rt h hs a hO
def Zco (n:Nat) (a0:List Vl) (a1:List Vl):Option Int :=
 if decide (((a0.length:Int))<((a1.length:Int))) then
  some ((-1))
 else
  some (0)
def Za3 (n:Nat) (a0:List Vl) (a1:List Vl) (a2:Vl→Vl→Option Int):Nat→Int→Option Int
 | 0,_=>none
 | m+1,x13_l6 =>
  if decide (x13_l6<((a0.length:Int))) then
   (idx a0 x13_l6).bind fun x12 =>
   if decide (((a1.length:Int))≤x13_l6) then
    some (1)
   else
    (idx a1 x13_l6).bind fun x18 =>
    (a2 x12 x18).bind fun y20 =>
    if !(decide (y20=0)) then
     some (y20)
    else
     if I64 (x13_l6+1) then
      (Za3 n a0 a1 a2 m) (x13_l6+1)
     else none
  else
   Zco n a0 a1 
def ZcD (n:Nat) (a0:List Vl) (a1:List Vl) (a2:Vl→Vl→Option Int):Option Int :=
 Za3 n a0 a1 a2 n 0
theorem ZiK (w0:World) (n:Nat) (B:List (List AV)) (Rw:List RowA) (L:List LoopA) (a0:List Vl) (a1:List Vl) (fa2:FuncId) (ca2:List AV) (a2:Vl→Vl→Option Int) (ha2:∀ (x0:Vl) (x1:Vl) r,a2 x0 x1=some r→∀ B' rows,B <+: B'→Rw <+: rows→ACalls Tryz.prog w0 fa2 ([.agg (x0.cs),.agg (x1.cs)]++ca2) ⟨B',rows,L⟩ fun v s=>v = .val (.int .i64 r)∧s=⟨B',rows,L⟩) (r:Int) (h:ZcD n a0 a1 a2=some r) :
  ACalls Tryz.prog w0 144 [.list (a0.map avV) .none,.list (a1.map avV) .none,.clo fa2 ca2] ⟨B,Rw,L⟩ fun x st=>x = .val (.int .i64 r)∧st=⟨B,Rw,L⟩:=by
 rw [ZcD] at h
 refine hd [.tmp 6] Tryz.func144 Tryz.ntmps144 fun M0 W0 hN u ab a hu hO hs=>?_
 simp only [Zaq]
 have c:=ZbC (hu (.clo fa2 ca2) (by simp))
 refine rg [0,1,2] hs ?_
 refine Zak (fun e st=>Ck e st B Rw L [(0,true,.list (a0.map avV) .none),(1,true,.list (a1.map avV) .none)] [] [] (Zco n a0 a1  = some r)) ?_ ?_
 ·
  intro K4 ae
  refine rg [0,1,2,11,12,13] hs ?_
  apply Zad
  refine Zao (fun m e st=>∃ (b:Int),Ck e st B Rw L [(0,true,.list (a0.map avV) .none),(1,true,.list (a1.map avV) .none),(2,true,.clo fa2 ca2),(11,true,.list (a0.map avV) .none),(12,true,.val (.int .i64 ((a0.length:Int)))),(13,true,.val (.int .i64 b))] [] [] (Za3 n a0 a1 a2 m b=some r)) n ⟨0,([]),Rw,ef hs,ef hs,hO,h⟩ ?_
  rintro ml6 e st ⟨b,Xl6,Rl6,rfl,rfl,hO,h⟩ Ul6 Vl6
  cases ml6 with
  | zero=>cases h
  | succ ml6 =>
  rw [Za3] at h
  refine ZaD hN u ab rfl a hO (owf c hO) (owf c hO) ?_
  refine rg [0,1,2,11,12,13,14] hs ?_
  apply Zaa;intro K8 z
  refine cnd h hs (fun hs h=>?_) (fun hs h=>?_)
  rotate_left
  ·
   refine sx [0,1] hs ae ?_
   exact ⟨([]),Rl6,ef hs,ef hs,hO,h⟩
  refine sk [0,1,2,11,12,13] hs z ?_
  clear z
  apply Zaa;intro K10 i
  apply Zad
  obtain ⟨t,y,h⟩:=bind_some h
  obtain ⟨ag,af,k⟩:=Zan y
  have p:=Zap (f:=avV) k
  have hs:=And.intro p hs
  refine rg [0,1,2,7,8,11,12,13] hs ?_
  apply Zaa;intro K13 g
  refine rg [0,1,2,7,8,11,12,13,21] hs ?_
  refine cnd h hs (fun hs h=>?_) (fun hs h=>?_)
  ·
   refine rg [6] hs ?_
   exact rt h hs a hO
  refine sk [0,1,2,7,8,11,12,13] hs g ?_
  clear g
  obtain ⟨w,q,h⟩:=bind_some h
  obtain ⟨ah,ad,l⟩:=Zan q
  have o:=Zap (f:=avV) l
  have hs:=And.intro o hs
  refine rg [0,1,2,8,9,11,12,13] hs ?_
  obtain ⟨aj,aa,h⟩:=bind_some h
  refine rc 2 [0,1,2,10,11,12,13] hs ?_;intro K19 d
  refine ZeR _ (ha2 t w _ aa _ _ px hO.pre) (hv hs) ?_
  refine ne hs d ?_
  clear d
  refine rg [0,1,2,10,11,12,13,31] hs ?_
  refine cnd h hs (fun hs h=>?_) (fun hs h=>?_)
  ·
   refine rg [6] hs ?_
   exact rt h hs a hO
  refine sk [0,1,2,11,12,13] hs i ?_
  clear i
  obtain ⟨ai,h⟩:=Zab h
  refine rl [0,1,2,11,12,13] hs (fun e s=>Vl6 ml6 e s (Nat.lt_succ_self _)) ?_
  exact ⟨(b+1),([t.cs,w.cs]),Rl6,ef hs,ef hs,hO,h⟩
 ·
  clear h;rintro e st ⟨Xk3,Rk3,rfl,rfl,hO,h⟩
  rw [Zco] at h
  refine ZaD hN u ab rfl a hO (owf c hO) (owf c hO) ?_
  apply Zaa;intro K25 j
  refine rg [38] hs ?_
  refine cnd h hs (fun hs h=>?_) (fun hs h=>?_)
  ·
   refine rg [6] hs ?_
   exact rt h hs a hO
  refine sk [] hs j ?_
  clear j
  refine rg [6] hs ?_
  exact rt h hs a hO
def Zd8 (rec:Vl→Vl→Option Int) (n:Nat) (a0:ByteArray × Vl) (a1:ByteArray × Vl):Option Int :=
 (rec a0.2 a1.2).bind fun y3 =>
 (Zf7 n ([Zg9 a0.1 a1.1,y3])).bind fun y4 =>
 some (y4)
theorem Zn2 (w0:World) (rec:Vl→Vl→Option Int) (ih:∀ (B:List (List AV)) (Rw:List RowA) (L:List LoopA) (a0:Vl) (a1:Vl) (r:Int) (h:rec a0 a1=some r),ACalls Tryz.prog w0 83 [.agg (a0.cs),.agg (a1.cs)] ⟨B,Rw,L⟩ fun x st=>x = .val (.int .i64 r)∧st=⟨B,Rw,L⟩) (n:Nat) (B:List (List AV)) (Rw:List RowA) (L:List LoopA) (a0:ByteArray × Vl) (a1:ByteArray × Vl) (r:Int) (h:Zd8 rec n a0 a1=some r) :
  ACalls Tryz.prog w0 146 [.agg (.val (.string a0.1)::(a0.2.cs)),.agg (.val (.string a1.1)::(a1.2.cs))] ⟨B,Rw,L⟩ fun x st=>x = .val (.int .i64 r)∧st=⟨B,Rw,L⟩:=by
 rw [Zd8] at h
 refine hd [.tmp 4] Tryz.func146 Tryz.ntmps146 fun M0 W0 hN e f a hu hO hs=>?_
 simp only [Zaq]
 refine rg [2,3] hs ?_
 obtain ⟨y3,d,h⟩:=bind_some h
 obtain ⟨y4,c,h⟩:=bind_some h
 apply Zaa;intro K2 b
 refine dk 13 4 1 [4] hs mix ?_
 refine Zac _ (Zjd w0 _ _ _ a0.1 a1.1) (hv hs) ?_
 refine nc hs ?_
 refine Zac _ (ih _ _ _ a0.2 a1.2 _ d) (hv hs) ?_
 refine nc hs ?_
 refine Zac _ (Zk1 w0 n _ _ _ ([Zg9 a0.1 a1.1,y3]) _ c) (hv hs) ?_
 refine dn hs b ?_
 clear b
 exact rt h hs a hO
def Zh5 (rec:Vl→Vl→Option Int) (n:Nat) (a0:Vl) (a1:Vl):Option Int :=
 (ZcD n a0.list a1.list (fun (x0:Vl) (x1:Vl)=>rec x0 x1)).bind fun y3 =>
 (Zcz n a0.fields a1.fields (fun (x0:ByteArray × Vl) (x1:ByteArray × Vl)=>Zd8 rec n x0 x1)).bind fun y4 =>
 (Zf7 n ([if a0.kind<a1.kind then -1 else if a0.kind=a1.kind then 0 else 1,if a0.int<a1.int then -1 else if a0.int=a1.int then 0 else 1,if a0.scale<a1.scale then -1 else if a0.scale=a1.scale then 0 else 1,Zg9 a0.text a1.text,y3,y4])).bind fun y5 =>
 some (y5)
def ZdT:Nat→Vl→Vl→Option Int
 | 0,_,_=>none
 | n+1,a0,a1=>Zh5 (ZdT n) n a0 a1
def Zkv (w0:World) (F:Vl→Vl→Option Int):Prop:=∀ (B:List (List AV)) (Rw:List RowA) (L:List LoopA) (a0:Vl) (a1:Vl) (r:Int),F a0 a1=some r→ACalls Tryz.prog w0 83 [.agg (a0.cs),.agg (a1.cs)] ⟨B,Rw,L⟩ fun x st=>x = .val (.int .i64 r)∧st=⟨B,Rw,L⟩
theorem Zn4 (w0:World) (rec:Vl→Vl→Option Int) (ih:Zkv w0 rec) (n:Nat):Zkv w0 (Zh5 rec n):=by
 intro B Rw L a0 a1 r h
 rw [Zh5] at h
 refine hd [.tmp 4] Tryz.func83 Tryz.ntmps83 fun M0 W0 hN j k a hu hO hs=>?_
 simp only [Zaq]
 refine rg [2,3] hs ?_
 obtain ⟨y3,i,h⟩:=bind_some h
 obtain ⟨y4,e,h⟩:=bind_some h
 obtain ⟨y5,g,h⟩:=bind_some h
 apply Zaa;intro K2 c
 refine dk 33 8 1 [4] (al hs) mix ?_
 refine Zac _ (ZlG w0 _ _ _ a0.kind a1.kind) (hv (al hs)) ?_
 refine nc (al hs) ?_
 refine Zac _ (ZlG w0 _ _ _ a0.int a1.int) (hv (al hs)) ?_
 refine nc (al hs) ?_
 refine Zac _ (ZlG w0 _ _ _ a0.scale a1.scale) (hv (al hs)) ?_
 refine nc (al hs) ?_
 refine Zac _ (Zjd w0 _ _ _ a0.text a1.text) (hv (al hs)) ?_
 refine nc (al hs) ?_
 refine Zac _ (ZiK w0 n _ _ _ a0.list a1.list 83 [] (fun (x0:Vl) (x1:Vl)=>rec x0 x1) (fun x0 x1 r hx B' b d f=>by exact ih _ _ _ x0 x1 _ hx) _ i) (hv (al hs)) ?_
 refine nc (al hs) ?_
 refine Zac _ (Ziy w0 n _ _ _ a0.fields a1.fields 146 [] (fun (x0:ByteArray × Vl) (x1:ByteArray × Vl)=>Zd8 rec n x0 x1) (fun x0 x1 r hx B' b d f=>by exact Zn2 w0 rec ih n _ _ _ x0 x1 _ hx) _ e) (hv (al hs)) ?_
 refine nc (al hs) ?_
 refine Zac _ (Zk1 w0 n _ _ _ ([if a0.kind<a1.kind then -1 else if a0.kind=a1.kind then 0 else 1,if a0.int<a1.int then -1 else if a0.int=a1.int then 0 else 1,if a0.scale<a1.scale then -1 else if a0.scale=a1.scale then 0 else 1,Zg9 a0.text a1.text,y3,y4]) _ g) (hv (al hs)) ?_
 refine dn (al hs) c ?_
 clear c
 exact rt h hs a hO
theorem Zl7 (w0:World):∀ n:Nat,Zkv w0 (ZdT n)
 | 0=>fun _ _ _ _ _ _ h=>(nomatch h)
 | n+1=>Zn4 w0 (ZdT n) (Zl7 w0 n) n
def Zdt (n:Nat) (a0:Vl) (a1:Vl):Option Bool :=
 (ZdT n a0 a1).bind fun y3 =>
 some (decide (y3=0))
theorem ZhO (w0:World) (n:Nat) (B:List (List AV)) (Rw:List RowA) (L:List LoopA) (a0:Vl) (a1:Vl) (r:Bool) (h:Zdt n a0 a1=some r) :
  ACalls Tryz.prog w0 32 [.agg (a0.cs),.agg (a1.cs)] ⟨B,Rw,L⟩ fun x st=>x = .val (.bool r)∧st=⟨B,Rw,L⟩:=by
 rw [Zdt] at h
 refine hd [.tmp 4] Tryz.func32 Tryz.ntmps32 fun M0 W0 hN d e a hu hO hs=>?_
 simp only [Zaq]
 refine rg [2,3] hs ?_
 obtain ⟨y3,c,h⟩:=bind_some h
 refine rc 2 [4] hs ?_;intro K2 b
 refine Zac _ (Zl7 w0 n _ _ _ a0 a1 _ c) (hv hs) ?_
 refine ne hs b ?_
 clear b
 exact rt h hs a hO
def Ziv (rec:Ty→Ty→Option Bool) (n:Nat) (a0:Int × ByteArray × Int × Ty × List Vl) (a1:Int × ByteArray × Int × Ty × List Vl):Option Bool :=
 if ((decide (a0.1=a1.1))&&(sEq a0.2.1 a1.2.1))&&(decide (a0.2.2.1=a1.2.2.1)) then
  (rec a0.2.2.2.1 a1.2.2.2.1).bind fun y4 =>
  if y4 then
   (Zeo n a0.2.2.2.2 a1.2.2.2.2 (fun (x0:Vl) (x1:Vl)=>Zdt n x0 x1)).bind fun y6 =>
   some (y6)
  else
   some (false)
 else
  some (false)
theorem Zqt (w0:World) (rec:Ty→Ty→Option Bool) (ih:∀ (B:List (List AV)) (Rw:List RowA) (L:List LoopA) (a0:Ty) (a1:Ty) (r:Bool) (h:rec a0 a1=some r),ACalls Tryz.prog w0 163 [.agg (a0.cs),.agg (a1.cs)] ⟨B,Rw,L⟩ fun x st=>x = .val (.bool r)∧st=⟨B,Rw,L⟩) (n:Nat) (B:List (List AV)) (Rw:List RowA) (L:List LoopA) (a0:Int × ByteArray × Int × Ty × List Vl) (a1:Int × ByteArray × Int × Ty × List Vl) (r:Bool) (h:Ziv rec n a0 a1=some r) :
  ACalls Tryz.prog w0 207 [.agg (.val (.int .i64 a0.1)::(.val (.string a0.2.1)::(.val (.int .i64 a0.2.2.1)::((a0.2.2.2.1.cs)++([.list (a0.2.2.2.2.map avV) .none]))))),.agg (.val (.int .i64 a1.1)::(.val (.string a1.2.1)::(.val (.int .i64 a1.2.2.1)::((a1.2.2.2.1.cs)++([.list (a1.2.2.2.2.map avV) .none])))))] ⟨B,Rw,L⟩ fun x st=>x = .val (.bool r)∧st=⟨B,Rw,L⟩:=by
 rw [Ziv] at h
 refine hd [.tmp 4] Tryz.func207 Tryz.ntmps207 fun M0 W0 hN f j a hu hO hs=>?_
 simp only [Zaq]
 refine rg [2,3] hs ?_
 apply Zaa;intro K2 b
 rcases Bool.eq_false_or_eq_true (((decide (a0.1=a1.1))&&(sEq a0.2.1 a1.2.1))&&(decide (a0.2.2.1=a1.2.2.1))) with hf3 | hf3
 ·
  replace h:=Za9 h hf3
  obtain ⟨y4,c,h⟩:=bind_some h
  rcases Bool.eq_false_or_eq_true (y4) with hf5 | hf5
  ·
   replace h:=Za9 h hf5
   obtain ⟨y6,d,h⟩:=bind_some h
   have hs:=And.intro hf3 hs
   have hs:=And.intro hf5 hs
   refine rk 3 [4] (al hs) ?_
   refine Zac _ (ih _ _ _ a0.2.2.2.1 a1.2.2.2.1 _ c) (hv (al hs)) ?_
   refine nc (al hs) ?_
   refine Zac _ (Zi2 w0 n _ _ _ a0.2.2.2.2 a1.2.2.2.2 32 [] (fun (x0:Vl) (x1:Vl)=>Zdt n x0 x1) (fun x0 x1 r hx B' e g i=>by exact ZhO w0 n _ _ _ x0 x1 _ hx) _ d) (hv (al hs)) ?_
   refine ne (al hs) b ?_
   clear b
   exact rt h hs a hO
  ·
   replace h:=Zba h hf5
   have hs:=And.intro hf3 hs
   have hs:=And.intro hf5 hs
   refine rk 3 [4] (al hs) ?_
   refine Zac _ (ih _ _ _ a0.2.2.2.1 a1.2.2.2.1 _ c) (hv (al hs)) ?_
   refine nc (al hs) ?_
   refine Zau ?_
   refine ne (al hs) b ?_
   clear b
   exact rt h hs a hO
 ·
  replace h:=Zba h hf3
  have hs:=And.intro hf3 hs
  refine rk 3 [4] (al hs) ?_
  refine Zau ?_
  refine nc (al hs) ?_
  refine Zau ?_
  refine ne (al hs) b ?_
  clear b
  exact rt h hs a hO
def Zen (n:Nat)  : Option Bool :=
 some (true)
def ZcM (n:Nat) (a0:List Ty) (a1:List Ty) (a2:Ty→Ty→Option Bool):Nat→Int→Option Bool
 | 0,_=>none
 | m+1,x17_l10 =>
  if decide (x17_l10<((a0.length:Int))) then
   (idx a0 x17_l10).bind fun x16 =>
   (idx a1 x17_l10).bind fun x18 =>
   (a2 x16 x18).bind fun y20 =>
   if !y20 then
    some (false)
   else
    if I64 (x17_l10+1) then
     (ZcM n a0 a1 a2 m) (x17_l10+1)
    else none
  else
   Zen n 
def ZeO (n:Nat) (a0:List Ty) (a1:List Ty) (a2:Ty→Ty→Option Bool):Option Bool :=
 if !(decide (((a0.length:Int))=((a1.length:Int)))) then
  some (false)
 else
  ZcM n a0 a1 a2 n 0
theorem Zgz (w0:World) (n:Nat) (B:List (List AV)) (Rw:List RowA) (L:List LoopA) (a0:List Ty) (a1:List Ty) (fa2:FuncId) (ca2:List AV) (a2:Ty→Ty→Option Bool) (ha2:∀ (x0:Ty) (x1:Ty) r,a2 x0 x1=some r→∀ B' rows,B <+: B'→Rw <+: rows→ACalls Tryz.prog w0 fa2 ([.agg (x0.cs),.agg (x1.cs)]++ca2) ⟨B',rows,L⟩ fun v s=>v = .val (.bool r)∧s=⟨B',rows,L⟩) (r:Bool) (h:ZeO n a0 a1 a2=some r) :
  ACalls Tryz.prog w0 205 [.list (a0.map avT) .none,.list (a1.map avT) .none,.clo fa2 ca2] ⟨B,Rw,L⟩ fun x st=>x = .val (.bool r)∧st=⟨B,Rw,L⟩:=by
 rw [ZeO] at h
 refine hd [.tmp 6] Tryz.func205 Tryz.ntmps205 fun M0 W0 hN q y b hu hO hs=>?_
 simp only [Zaq]
 have c:=ZbC (hu (.clo fa2 ca2) (by simp))
 refine rg [0,1,2] hs ?_
 apply Zaa;intro K2 aa
 refine rg [0,1,2,14] hs ?_
 refine cnd h hs (fun hs h=>?_) (fun hs h=>?_)
 ·
  refine rg [6] hs ?_
  exact rt h hs b hO
 refine sk [0,1,2] hs aa ?_
 clear aa
 refine Zak (fun e st=>Ck e st B Rw L [] [] [] (Zen n  = some r)) ?_ ?_
 ·
  intro K8 ad
  refine rg [1,2,15,16,17] hs ?_
  apply Zad
  refine Zao (fun m e st=>∃ (a:Int),Ck e st B Rw L [(1,true,.list (a1.map avT) .none),(2,true,.clo fa2 ca2),(15,true,.list (a0.map avT) .none),(16,true,.val (.int .i64 ((a0.length:Int)))),(17,true,.val (.int .i64 a))] [] [] (ZcM n a0 a1 a2 m a=some r)) n ⟨0,([]),Rw,ef hs,ef hs,hO,h⟩ ?_
  rintro ml10 e st ⟨a,Xl10,Rl10,rfl,rfl,hO,h⟩ Ul10 Vl10
  cases ml10 with
  | zero=>cases h
  | succ ml10 =>
  rw [ZcM] at h
  refine ZaD hN q y rfl b hO (owf c hO) (owf c hO) ?_
  refine rg [1,2,15,16,17,18] hs ?_
  apply Zaa;intro K12 g
  refine cnd h hs (fun hs h=>?_) (fun hs h=>?_)
  rotate_left
  ·
   refine sx [] hs ad ?_
   exact ⟨([]),Rl10,ef hs,ef hs,hO,h⟩
  refine sk [1,2,15,16,17] hs g ?_
  clear g
  apply Zaa;intro K14 i
  apply Zad
  obtain ⟨t,z,h⟩:=bind_some h
  obtain ⟨ae,af,l⟩:=Zan z
  have o:=Zap (f:=avT) l
  have hs:=And.intro o hs
  refine rg [1,2,7,8,15,16,17] hs ?_
  obtain ⟨u,p,h⟩:=bind_some h
  obtain ⟨ag,ab,j⟩:=Zan p
  have k:=Zap (f:=avT) j
  have hs:=And.intro k hs
  refine rg [1,2,8,9,15,16,17] hs ?_
  obtain ⟨ai,w,h⟩:=bind_some h
  refine rc 2 [1,2,15,16,17,30] hs ?_;intro K19 d
  refine ZeR _ (ha2 t u _ w _ _ px hO.pre) (hv hs) ?_
  refine ne hs d ?_
  clear d
  refine cnd h hs (fun hs h=>?_) (fun hs h=>?_)
  ·
   refine rg [6] hs ?_
   exact rt h hs b hO
  refine sk [1,2,15,16,17] hs i ?_
  clear i
  obtain ⟨ah,h⟩:=Zab h
  refine rl [1,2,15,16,17] hs (fun e s=>Vl10 ml10 e s (Nat.lt_succ_self _)) ?_
  exact ⟨(a+1),([t.cs,u.cs]),Rl10,ef hs,ef hs,hO,h⟩
 ·
  clear h;rintro e st ⟨Xk7,Rk7,rfl,rfl,hO,h⟩
  rw [Zen] at h
  refine ZaD hN q y rfl b hO (owf c hO) (owf c hO) ?_
  refine rg [6] hs ?_
  exact rt h hs b hO
def ZcU (n:Nat)  : Option Bool :=
 some (true)
def ZbU (n:Nat) (a0:List (Int × ByteArray × Int × Ty × List Vl)) (a1:List (Int × ByteArray × Int × Ty × List Vl)) (a2:(Int × ByteArray × Int × Ty × List Vl)→(Int × ByteArray × Int × Ty × List Vl)→Option Bool):Nat→Int→Option Bool
 | 0,_=>none
 | m+1,x17_l10 =>
  if decide (x17_l10<((a0.length:Int))) then
   (idx a0 x17_l10).bind fun x16 =>
   (idx a1 x17_l10).bind fun x18 =>
   (a2 x16 x18).bind fun y20 =>
   if !y20 then
    some (false)
   else
    if I64 (x17_l10+1) then
     (ZbU n a0 a1 a2 m) (x17_l10+1)
    else none
  else
   ZcU n 
def Zdb (n:Nat) (a0:List (Int × ByteArray × Int × Ty × List Vl)) (a1:List (Int × ByteArray × Int × Ty × List Vl)) (a2:(Int × ByteArray × Int × Ty × List Vl)→(Int × ByteArray × Int × Ty × List Vl)→Option Bool):Option Bool :=
 if !(decide (((a0.length:Int))=((a1.length:Int)))) then
  some (false)
 else
  ZbU n a0 a1 a2 n 0
theorem Zhy (w0:World) (n:Nat) (B:List (List AV)) (Rw:List RowA) (L:List LoopA) (a0:List (Int × ByteArray × Int × Ty × List Vl)) (a1:List (Int × ByteArray × Int × Ty × List Vl)) (fa2:FuncId) (ca2:List AV) (a2:(Int × ByteArray × Int × Ty × List Vl)→(Int × ByteArray × Int × Ty × List Vl)→Option Bool) (ha2:∀ (x0:Int × ByteArray × Int × Ty × List Vl) (x1:Int × ByteArray × Int × Ty × List Vl) r,a2 x0 x1=some r→∀ B' rows,B <+: B'→Rw <+: rows→ACalls Tryz.prog w0 fa2 ([.agg (.val (.int .i64 x0.1)::(.val (.string x0.2.1)::(.val (.int .i64 x0.2.2.1)::((x0.2.2.2.1.cs)++([.list (x0.2.2.2.2.map avV) .none]))))),.agg (.val (.int .i64 x1.1)::(.val (.string x1.2.1)::(.val (.int .i64 x1.2.2.1)::((x1.2.2.2.1.cs)++([.list (x1.2.2.2.2.map avV) .none])))))]++ca2) ⟨B',rows,L⟩ fun v s=>v = .val (.bool r)∧s=⟨B',rows,L⟩) (r:Bool) (h:Zdb n a0 a1 a2=some r) :
  ACalls Tryz.prog w0 206 [.list (a0.map ZeF) .none,.list (a1.map ZeF) .none,.clo fa2 ca2] ⟨B,Rw,L⟩ fun x st=>x = .val (.bool r)∧st=⟨B,Rw,L⟩:=by
 rw [Zdb] at h
 refine hd [.tmp 6] Tryz.func206 Tryz.ntmps206 fun M0 W0 hN u y b hu hO hs=>?_
 simp only [Zaq]
 have c:=ZbC (hu (.clo fa2 ca2) (by simp))
 refine rg [0,1,2] hs ?_
 apply Zaa;intro K2 aa
 refine rg [0,1,2,14] hs ?_
 refine cnd h hs (fun hs h=>?_) (fun hs h=>?_)
 ·
  refine rg [6] hs ?_
  exact rt h hs b hO
 refine sk [0,1,2] hs aa ?_
 clear aa
 refine Zak (fun e st=>Ck e st B Rw L [] [] [] (ZcU n  = some r)) ?_ ?_
 ·
  intro K8 ad
  refine rg [1,2,15,16,17] hs ?_
  apply Zad
  refine Zao (fun m e st=>∃ (a:Int),Ck e st B Rw L [(1,true,.list (a1.map ZeF) .none),(2,true,.clo fa2 ca2),(15,true,.list (a0.map ZeF) .none),(16,true,.val (.int .i64 ((a0.length:Int)))),(17,true,.val (.int .i64 a))] [] [] (ZbU n a0 a1 a2 m a=some r)) n ⟨0,([]),Rw,ef hs,ef hs,hO,h⟩ ?_
  rintro ml10 e st ⟨a,Xl10,Rl10,rfl,rfl,hO,h⟩ Ul10 Vl10
  cases ml10 with
  | zero=>cases h
  | succ ml10 =>
  rw [ZbU] at h
  refine ZaD hN u y rfl b hO (owf c hO) (owf c hO) ?_
  refine rg [1,2,15,16,17,18] hs ?_
  apply Zaa;intro K12 j
  refine cnd h hs (fun hs h=>?_) (fun hs h=>?_)
  rotate_left
  ·
   refine sx [] hs ad ?_
   exact ⟨([]),Rl10,ef hs,ef hs,hO,h⟩
  refine sk [1,2,15,16,17] hs j ?_
  clear j
  apply Zaa;intro K14 k
  apply Zad
  obtain ⟨d,z,h⟩:=bind_some h
  obtain ⟨ae,af,p⟩:=Zan z
  have q:=Zap (f:=ZeF) p
  have hs:=And.intro q hs
  refine rg [1,2,7,8,15,16,17] hs ?_
  obtain ⟨g,t,h⟩:=bind_some h
  obtain ⟨ag,ab,l⟩:=Zan t
  have o:=Zap (f:=ZeF) l
  have hs:=And.intro o hs
  refine rg [1,2,8,9,15,16,17] hs ?_
  obtain ⟨ai,w,h⟩:=bind_some h
  refine rc 2 [1,2,15,16,17,30] hs ?_;intro K19 i
  refine ZeR _ (ha2 d g _ w _ _ px hO.pre) (hv hs) ?_
  refine ne hs i ?_
  clear i
  refine cnd h hs (fun hs h=>?_) (fun hs h=>?_)
  ·
   refine rg [6] hs ?_
   exact rt h hs b hO
  refine sk [1,2,15,16,17] hs k ?_
  clear k
  obtain ⟨ah,h⟩:=Zab h
  refine rl [1,2,15,16,17] hs (fun e s=>Vl10 ml10 e s (Nat.lt_succ_self _)) ?_
  exact ⟨(a+1),([.val (.int .i64 d.1)::(.val (.string d.2.1)::(.val (.int .i64 d.2.2.1)::((d.2.2.2.1.cs)++([.list (d.2.2.2.2.map avV) .none])))),.val (.int .i64 g.1)::(.val (.string g.2.1)::(.val (.int .i64 g.2.2.1)::((g.2.2.2.1.cs)++([.list (g.2.2.2.2.map avV) .none]))))]),Rl10,ef hs,ef hs,hO,h⟩
 ·
  clear h;rintro e st ⟨Xk7,Rk7,rfl,rfl,hO,h⟩
  rw [ZcU] at h
  refine ZaD hN u y rfl b hO (owf c hO) (owf c hO) ?_
  refine rg [6] hs ?_
  exact rt h hs b hO
def Zfr (n:Nat)  : Option Bool :=
 some (true)
def Zdm (n:Nat) (a0:List ByteArray) (a1:List ByteArray):Nat→Int→Option Bool
 | 0,_=>none
 | m+1,x13_l10 =>
  if decide (x13_l10<((a0.length:Int))) then
   (idx a0 x13_l10).bind fun x17 =>
   (idx a1 x13_l10).bind fun x18 =>
   if !(sEq x17 x18) then
    some (false)
   else
    if I64 (x13_l10+1) then
     (Zdm n a0 a1 m) (x13_l10+1)
    else none
  else
   Zfr n 
def ZfW (n:Nat) (a0:List ByteArray) (a1:List ByteArray):Option Bool :=
 if !(decide (((a0.length:Int))=((a1.length:Int)))) then
  some (false)
 else
  Zdm n a0 a1 n 0
theorem Zff (w0:World) (n:Nat) (B:List (List AV)) (Rw:List RowA) (L:List LoopA) (a0:List ByteArray) (a1:List ByteArray) (r:Bool) (h:ZfW n a0 a1=some r) :
  ACalls Tryz.prog w0 204 [.list (a0.map avS) .none,.list (a1.map avS) .none] ⟨B,Rw,L⟩ fun x st=>x = .val (.bool r)∧st=⟨B,Rw,L⟩:=by
 rw [ZfW] at h
 refine hd [.tmp 4] Tryz.func204 Tryz.ntmps204 fun M0 W0 hN p q b hu hO hs=>?_
 simp only [Zaq]
 refine rg [0,1] hs ?_
 apply Zaa;intro K2 t
 refine rg [0,1,10] hs ?_
 refine cnd h hs (fun hs h=>?_) (fun hs h=>?_)
 ·
  refine rg [4] hs ?_
  exact rt h hs b hO
 refine sk [0,1] hs t ?_
 clear t
 refine Zak (fun e st=>Ck e st B Rw L [] [] [] (Zfr n  = some r)) ?_ ?_
 ·
  intro K8 w
  refine rg [0,1,12,13] hs ?_
  apply Zad
  refine Zao (fun m e st=>∃ (a:Int),Ck e st B Rw L [(0,true,.list (a0.map avS) .none),(1,true,.list (a1.map avS) .none),(12,true,.val (.int .i64 ((a0.length:Int)))),(13,true,.val (.int .i64 a))] [] [] (Zdm n a0 a1 m a=some r)) n ⟨0,([]),Rw,ef hs,ef hs,hO,h⟩ ?_
  rintro ml10 e st ⟨a,Xl10,Rl10,rfl,rfl,hO,h⟩ Ul10 Vl10
  cases ml10 with
  | zero=>cases h
  | succ ml10 =>
  rw [Zdm] at h
  refine td hN p q b hO ?_
  refine rg [0,1,12,13,14] hs ?_
  apply Zaa;intro K12 c
  refine cnd h hs (fun hs h=>?_) (fun hs h=>?_)
  rotate_left
  ·
   refine sx [] hs w ?_
   exact ⟨([]),Rl10,ef hs,ef hs,hO,h⟩
  refine sk [0,1,12,13] hs c ?_
  clear c
  apply Zaa;intro K14 d
  apply Zad
  refine rg [0,1,5,12,13] hs ?_
  obtain ⟨ab,l,h⟩:=bind_some h
  obtain ⟨y,v,k⟩:=Zan l
  have j:=Zap (f:=avS) k
  obtain ⟨ad,o,h⟩:=bind_some h
  obtain ⟨z,u,g⟩:=Zan o
  have i:=Zap (f:=avS) g
  have hs:=And.intro j hs
  have hs:=And.intro i hs
  refine dg 9 1 1 [0,1,12,13,24] hs mix ?_
  refine cnd h hs (fun hs h=>?_) (fun hs h=>?_)
  ·
   refine rg [4] hs ?_
   exact rt h hs b hO
  refine sk [0,1,12,13] hs d ?_
  clear d
  obtain ⟨aa,h⟩:=Zab h
  refine rl [0,1,12,13] hs (fun e s=>Vl10 ml10 e s (Nat.lt_succ_self _)) ?_
  exact ⟨(a+1),([]),Rl10,ef hs,ef hs,hO,h⟩
 ·
  clear h;rintro e st ⟨Xk7,Rk7,rfl,rfl,hO,h⟩
  rw [Zfr] at h
  refine td hN p q b hO ?_
  refine rg [4] hs ?_
  exact rt h hs b hO
def ZmT (rec:Ty→Ty→Option Bool) (n:Nat) (a0:Ty) (a1:Ty):Option Bool :=
 if (((decide (a0.kind=a1.kind))&&(decide (a0.min=a1.min)))&&(decide (a0.max=a1.max)))&&(decide (a0.scale=a1.scale)) then
  (ZfW n a0.words a1.words).bind fun y4 =>
  if y4 then
   (ZeO n a0.elem a1.elem (fun (x0:Ty) (x1:Ty)=>rec x0 x1)).bind fun y6 =>
   if y6 then
    (Zdb n a0.fields a1.fields (fun (x0:Int × ByteArray × Int × Ty × List Vl) (x1:Int × ByteArray × Int × Ty × List Vl)=>Ziv rec n x0 x1)).bind fun y8 =>
    some (y8)
   else
    some (false)
  else
   some (false)
 else
  some (false)
def ZkS:Nat→Ty→Ty→Option Bool
 | 0,_,_=>none
 | n+1,a0,a1=>ZmT (ZkS n) n a0 a1
def ZmU (w0:World) (F:Ty→Ty→Option Bool):Prop:=∀ (B:List (List AV)) (Rw:List RowA) (L:List LoopA) (a0:Ty) (a1:Ty) (r:Bool),F a0 a1=some r→ACalls Tryz.prog w0 163 [.agg (a0.cs),.agg (a1.cs)] ⟨B,Rw,L⟩ fun x st=>x = .val (.bool r)∧st=⟨B,Rw,L⟩
theorem ZrE (w0:World) (rec:Ty→Ty→Option Bool) (ih:ZmU w0 rec) (n:Nat):ZmU w0 (ZmT rec n):=by
 intro B Rw L a0 a1 r h
 rw [ZmT] at h
 refine hd [.tmp 4] Tryz.func163 Tryz.ntmps163 fun M0 W0 hN j k a hu hO hs=>?_
 simp only [Zaq]
 refine rg [2,3] hs ?_
 apply Zaa;intro K2 b
 rcases Bool.eq_false_or_eq_true ((((decide (a0.kind=a1.kind))&&(decide (a0.min=a1.min)))&&(decide (a0.max=a1.max)))&&(decide (a0.scale=a1.scale))) with hf3 | hf3
 ·
  replace h:=Za9 h hf3
  obtain ⟨y4,d,h⟩:=bind_some h
  rcases Bool.eq_false_or_eq_true (y4) with hf5 | hf5
  ·
   replace h:=Za9 h hf5
   obtain ⟨y6,e,h⟩:=bind_some h
   rcases Bool.eq_false_or_eq_true (y6) with hf7 | hf7
   ·
    replace h:=Za9 h hf7
    obtain ⟨y8,i,h⟩:=bind_some h
    have hs:=And.intro hf3 hs
    have hs:=And.intro hf5 hs
    have hs:=And.intro hf7 hs
    refine rk 4 [4] (al hs) ?_
    refine Zac _ (Zff w0 n _ _ _ a0.words a1.words _ d) (hv (al hs)) ?_
    refine nc (al hs) ?_
    refine Zac _ (Zgz w0 n _ _ _ a0.elem a1.elem 163 [] (fun (x0:Ty) (x1:Ty)=>rec x0 x1) (fun x0 x1 r hx B' c f g=>by exact ih _ _ _ x0 x1 _ hx) _ e) (hv (al hs)) ?_
    refine nc (al hs) ?_
    refine Zac _ (Zhy w0 n _ _ _ a0.fields a1.fields 207 [] (fun (x0:Int × ByteArray × Int × Ty × List Vl) (x1:Int × ByteArray × Int × Ty × List Vl)=>Ziv rec n x0 x1) (fun x0 x1 r hx B' c f g=>by exact Zqt w0 rec ih n _ _ _ x0 x1 _ hx) _ i) (hv (al hs)) ?_
    refine ne (al hs) b ?_
    clear b
    exact rt h hs a hO
   ·
    replace h:=Zba h hf7
    have hs:=And.intro hf3 hs
    have hs:=And.intro hf5 hs
    have hs:=And.intro hf7 hs
    refine rk 4 [4] (al hs) ?_
    refine Zac _ (Zff w0 n _ _ _ a0.words a1.words _ d) (hv (al hs)) ?_
    refine nc (al hs) ?_
    refine Zac _ (Zgz w0 n _ _ _ a0.elem a1.elem 163 [] (fun (x0:Ty) (x1:Ty)=>rec x0 x1) (fun x0 x1 r hx B' c f g=>by exact ih _ _ _ x0 x1 _ hx) _ e) (hv (al hs)) ?_
    refine nc (al hs) ?_
    refine Zau ?_
    refine ne (al hs) b ?_
    clear b
    exact rt h hs a hO
  ·
   replace h:=Zba h hf5
   have hs:=And.intro hf3 hs
   have hs:=And.intro hf5 hs
   refine rk 4 [4] (al hs) ?_
   refine Zac _ (Zff w0 n _ _ _ a0.words a1.words _ d) (hv (al hs)) ?_
   refine nc (al hs) ?_
   refine Zau ?_
   refine nc (al hs) ?_
   refine Zau ?_
   refine ne (al hs) b ?_
   clear b
   exact rt h hs a hO
 ·
  replace h:=Zba h hf3
  have hs:=And.intro hf3 hs
  refine rk 4 [4] (al hs) ?_
  refine Zau ?_
  refine nc (al hs) ?_
  refine Zau ?_
  refine nc (al hs) ?_
  refine Zau ?_
  refine ne (al hs) b ?_
  clear b
  exact rt h hs a hO
theorem ZoG (w0:World):∀ n:Nat,ZmU w0 (ZkS n)
 | 0=>fun _ _ _ _ _ _ h=>(nomatch h)
 | n+1=>ZrE w0 (ZkS n) (ZoG w0 n) n
end Go.Proofs.YtgpmlelfkjfbiaaGreatDoor
