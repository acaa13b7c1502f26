/-
  Part 8 of the proof: rules and walks that the claim's last text uses.
-/
import Derived.Test.YtgpmlelfkjfbiaaGreatDoorSl7
set_option linter.unusedSimpArgs false
set_option linter.unusedVariables false
set_option maxRecDepth 100000
set_option maxHeartbeats 4000000
namespace Go.Proofs.YtgpmlelfkjfbiaaGreatDoor
open Go Go.RowKit Go.Ev
theorem ZH:∀ (k:Nat) (a x b m1 m2:Int),a≤x→x≤b→XA k a=some m1→XA k b=some m2→∃ m,XA k x=some m∧m1≤m∧m≤m2
 | 0,a,x,b,m1,m2,h1,h2,h3,h4=>by
  rw [XA] at h3 h4
  cases h3;cases h4
  exact ⟨x,rfl,h1,h2⟩
 | k+1,a,x,b,m1,m2,h1,h2,h3,h4=>by
  rw [XA] at h3 h4 ⊢
  by_cases c1 : -999999999999999≤a*10∧a*10≤999999999999999
  ·by_cases c2 : -999999999999999≤b*10∧b*10≤999999999999999
   ·rw [Ae c1] at h3
    rw [Ae c2] at h4
    rw [Ae (show -999999999999999≤x*10∧x*10≤999999999999999 by omega)]
    exact ZH k (a*10) (x*10) (b*10) m1 m2 (by omega) (by omega) h3 h4
   ·rw [Af c2] at h4;cases h4
  ·rw [Af c1] at h3;cases h3
theorem Zc3 {a b:Ty} {x:Int} (h:Zax a b=true) (hx:JX x a=true):∃ m,JI x a.scale b.scale=some m∧JX m b=true:=by
 rw [GW] at hx
 rw [Zax] at h
 cases h1:JI a.min a.scale b.scale with
 | none=>rw [h1] at h;cases h
 | some p =>
  cases h2:JI a.max a.scale b.scale with
  | none=>rw [h1,h2] at h;cases h
  | some q =>
   rw [h1,h2] at h
   simp only [Bool.and_eq_true,Bool.or_eq_true,decide_eq_true_eq,GW] at h
   obtain ⟨⟨g1,g2⟩,g3⟩:=h
   by_cases c:a.scale≤b.scale
   ·rw [JI,Ae c] at h1 h2
    obtain ⟨m,d,f,e⟩:=ZH _ _ _ _ _ _ hx.1 hx.2 h1 h2
    exact ⟨m,by rw [JI,Ae c];exact d,by rw [GW];omega⟩
   ·have:x=a.min:=by omega
    exact ⟨p,by rw [this];exact h1,by rw [GW];exact g1⟩
theorem Zez {w:ByteArray} (h:w.size=0):w=⟨#[]⟩:=by
 cases w with
 | mk d=>exact congrArg ByteArray.mk (Array.eq_empty_of_size_eq_zero h)
theorem Ub {a b:Ty} {x:Int} (h:Y6 a b=true) (hx:JX x a=true):JX x b=true:=by
 rw [Y6,Bool.and_eq_true,decide_eq_true_eq,decide_eq_true_eq] at h
 rw [GW] at hx ⊢
 omega
theorem Zc9 {a b:Ty} {w:ByteArray} (h:ZaL a b=true) (hw:GA w a=true):GA w b=true:=by
 rw [ZaL] at h
 rw [GA] at hw
 by_cases q:a.words=[]
 ·rw [Ae q] at hw
  rw [Af (fun z=>z q)] at h
  by_cases r:b.words=[]
  ·rw [Af (fun z=>z r)] at h
   rw [GA,Ae r]
   exact Ub h hw
  ·rw [Ae r,Bool.and_eq_true,decide_eq_true_eq] at h
   rw [GW] at hw
   rw [Zez (w:=w) (by omega)]
   exact h.2
 ·rw [Af q] at hw
  rw [Ae q,List.all_eq_true] at h
  obtain ⟨x,c,e⟩:=List.any_eq_true.1 hw
  rw [←(D5 _ _).1 e]
  exact h x c
theorem WZ (f:Vl→Option Vl):∀ l:List Vl,(∀ v∈l,∃ y,f v=some y)→∃ m,J1 f l=some m
 | [],_=>⟨[],rfl⟩
 | v::r,h=>by
  obtain ⟨y,c⟩:=h v (List.mem_cons_self ..)
  obtain ⟨m,b⟩:=WZ f r fun u a=>h u (List.mem_cons_of_mem _ a)
  exact ⟨y::m,by rw [J1,c,Ab,b];rfl⟩
theorem Xe (f:Ty→Ty→Vl→Option Vl) (a:Ty) (v:Vl):∀ gs:List TF,(∀ g∈gs,∃ o,JB f a v g=some o)→∃ l,MG f a v gs=some l
 | [],_=>⟨[],rfl⟩
 | g::r,h=>by
  obtain ⟨o,ho⟩:=h g (List.mem_cons_self ..)
  obtain ⟨m,c⟩:=Xe f a v r fun u b=>h u (List.mem_cons_of_mem _ b)
  exact ⟨o++m,by rw [MG,ho,Ab,c];rfl⟩
theorem ZU {g:TF} (h:g.2.2.1≠1):∃ o,TA g=some o:=by
 rw [TA,Af h]
 split<;>exact ⟨_,rfl⟩
theorem Ua:∀ (d:Nat) (a b:Ty) (w:Vl),a.Good→b.Good→MU d a b=true→Dp d a w=true→∃ y,O9 d a b w=some y
 | 0,a,b,w,_,_,_,h=>by simp [Dp] at h
 | d+1,a,b,w,ga,gb,hc,e=>by
  have E:=gb.own
  have V:=E.kind
  obtain ⟨H,_,_,n⟩:=JL e
  have J:=J3 (t:=a) (v:=w) (by have:=ga.own.kind;omega) H n
  rw [Dp,Af J] at e
  rw [MU] at hc
  rw [O9]
  by_cases num:(a.kind=2∨a.kind=3)∧(b.kind=2∨b.kind=3)
  ·rw [Ae num] at hc ⊢
   have hx:JX w.int a=true:=by
    rcases num.1 with q | q
    ·rwa [Ae (.inl q)] at e
    ·rw [Af (by omega),Ae q,Bool.and_eq_true] at e
     exact e.2
   obtain ⟨m,O,K⟩:=Zc3 hc hx
   exact ⟨_,by rw [O,Ab,Ae K]⟩
  rw [Af num] at hc ⊢
  by_cases ne:a.kind=b.kind
  rotate_left
  ·rw [Ae ne] at hc;cases hc
  rw [Af (fun q=>q ne)] at hc ⊢
  have Y:b.kind≠2:=fun q=>num ⟨.inl (by omega),.inl q⟩
  have U:b.kind≠3:=fun q=>num ⟨.inr (by omega),.inr q⟩
  by_cases kb1:b.kind=1
  ·exact ⟨w,by rw [Af (by omega),Af (by omega),Af (by omega),Af (by omega),Af (by omega),Af (by omega)]⟩
  rw [Af kb1] at hc
  by_cases k67:b.kind=6∨b.kind=7
  ·rw [Af (by omega),Af (by omega),Af (by omega),Af (by omega)] at hc
   rw [Ae (by omega)] at e
   exact ⟨w,by rw [Ae k67,Ae (Ub hc e)]⟩
  rw [Af k67]
  by_cases k5:b.kind=5
  ·rw [Af (by omega),Af (by omega),Af (by omega),Af (by omega)] at hc
   rw [Af (by omega),Af (by omega),Af (by omega),Ae (by omega)] at e
   exact ⟨w,by rw [Ae k5,Ae (Ub hc e)]⟩
  rw [Af k5]
  by_cases k4:b.kind=4
  ·rw [Ae k4] at hc
   rw [Af (by omega),Af (by omega),Ae (by omega)] at e
   exact ⟨w,by rw [Ae k4,Ae (Zc9 hc e)]⟩
  rw [Af k4] at hc ⊢
  by_cases k8:b.kind=8
  ·obtain ⟨x,hx⟩:=ga.own.elem (by omega)
   obtain ⟨r,j⟩:=E.elem k8
   have o:x∈a.elem:=by rw [hx];simp
   have k:r∈b.elem:=by rw [j];simp
   rw [Ae k8,hx,j,Bool.and_eq_true,Bool.or_eq_true,decide_eq_true_eq] at hc
   rw [Af (by omega),Af (by omega),Af (by omega),Af (by omega),Ae (by omega),Bool.and_eq_true,List.all_eq_true] at e
   have G:=Ub hc.1 e.1
   have:∃ m,J1 (O9 d x r) w.list=some m:=WZ _ _ fun u C=>by
    rcases hc.2 with z | z
    ·have:=GW.1 e.1
     have Q:w.list=[]:=List.length_eq_zero_iff.1 (by omega)
     rw [Q] at C;simp at C
    ·have:=e.2 u C
     rw [hx] at this
     exact Ua d x r u (Dh ga o) (Dh gb k) z this
   obtain ⟨m,N⟩:=this
   rw [Ae k8,hx,j]
   exact ⟨_,by simp only [N,Ab];rw [Ae G]⟩
  rw [Af k8] at hc ⊢
  by_cases k9:b.kind=9
  ·rw [Ae k9,List.all_eq_true] at hc
   rw [Af (by omega),Af (by omega),Af (by omega),Af (by omega),Af (by omega),Ae (by omega),Bool.and_eq_true,List.all_eq_true] at e
   have:∃ l,MG (O9 d) a w b.fields=some l:=Xe _ _ _ _ fun g F=>by
    have hcg:=hc g F
    rw [JB]
    cases hp:D1 a.fields g.1 with
    | none =>
     rw [hp] at hcg
     exact ZU (fun q=>by rw [Ad q] at hcg;cases hcg)
    | some p =>
     rw [hp] at hcg
     simp only at hcg ⊢
     have f:p∈a.fields:=List.mem_of_find?_eq_some hp
     rw [Bool.and_eq_true,Bool.not_eq_true',Bool.and_eq_false_iff,decide_eq_false_iff_not,decide_eq_false_iff_not] at hcg
     have i:=e.1 p f
     cases hx:B9 w p.2.1 with
     | none =>
      rw [hx] at i
      simp only [decide_eq_true_eq] at i
      exact ZU (fun q=>by rcases hcg.2 with z | z;exact z q;exact z i)
     | some x =>
      rw [hx] at i
      obtain ⟨y,s⟩:=Ua d _ _ x (AN ga f) (AN gb F) hcg.1 i
      exact ⟨_,by simp only [s];rfl⟩
   obtain ⟨l,hl⟩:=this
   exact ⟨_,by rw [Ae k9,hl];rfl⟩
  rw [Af k9] at hc ⊢
  by_cases k10:b.kind=10
  ·rw [Ae k10,List.all_eq_true] at hc
   rw [Af (by omega),Af (by omega),Af (by omega),Af (by omega),Af (by omega),Af (by omega),Ae (by omega)] at e
   cases c:A5 a w.text with
   | none=>rw [c] at e;simp at e
   | some p =>
    cases hl:w.list with
    | nil=>rw [c,hl] at e;simp at e
    | cons x xs =>
     rw [c,hl] at e
     have e:Dp d p.2.2.2.1 x=true:=e
     have f:=(Bg c).1
     have hcp:=hc p f
     cases g:D1 b.fields p.1 with
     | none=>rw [g] at hcp;cases hcp
     | some q =>
      rw [g] at hcp
      have D:q∈b.fields:=List.mem_of_find?_eq_some g
      obtain ⟨y,s⟩:=Ua d _ _ x (AN ga f) (AN gb D) hcp e
      exact ⟨_,by rw [Ae k10];simp only [g,s];rfl⟩
  ·exact ⟨w,by rw [Af k10]⟩
def UpR (t1 t2:Ty) (v:Vl):Vl × Int:=if Dp 12 t1 (Cb 12 t1 v)=true then (match O9 12 t1 t2 (Cb 12 t1 v) with | none=>(nilV,20) | some y=>if Oo y=0 then (y,0) else (nilV,9)) else (nilV,18)
theorem U4 (n:Nat) (t1 t2:Ty) (v:Vl) (hn:10000000000≤n) (q1:t1.small) (q2:t2.small) (vok:v.ok) (hv:v.size≤1048576) (e1:EZ n t1=some 0) (e2:EZ n t2=some 0) (g1:t1.Fine 8) (g2:t2.Fine 8):DX n t1 t2 v=some (UpR t1 t2 v):=by
 have m:∀ c:Int,c≠0→(!decide (c=0))=true:=fun c h=>by rw [Ac h];rfl
 have b:(!decide ((0:Int)=0))=false:=by decide
 have d:Dv n t1 t2=some 0:=by rw [Dv,e1,Ab,b,Af (show ¬ (false=true) by decide),e2];rfl
 have l:=S7 n t1 v q1 vok hv (by omega)
 obtain ⟨k,j⟩:=O1 12 t1 v q1 vok hv
 have q:=v.depth_size
 rw [DX,d,Ab,b,Af (show ¬ (false=true) by decide),l,Ab,UpR]
 by_cases hf:Dp 12 t1 (Cb 12 t1 v)=true
 rotate_left
 ·rw [Af hf,Af hf,Ae (show (!decide ((nilV,(18:Int)).2=0))=true by decide)]
 rw [Ae hf,Ae hf,b,Af (show ¬ (false=true) by decide)]
 obtain ⟨f,r,i,p,a,s⟩:=Y8 12 n (v.depth+1048576) 8 t1 t2 (Cb 12 t1 v) q1 q2 g1.good g2 k j hf (by omega)
 rw [i,Ab]
 cases o:O9 12 t1 t2 (Cb 12 t1 v) with
 | none =>
  rw [o] at a
  have x1:f.2=false:=a.1
  rw [x1,Ae (by rfl)]
 | some y =>
  rw [o] at a
  have x1:f=(y,true):=a.1
  obtain ⟨_,e,g⟩:=a
  subst x1
  have g:y.depth≤v.depth+1048576+1048576:=g
  rw [Af (by simp),Zas n y (by omega) (by omega) e,Ab]
  by_cases c:Oo y=0
  ·rw [c,b,Af (show ¬ (false=true) by decide),Il n y e (by omega),Ab];simp only [c,if_true]
  ·rw [Ae (m _ c)];simp only [c,if_false]
def ED (rec:Ty→Ty→Option Bool) (n:Nat) (b:Int × ByteArray × Int × Ty × List Vl) (h:Ty):Option Bool :=
 (CY n h.fields b.1).bind fun g =>
 if !g.2 then
  some (true)
 else
  (rec b.2.2.2.1 g.1.2.2.2.1).bind fun q =>
  some ((!q)||((decide (b.2.2.1=2))&&(!(decide (g.1.2.2.1=2)))))
theorem Re (w0:World) (rec:Ty→Ty→Option Bool) (ih:∀ (B:List (List AV)) (Rw:List RowA) (L:List LoopA) (a0:Ty) (a1:Ty) (r:Bool) (h:rec a0 a1=some r),ACalls Tryz.prog w0 94 [.agg (a0.cs),.agg (a1.cs)] ⟨B,Rw,L⟩ fun x st=>x = .val (.bool r)∧st=⟨B,Rw,L⟩) (n:Nat) (B:List (List AV)) (Rw:List RowA) (L:List LoopA) (a0:Int × ByteArray × Int × Ty × List Vl) (la1:Nat) (a1:Ty) (hla1:B[la1]? = some (a1.cs)) (r:Bool) (h:ED rec n a0 a1=some r) :
  ACalls Tryz.prog w0 160 [.agg (.val (.int .i64 a0.1)::(.val (.string a0.2.1)::(.val (.int .i64 a0.2.2.1)::((a0.2.2.2.1.cs)++([.list (a0.2.2.2.2.map Bq) .none]))))),.box la1 0] ⟨B,Rw,L⟩ fun x st=>x = .val (.bool r)∧st=⟨B,Rw,L⟩:=by
 rw [ED] at h
 refine hd [.tmp 3] Tryz.func160 Tryz.ntmps160 fun M0 W0 o j k a m g hs=>?_
 simp only [As]
 have d:=(Ag.1 hla1).1
 have hs:=Aa (An hla1) hs
 refine rg [1,2] hs ?_
 obtain ⟨i,e,h⟩:=bind_some h
 refine rc 2 [2,4,5] hs ?_;intro K2 c
 refine Ai _ (EH w0 n _ _ _ a1.fields a0.1 _ e) (hv hs) ?_
 refine ne hs c ?_
 clear c
 apply Ah;intro K4 b
 rcases Bool.eq_false_or_eq_true (!i.2) with hf5 | hf5
 ·replace h:=AY h hf5
  have hs:=Aa hf5 hs
  refine rk 2 [3] hs ?_
  refine AC ?_
  refine ne hs b ?_
  clear b
  exact rt h hs a g
 ·replace h:=AZ h hf5
  obtain ⟨l,f,h⟩:=bind_some h
  have hs:=Aa hf5 hs
  refine rk 2 [3] hs ?_
  refine Ai _ (ih _ _ _ a0.2.2.2.1 i.1.2.2.2.1 _ f) (hv hs) ?_
  refine ne hs b ?_
  clear b
  exact rt h hs a g
def CC (rec:Ty→Ty→Option Bool) (n:Nat) (s:Ty) (h:Ty) (b:Bool):Option Bool :=
 if b then
  (AG n s.fields (fun (q:Int × ByteArray × Int × Ty × List Vl)=>ED rec n q h)).bind fun g =>
  some (!g)
 else
  some (true)
def IP (rec:Ty→Ty→Option Bool) (n:Nat) (g:Ty) (b:Ty):Option Bool :=
 (AP n g b).bind fun y =>
 if !y then
  some (false)
 else
  if decide (b.kind=8) then
   if decide (g.max=0) then
    some (true)
   else
    (Ci g.elem 0).bind fun s =>
    (Ci b.elem 0).bind fun h =>
    (rec s h).bind fun q =>
    some (q)
  else
   if decide (b.kind=9) then
    CC rec n g b true
   else
    CC rec n g b (decide (b.kind=10))
def Cj:Nat→Ty→Ty→Option Bool
 | 0,_,_=>none
 | n+1,g,b=>IP (Cj n) n g b
def Lr (w0:World) (F:Ty→Ty→Option Bool):Prop:=∀ (B:List (List AV)) (Rw:List RowA) (L:List LoopA) (g:Ty) (b:Ty) (r:Bool),F g b=some r→ACalls Tryz.prog w0 94 [.agg (g.cs),.agg (b.cs)] ⟨B,Rw,L⟩ fun x st=>x = .val (.bool r)∧st=⟨B,Rw,L⟩
theorem QN (w0:World) (rec:Ty→Ty→Option Bool) (ih:Lr w0 rec) (n:Nat):Lr w0 (IP rec n):=by
 intro B Rw L a0 a1 r h
 rw [IP] at h
 refine hd [.tmp 4] Tryz.func94 Tryz.ntmps94 fun M0 W0 N G C a U g hs=>?_
 simp only [As]
 refine rg [2,3] hs ?_
 apply Ah;intro K2 o
 obtain ⟨Q,v,h⟩:=bind_some h
 refine rc 2 [2,3,8] hs ?_;intro K3 q
 refine Ai _ (G7 w0 n _ _ _ a0 a1 _ v) (hv hs) ?_
 refine ne hs q ?_
 clear q
 refine AK h hs (fun hs h=>?_) (fun hs h=>?_)
 ·refine rg [4] hs ?_
  exact rt h hs a g
 refine sk [2,3] hs o ?_
 clear o
 apply Ah;intro K7 m
 refine rg [2,3,10] hs ?_
 apply Ak
 refine rg [2,3,10,11] hs ?_
 refine AK h hs (fun hs h=>?_) (fun hs h=>?_)
 ·apply Ah;intro K11 c
  rcases Bool.eq_false_or_eq_true (decide (a0.max=0)) with hf12 | hf12
  ·replace h:=AY h hf12
   have hs:=Aa hf12 hs
   refine dk 15 2 1 [4] hs HD ?_
   refine AC ?_
   refine dn hs c ?_
   clear c
   exact rt h hs a g
  ·replace h:=AZ h hf12
   obtain ⟨z,y,x,d,h⟩:=ix HE h
   have k:(a0.elem.map HE).getD 0 .junk=_:=d
   obtain ⟨E,D,F,f,h⟩:=ix HE h
   have l:(a1.elem.map HE).getD 0 .junk=_:=f
   obtain ⟨K,s,h⟩:=bind_some h
   have hs:=Aa hf12 hs
   have hs:=Aa d hs
   have hs:=Aa k hs
   have hs:=Aa f hs
   have hs:=Aa l hs
   refine dk 15 2 1 [4] hs HD ?_
   refine Ai _ (ih _ _ _ z E _ s) (hv hs) ?_
   refine dn hs c ?_
   clear c
   exact rt h hs a g
 refine Au (fun e st=>∃ (b:Bool),Ck e st B Rw L [(2,true,.box B.length 0),(3,true,.box (B.length+1) 0),(27,true,.val (.bool b))] [a0.cs,a1.cs] [] (CC rec n a0 a1 b=some r)) ?_ ?_
 ·intro K18 j
  refine rg [2,3,10,27] hs ?_
  refine AK h hs (fun hs h=>?_) (fun hs h=>?_)
  ·refine sk [2,3,27] hs j ?_
   exact ⟨true,([]),Rw,ef hs,ef hs,g,h⟩
  refine rl [2,3,27] hs j ?_
  exact ⟨(decide (a1.kind=10)),([]),Rw,ef hs,ef hs,g,h⟩
 ·clear h;rintro e st ⟨b,Xk17,Rk17,rfl,rfl,g,h⟩
  rw [CC] at h
  refine td N G C a g ?_
  refine AK h hs (fun hs h=>?_) (fun hs h=>?_)
  ·obtain ⟨H,p,h⟩:=bind_some h
   refine rc 2 [4] hs ?_;intro K22 i
   refine Ai _ (B1 w0 n _ _ _ a0.fields 160 [.box (B.length+1) 0] (fun (w:Int × ByteArray × Int × Ty × List Vl)=>ED rec n w a1) (fun w r J V t u O=>by exact Re w0 rec ih n _ _ _ w _ a1 (DW u (ef hs)) _ J) _ p) (hv hs) ?_
   refine ne hs i ?_
   clear i
   exact rt h hs a g
  refine sk [] hs m ?_
  clear m
  refine rg [4] hs ?_
  exact rt h hs a g
theorem Oi (w0:World):∀ n:Nat,Lr w0 (Cj n)
 | 0=>fun _ _ _ _ _ _ h=>(nomatch h)
 | n+1=>QN w0 (Cj n) (Oi w0 n) n
def ND (rec:Ty→Ty→Option Bool) (n:Nat)  : Option Bool :=
 some (true)
def Ey (rec:Ty→Ty→Option Bool) (n:Nat) (s:Ty) (y:Ty):Nat→Int→Option Bool
 | 0,_=>none
 | m+1,b =>
  if decide (b<(s.fields.length:Int)) then
   (Ci s.fields b).bind fun h =>
   (Ez n y h.1).bind fun g =>
   if !g.2 then
    some (false)
   else
    (rec h.2.2.2.1 g.1.2.2.2.1).bind fun q =>
    if (!q)||((decide (h.2.2.1=2))&&(!(decide (g.1.2.2.1=2)))) then
     some (false)
    else
     if B2 (b+1) then
      (Ey rec n s y m) (b+1)
     else none
  else
   ND rec n 
def NG (rec:Ty→Ty→Option Bool) (n:Nat) (g:Ty) (b:Ty):Option Bool :=
 (GB n g b).bind fun y =>
 if !y then
  some (false)
 else
  if decide (b.kind=8) then
   if decide (g.max=0) then
    some (true)
   else
    (Ci g.elem 0).bind fun h =>
    (Ci b.elem 0).bind fun s =>
    (rec h s).bind fun q =>
    some (q)
  else
   if (!(decide (b.kind=9)))&&(!(decide (b.kind=10))) then
    some (true)
   else
    Ey rec n g b n 0
def Gw:Nat→Ty→Ty→Option Bool
 | 0,_,_=>none
 | n+1,g,b=>NG (Gw n) n g b
def Qy (w0:World) (F:Ty→Ty→Option Bool):Prop:=∀ (B:List (List AV)) (Rw:List RowA) (L:List LoopA) (g:Ty) (b:Ty) (r:Bool),F g b=some r→ACalls Tryz.prog w0 41 [.agg (g.cs),.agg (b.cs)] ⟨B,Rw,L⟩ fun x st=>x = .val (.bool r)∧st=⟨B,Rw,L⟩
theorem VT (w0:World) (rec:Ty→Ty→Option Bool) (ih:Qy w0 rec) (n:Nat):Qy w0 (NG rec n):=by
 intro B Rw L a0 a1 r h
 rw [NG] at h
 refine hd [.tmp 4] Tryz.func41 Tryz.ntmps41 fun M0 W0 hN K E a hu j hs=>?_
 simp only [As]
 refine rg [2,3] hs ?_
 apply Ah;intro K2 D
 obtain ⟨y4,U,h⟩:=bind_some h
 refine rc 2 [2,3,12] hs ?_;intro K3 J
 refine Ai _ (Xj w0 n _ _ _ a0 a1 _ U) (hv hs) ?_
 refine ne hs J ?_
 clear J
 refine AK h hs (fun hs h=>?_) (fun hs h=>?_)
 ·refine rg [4] hs ?_
  exact rt h hs a j
 refine sk [2,3] hs D ?_
 clear D
 apply Ah;intro K7 C
 refine rg [2,3,15] hs ?_
 refine AK h hs (fun hs h=>?_) (fun hs h=>?_)
 ·apply Ah;intro K10 g
  rcases Bool.eq_false_or_eq_true (decide (a0.max=0)) with hf11 | hf11
  ·replace h:=AY h hf11
   have hs:=Aa hf11 hs
   refine dk 15 2 1 [4] hs HD ?_
   refine F2 ?_
   refine dn hs g ?_
   clear g
   exact rt h hs a j
  ·replace h:=AZ h hf11
   obtain ⟨N,O,aa,l,h⟩:=ix HE h
   have v:(a0.elem.map HE).getD 0 .junk=_:=l
   obtain ⟨Z,Y,V,k,h⟩:=ix HE h
   have x:(a1.elem.map HE).getD 0 .junk=_:=k
   obtain ⟨ae,H,h⟩:=bind_some h
   have hs:=Aa hf11 hs
   have hs:=Aa l hs
   have hs:=Aa v hs
   have hs:=Aa k hs
   have hs:=Aa x hs
   refine dk 15 2 1 [4] hs HD ?_
   refine Ai _ (ih _ _ _ N Z _ H) (hv hs) ?_
   refine dn hs g ?_
   clear g
   exact rt h hs a j
 refine sk [2,3] hs C ?_
 clear C
 apply Ah;intro K15 t
 refine rg [2,3,37] hs ?_
 refine AK h hs (fun hs h=>?_) (fun hs h=>?_)
 ·refine rg [4] hs ?_
  exact rt h hs a j
 refine sk [2,3] hs t ?_
 clear t
 refine Au (fun e st=>Ck e st B Rw L [] [a0.cs,a1.cs] [] (ND rec n  = some r)) ?_ ?_
 ·intro K21 z
  refine rg [2,3,5] hs ?_
  apply Ak
  refine Az (fun m e st=>∃ (b:Int),Ck e st B Rw L [(2,true,.box B.length 0),(3,true,.box (B.length+1) 0),(5,true,.val (.int .i64 b))] [a0.cs,a1.cs] [] (Ey rec n a0 a1 m b=some r)) n ⟨0,([]),Rw,ef hs,ef hs,j,h⟩ ?_
  rintro ml23 e st ⟨b,Xl23,Rl23,rfl,rfl,j,h⟩ Ul23 Vl23
  cases ml23 with
  | zero=>cases h
  | succ ml23 =>
  rw [Ey] at h
  refine td hN K E a j ?_
  apply Ah;intro K24 q
  refine rg [2,3,5,42] hs ?_
  refine AK h hs (fun hs h=>?_) (fun hs h=>?_)
  rotate_left
  ·refine sx [] hs z ?_
   exact ⟨([]),Rl23,ef hs,ef hs,j,h⟩
  refine sk [2,3,5] hs q ?_
  clear q
  apply Ah;intro K27 p
  apply Ak
  obtain ⟨d,y,h⟩:=bind_some h
  obtain ⟨Q,ab,u⟩:=Aw y
  have w:=Ax (f:=CJ) u
  have hs:=Aa w hs
  refine rg [2,3,5,6] hs ?_
  obtain ⟨c,G,h⟩:=bind_some h
  refine rc 2 [2,3,5,6,7,8] hs ?_;intro K30 o
  refine Ai _ (Lm w0 n _ _ _ a1 d.1 _ G) (hv hs) ?_
  refine ne hs o ?_
  clear o
  apply Ah;intro K32 i
  rcases Bool.eq_false_or_eq_true (!c.2) with hf33 | hf33
  ·replace h:=AY h hf33
   have hs:=Aa hf33 hs
   refine rk 2 [2,3,5,76] hs ?_
   refine F2 ?_
   refine ne hs i ?_
   clear i
   refine A7 true ev (ef hs) (fun hb34=>?_) (fun hb34=>by cases hb34)
   refine rg [4] hs ?_
   exact rt h hs a j
  ·replace h:=AZ h hf33
   obtain ⟨af,F,h⟩:=bind_some h
   have hs:=Aa hf33 hs
   refine rk 2 [2,3,5,76] hs ?_
   refine Ai _ (ih _ _ _ d.2.2.2.1 c.1.2.2.2.1 _ F) (hv hs) ?_
   refine ne hs i ?_
   clear i
   refine AK h hs (fun hs h=>?_) (fun hs h=>?_)
   ·refine rg [4] hs ?_
    exact rt h hs a j
   refine sk [2,3,5] hs p ?_
   clear p
   obtain ⟨ad,h⟩:=Aj h
   refine rl [2,3,5] hs (fun e s=>Vl23 ml23 e s (Nat.lt_succ_self _)) ?_
   exact ⟨(b+1),([.val (.int .i64 d.1)::(.val (.string d.2.1)::(.val (.int .i64 d.2.2.1)::((d.2.2.2.1.cs)++([.list (d.2.2.2.2.map Bq) .none])))),.val (.int .i64 c.1.1)::(.val (.string c.1.2.1)::(.val (.int .i64 c.1.2.2.1)::((c.1.2.2.2.1.cs)++([.list (c.1.2.2.2.2.map Bq) .none]))))]),Rl23,ef hs,ef hs,j,h⟩
 ·clear h;rintro e st ⟨Xk20,Rk20,rfl,rfl,j,h⟩
  rw [ND] at h
  refine td hN K E a j ?_
  refine rg [4] hs ?_
  exact rt h hs a j
theorem Ta (w0:World):∀ n:Nat,Qy w0 (Gw n)
 | 0=>fun _ _ _ _ _ _ h=>(nomatch h)
 | n+1=>VT w0 (Gw n) (Ta w0 n) n
def XU (f:Ty→Ty→Bool) (b:Ty) (p:TF):Bool:=match D1 b.fields p.1 with | none=>false | some g=>f p.2.2.2.1 g.2.2.2.1 && !(decide (p.2.2.1=2) && !decide (g.2.2.1=2))
def J7:Nat→Ty→Ty→Bool
 | 0,_,_=>false
 | d+1,a,b=>MU (d+1) a b &&
  (if b.kind=8 then (decide (a.max=0)||(match a.elem,b.elem with | [x],[y]=>J7 d x y | _,_=>false))
  else if b.kind=9∨b.kind=10 then a.fields.all (XU (J7 d) b)
  else true)
theorem WG (rec:Ty→Ty→Option Bool) (f:Ty→Ty→Bool) (n:Nat) (a b:Ty) (la:a.fields.length≤1000000) (lb:b.fields.length≤1000000) (hn:1048580<n) (hr:∀ p∈a.fields,∀ g,D1 b.fields p.1=some g→rec p.2.2.2.1 g.2.2.2.1=some (f p.2.2.2.1 g.2.2.2.1)):∀ (k m i:Nat),i+k=a.fields.length→k<m →
  Ey rec n a b m i=some ((a.fields.drop i).all (XU f b))
 | k,0,i,_,h=>absurd h (Nat.not_lt_zero _)
 | 0,m+1,i,hi,_=>by
  rw [Ey,Av,Ac (by omega),Af (by decide),List.drop_eq_nil_of_le (by omega),List.all_nil];rfl
 | k+1,m+1,i,hi,hm=>by
  have d:i<a.fields.length:=by omega
  have j:=List.getElem_mem d
  have ih:=WG rec f n a b la lb hn hr k m (i+1) (by omega) (by omega)
  rw [Ey,Av,Ad d,Ae rfl,AD d,Ab,JD n b _ (by omega) (by omega),Ab,List.drop_eq_getElem_cons d,List.all_cons,XU]
  cases q:D1 b.fields a.fields[i].1 with
  | none=>rw [Ae (by rfl)];rfl
  | some g =>
   rw [Af (by simp),Option.getD_some,hr _ j g q,Ab]
   simp only
   cases hf:f a.fields[i].2.2.2.1 g.2.2.2.1 with
   | false=>rw [Ae (by rfl)];simp
   | true =>
    by_cases c:a.fields[i].2.2.1=2∧¬ g.2.2.1=2
    ·rw [Ad c.1,Ac c.2,Ae (by rfl)];simp
    ·have e:(decide (a.fields[i].2.2.1=2) && !decide (g.2.2.1=2))=false:=by
      rw [Bool.eq_false_iff];intro z;rw [Bool.and_eq_true,decide_eq_true_eq,Bool.not_eq_true',decide_eq_false_iff_not] at z;exact c z
     rw [e,Af (by decide),Ae (AA (by omega))]
     refine (show Ey rec n a b m ((i:Int)+1)=_ from ih).trans ?_
     simp
theorem X0:∀ (d n:Nat) (a b:Ty),a.small→b.small→a.Good→b.Good→a.depth≤d→d+3000000<n→Cj n a b=some (J7 d a b)∧Gw n a b=some (J7 d a b)
 | 0,n,a,b,_,_,_,_,h,_=>by have:=a.depth_eq;omega
 | d+1,0,a,b,_,_,_,_,_,h=>absurd h (by omega)
 | d+1,n+1,a,b,sa,sb,ga,gb,hd,hn=>by
  have v:=ga.own
  have u:=gb.own
  have N:=a.lens
  have K:=b.lens
  have G:=sa.1
  have w:=sb.1
  obtain ⟨E,H⟩:=Xy (d+1) n a b sa sb ga gb hd (by omega)
  rw [Cj,IP,Gw,NG,J7,E,H,Ab,Ab]
  cases hc:MU (d+1) a b with
  | false=>exact ⟨rfl,rfl⟩
  | true =>
   have ne:(a.kind=b.kind)∨((a.kind=2∨a.kind=3)∧(b.kind=2∨b.kind=3)):=by
    rw [MU] at hc
    by_cases num:(a.kind=2∨a.kind=3)∧(b.kind=2∨b.kind=3)
    ·exact .inr num
    ·rw [Af num] at hc
     by_cases q:a.kind=b.kind
     ·exact .inl q
     ·rw [Ae q] at hc;cases hc
   rw [Af (show ¬ ((!true)=true) by decide),Af (show ¬ ((!true)=true) by decide),Bool.true_and]
   by_cases k8:b.kind=8
   ·obtain ⟨x,s⟩:=v.elem (by omega)
    obtain ⟨y,t⟩:=u.elem k8
    have c:x∈a.elem:=by rw [s];simp
    have f:y∈b.elem:=by rw [t];simp
    obtain ⟨F,C⟩:=X0 d n x y (Ty.small_elem sa c) (Ty.small_elem sb f) (Dh ga c) (Dh gb f) (by have:=Ty.depth_elem c;omega) (by omega)
    rw [Ae k8,Ad k8,Ae rfl,Ae rfl,s,t,show Ci [x] 0=some x from rfl,show Ci [y] 0=some y from rfl,Ab,Ab,Ab,Ab,F,C]
    by_cases z:a.max=0
    ·rw [Ad z];exact ⟨rfl,rfl⟩
    ·rw [Ac z];exact ⟨rfl,rfl⟩
   rw [Af k8,Ac k8,Af (show ¬ (false=true) by decide),Af (show ¬ (false=true) by decide)]
   by_cases k:b.kind=9∨b.kind=10
   ·have ih:∀ p∈a.fields,∀ g,D1 b.fields p.1=some g→Cj n p.2.2.2.1 g.2.2.2.1=some (J7 d p.2.2.2.1 g.2.2.2.1)∧Gw n p.2.2.2.1 g.2.2.2.1=some (J7 d p.2.2.2.1 g.2.2.2.1):=fun p e g m=>by
     have i:g∈b.fields:=List.mem_of_find?_eq_some m
     exact X0 d n _ _ (Ty.small_field sa e) (Ty.small_field sb i) (AN ga e) (AN gb i) (by have:=Ty.depth_field e;omega) (by omega)
    have J:=Ks n a.fields (fun D=>ED (Cj n) n D b) (fun p => !XU (J7 d) b p) (fun p e=>by
     rw [ED,Ru n b.fields _ (by omega) (by omega),Ab,XU]
     cases q:D1 b.fields p.1 with
     | none=>rfl
     | some g=>rw [Af (by simp),Option.getD_some,(ih p e g q).1,Ab];simp only;cases J7 d p.2.2.2.1 g.2.2.2.1<;>cases decide (p.2.2.1=2)<;>cases decide (g.2.2.1=2)<;>rfl) (by omega) (by omega)
    have o:=WG (Gw n) (J7 d) n a b (by omega) (by omega) (by omega) (fun p e g m=>(ih p e g m).2) a.fields.length n 0 (by omega) (by omega)
    rw [List.drop_zero] at o
    have j:Ey (Gw n) n a b n 0=_:=o
    have l:(if decide (b.kind=9)=true then CC (Cj n) n a b true else CC (Cj n) n a b (decide (b.kind=10)))=CC (Cj n) n a b true:=by
     rcases k with q | q
     ·rw [Ad q,Ae rfl]
     ·rw [Ad q];exact ite_self _
    have r:((!decide (b.kind=9)) && !decide (b.kind=10))=false:=by
     rcases k with q | q
     ·rw [Ad q];rfl
     ·rw [Ad q,Bool.not_true,Bool.and_false]
    rw [Ae k,l,CC,Ae rfl,J,Ab,r,Af (by decide),j,Xq]
    exact ⟨rfl,rfl⟩
   ·have r:((!decide (b.kind=9)) && !decide (b.kind=10))=true:=by
     rw [Ac (fun q=>k (.inl q)),Ac (fun q=>k (.inr q))];rfl
    rw [Af k,Ac (fun q=>k (.inl q)),Af (by decide),Ac (fun q=>k (.inr q)),CC,Af (by decide)]
    refine ⟨rfl,?_⟩
    rfl
def Wc:Nat→Int
 | 0=>1
 | k+1=>10*Wc k
theorem ZbB:∀ k,1≤Wc k
 | 0=>by decide
 | k+1=>by have:=ZbB k;rw [Wc];omega
theorem Zbl (x:Int) (k:Nat):x*Wc (k+1)=x*10*Wc k:=by rw [Wc,Int.mul_assoc]
theorem Zbz:∀ (k:Nat) (x m:Int),XA k x=some m→m=x*Wc k
 | 0,x,m,h=>by rw [XA] at h;cases h;rw [Wc,Int.mul_one]
 | k+1,x,m,h=>by
  rw [XA] at h
  split at h
  ·rw [Zbz k _ _ h,Zbl]
  ·cases h
theorem ZbH:∀ (k:Nat) (x:Int),dnN k (x*Wc k)=some x
 | 0,x=>by rw [dnN,Wc,Int.mul_one]
 | k+1,x=>by
  have e:x*Wc (k+1)=10*(x*Wc k):=by rw [Wc,←Int.mul_assoc,Int.mul_comm x 10,Int.mul_assoc]
  rw [dnN,e,Ae (Int.mul_tmod_right _ _),Int.mul_tdiv_cancel_left _ (by decide)]
  exact ZbH k x
theorem ZbF:∀ (k:Nat) (x m:Int),dnN k x=some m→x=m*Wc k
 | 0,x,m,h=>by rw [dnN] at h;cases h;rw [Wc,Int.mul_one]
 | k+1,x,m,h=>by
  rw [dnN] at h
  split at h
  ·rename_i c
   have b:=ZbF k _ _ h
   have a:=Int.mul_tdiv_add_tmod x 10
   rw [c,Int.add_zero,b] at a
   rw [←a,Wc,←Int.mul_assoc,←Int.mul_assoc,Int.mul_comm m 10]
  ·cases h
theorem ZhL {y c B:Int} (hc:1≤c) (hB:0≤B) (h1 : -B≤y*c) (h2:y*c≤B) : -B≤y∧y≤B:=by
 rcases Int.le_total 0 y with q | q
 ·have:=Int.mul_nonneg q (show 0≤c-1 by omega)
  rw [Int.mul_sub,Int.mul_one] at this
  omega
 ·have:=Int.mul_nonneg (show 0 ≤ -y by omega) (show 0≤c-1 by omega)
  rw [Int.mul_sub,Int.mul_one,Int.neg_mul] at this
  omega
theorem ZdZ:∀ (k:Nat) (m:Int),-999999999999999≤m*Wc k→m*Wc k≤999999999999999→XA k m=some (m*Wc k)
 | 0,m,_,_=>by rw [XA,Wc,Int.mul_one]
 | k+1,m,h1,h2=>by
  rw [Zbl] at h1 h2 ⊢
  obtain ⟨a,b⟩:=ZhL (ZbB k) (by decide) h1 h2
  rw [XA,Ae ⟨a,b⟩]
  exact ZdZ k (m*10) h1 h2
theorem Zck {x a b m:Int} (h1 : -999999999999999≤x) (h2:x≤999999999999999) (h:JI x a b=some m):JI m b a=some x:=by
 rw [JI] at h ⊢
 by_cases c:a≤b
 ·rw [Ae c] at h
  have e:=Zbz _ _ _ h
  by_cases d:b≤a
  ·rw [Ae d,show (a-b).toNat=0 by omega,XA]
   rw [show (b-a).toNat=0 by omega,Wc,Int.mul_one] at e
   rw [e]
  ·rw [Af d,e]
   exact ZbH _ _
 ·rw [Af c] at h
  have e:=ZbF _ _ _ h
  rw [Ae (show b≤a by omega),e]
  exact ZdZ _ _ (by rw [←e];exact h1) (by rw [←e];exact h2)
theorem QB (k:Int):∀ (l b:List TF),HG k b l=0→(l.map fun p=>p.1).Nodup∧∀ p∈l,∀ q∈b,q.1≠p.1
 | [],_,_=>⟨.nil,by simp⟩
 | x::r,b,h=>by
  rw [HG] at h
  by_cases q:J8 k b x=0
  rotate_left
  ·rw [Af q] at h;exact absurd h q
  rw [Ae q] at h
  obtain ⟨g,c⟩:=QB k r (b++[x]) h
  have f:∀ y∈b,y.1≠x.1:=by
   intro y a e
   unfold J8 at q
   by_cases c1:EU x.2.1=true
   ·rw [Ae c1] at q
    by_cases c2:¬ (1≤x.1∧x.1≤9999)
    ·rw [Ae c2] at q;exact absurd q (by decide)
    rw [Af c2,Ae (List.any_eq_true.2 ⟨y,a,by rw [Ed,Ad e];simp⟩)] at q
    exact absurd q (by decide)
   ·rw [Af c1] at q;exact absurd q (by decide)
  refine ⟨List.nodup_cons.2 ⟨fun d=>?_,g⟩,fun p hp y a=>?_⟩
  ·obtain ⟨p,hp,e⟩:=List.mem_map.1 d
   exact c p hp x (by simp) e.symm
  ·rcases List.mem_cons.1 hp with rfl | hp
   ·exact f y a
   ·exact c p hp y (by simp [a])
theorem Lq {l:List TF} (h:(l.map fun p=>p.1).Nodup) {p:TF} (hp:p∈l):D1 l p.1=some p:=by
 rw [D1]
 cases c:l.find? (fun x=>decide (x.1=p.1)) with
 | none =>
  rw [List.find?_eq_none] at c
  exact absurd (Ad rfl) (c p hp)
 | some z =>
  have e:=List.mem_of_find?_eq_some c
  have d:z.1=p.1:=of_decide_eq_true (List.find?_some (p:=fun x:TF=>decide (x.1=p.1)) c)
  obtain ⟨i,b,rfl⟩:=List.mem_iff_getElem.1 e
  obtain ⟨j,a,rfl⟩:=List.mem_iff_getElem.1 hp
  rcases Nat.lt_trichotomy i j with w | w | w
  ·exact absurd d (by have:=List.pairwise_iff_getElem.1 h i j (by simpa using b) (by simpa using a) w;simpa using this)
  ·subst w;rfl
  ·exact absurd d.symm (by have:=List.pairwise_iff_getElem.1 h j i (by simpa using a) (by simpa using b) w;simpa using this)
theorem OD {l:List TF} {k:Int} {p:TF} (h:D1 l k=some p):p∈l∧p.1=k:=⟨List.mem_of_find?_eq_some h,of_decide_eq_true (List.find?_some (p:=fun x:TF=>decide (x.1=k)) h)⟩
theorem Xg (f g:Vl→Option Vl):∀ (l m:List Vl),J1 f l=some m→(∀ v∈l,∀ u,f v=some u→g u=some v)→J1 g m=some l
 | [],m,h,_=>by rw [J1] at h;cases h;rfl
 | v::r,m,h,k=>by
  rw [J1] at h
  obtain ⟨y,c,h⟩:=Option.bind_eq_some_iff.1 h
  obtain ⟨l,b,rfl⟩:=Option.map_eq_some_iff.1 h
  rw [J1,k v (List.mem_cons_self ..) y c,Ab,Xg f g r l b fun u a=>k u (List.mem_cons_of_mem _ a)];rfl
theorem CM {v:Vl} (i s t l f:Bool) (h:bare i s t l f v=true):(i=false→v.int=0)∧(s=false→v.scale=0)∧(t=false→v.text=⟨#[]⟩)∧(l=false→v.list=[])∧(f=false→v.fields=[]):=by
 simp only [bare,Bool.and_eq_true,Bool.or_eq_true,decide_eq_true_eq,D5] at h
 obtain ⟨⟨⟨⟨h1,h2⟩,h3⟩,h4⟩,h5⟩:=h
 refine ⟨fun q=>?_,fun q=>?_,fun q=>?_,fun q=>?_,fun q=>?_⟩
 ·subst q;rcases h1 with h | h;cases h;exact h
 ·subst q;rcases h2 with h | h;cases h;exact h
 ·subst q;rcases h3 with h | h;cases h;exact h
 ·subst q;rcases h4 with h | h;cases h;exact List.length_eq_zero_iff.1 h
 ·subst q;rcases h5 with h | h;cases h;exact List.length_eq_zero_iff.1 h
theorem ZbA {v:Vl} {k i s:Int} {t:ByteArray} {l:List Vl} {f:List (ByteArray × Vl)} (h1:k=v.kind) (h2:i=v.int) (h3:s=v.scale) (h4:t=v.text) (h5:l=v.list) (h6:f=v.fields):Vl.mk k i s t l f=v:=by
 subst h1 h2 h3 h4 h5 h6;exact v.eta
theorem Wp (f:Ty→Ty→Vl→Option Vl) (a:Ty) (v:Vl) (h:TF→List (ByteArray × Vl)):∀ gs:List TF,(∀ g∈gs,JB f a v g=some (h g))→MG f a v gs=some (gs.flatMap h)
 | [],_=>rfl
 | g::r,k=>by
  rw [MG,k g (List.mem_cons_self ..),Ab,Wp f a v h r fun u b=>k u (List.mem_cons_of_mem _ b),List.flatMap_cons];rfl
def Zb5 (w:Vl) (p:TF):List (ByteArray × Vl):=match B9 w p.2.1 with | some x=>[(p.2.1,x)] | none=>[]
theorem Zdm {f:Ty→Ty→Vl→Option Vl} {a b:Ty} {u w:Vl} (na:(a.fields.map fun p=>p.2.1).Nodup) (ws:SS w.fields) (hf:∀ q∈w.fields,(A5 a q.1).isSome=true) (hrec:MG f b u a.fields=some (a.fields.flatMap (Zb5 w))):Bz (a.fields.flatMap (Zb5 w))=w.fields:=by
 obtain ⟨k,r,o⟩:=Nb _ _ _ _ _ hrec
 have i:=na.sublist k
 refine R9 _ _ ((Gt _).trans ?_) (Nn _ i) ws
 refine (List.perm_ext_iff_of_nodup (List.Pairwise.of_map Prod.fst (fun x y h e=>h (congrArg Prod.fst e)) i) (ws.imp fun {x y} h e=>by rw [e,I7] at h;omega)).2 fun q=>⟨fun d=>?_,fun d=>?_⟩
 ·obtain ⟨p,g,d⟩:=List.mem_flatMap.1 d
  rw [Zb5] at d
  cases c:B9 w p.2.1 with
  | none=>rw [c] at d;simp at d
  | some x =>
   rw [c] at d
   obtain rfl:q=(p.2.1,x):=by simpa using d
   obtain ⟨z,n,l,m⟩:=H6 c
   rw [←l,←m];exact n
 ·have:=hf q d
  cases c:A5 a q.1 with
  | none=>rw [c] at this;cases this
  | some p =>
   obtain ⟨g,j⟩:=Bg c
   refine List.mem_flatMap.2 ⟨p,g,?_⟩
   rw [Zb5,j,H4 ws d]
   simp
theorem TT:∀ (d e:Nat) (a b:Ty) (w y:Vl),a.Good→b.Good→b.depth≤e→J7 d a b=true→Dp d a w=true→O9 d a b w=some y→O9 e b a y=some w
 | 0,e,a,b,w,y,_,_,_,_,h,_=>by simp [Dp] at h
 | d+1,0,a,b,w,y,_,_,hd,_,_,_=>by have:=b.depth_eq;omega
 | d+1,e+1,a,b,w,y,ga,gb,hd,r,j,hu=>by
  have F:=ga.own
  have ob:=gb.own
  have k1:=ob.kind
  obtain ⟨wk,_,_,i⟩:=JL j
  have c0:=J3 (t:=a) (v:=w) (by have:=F.kind;omega) wk i
  rw [Dp,Af c0] at j
  rw [O9] at hu
  rw [J7,Bool.and_eq_true] at r
  obtain ⟨_,r⟩:=r
  rw [O9]
  by_cases num:(a.kind=2∨a.kind=3)∧(b.kind=2∨b.kind=3)
  ·rw [Ae num] at hu
   obtain ⟨m,hm,hu⟩:=Option.bind_eq_some_iff.1 hu
   by_cases hb:JX m b=true
   ·rw [Ae hb] at hu
    cases hu
    have hx:JX w.int a=true∧w.scale=a.scale:=by
     rcases num.1 with q | q
     ·rw [Ae (.inl q)] at j
      rw [AB,Af (by omega),Ae (by omega)] at i
      exact ⟨j,by rw [(CM _ _ _ _ _ i).2.1 rfl,F.noscale (by omega)]⟩
     ·rw [Af (by omega),Ae q,Bool.and_eq_true,decide_eq_true_eq] at j
      exact ⟨j.2,j.1⟩
    have k:w.text=⟨#[]⟩∧w.list=[]∧w.fields=[]:=by
     rcases num.1 with q | q
     ·rw [AB,Af (by omega),Ae (by omega)] at i
      obtain ⟨_,_,G,Q,J⟩:=CM _ _ _ _ _ i
      exact ⟨G rfl,Q rfl,J rfl⟩
     ·rw [AB,Af (by omega),Af (by omega),Ae (by omega)] at i
      obtain ⟨_,_,G,Q,J⟩:=CM _ _ _ _ _ i
      exact ⟨G rfl,Q rfl,J rfl⟩
    have li:=Q8 F num.1
    have bi:=GW.1 hx.1
    rw [Ae ⟨num.2,num.1⟩]
    show ((JI m b.scale a.scale).bind fun m=>if JX m a=true then some (Vl.mk a.kind m a.scale ⟨#[]⟩ [] []) else none)=some w
    rw [Zck (by omega) (by omega) hm,Ab,Ae hx.1]
    exact congrArg some (ZbA wk.symm rfl hx.2.symm k.1.symm k.2.1.symm k.2.2.symm)
   ·rw [Af hb] at hu;cases hu
  have V:¬ ((b.kind=2∨b.kind=3)∧(a.kind=2∨a.kind=3)):=fun q=>num ⟨q.2,q.1⟩
  rw [Af num] at hu
  rw [Af V]
  by_cases ne:a.kind=b.kind
  rotate_left
  ·rw [Ae ne] at hu;cases hu
  rw [Af (fun q=>q ne)] at hu
  rw [Af (fun q=>q ne.symm)]
  have n2:b.kind≠2:=fun q=>num ⟨.inl (by omega),.inl q⟩
  have n3:b.kind≠3:=fun q=>num ⟨.inr (by omega),.inr q⟩
  by_cases k67:b.kind=6∨b.kind=7
  ·rw [Ae k67] at hu
   rw [Ae (by omega)] at j
   by_cases hb:JX w.int b=true
   ·rw [Ae hb] at hu;cases hu
    rw [Ae (show a.kind=6∨a.kind=7 by omega),Ae j]
   ·rw [Af hb] at hu;cases hu
  rw [Af k67] at hu
  rw [Af (show ¬ (a.kind=6∨a.kind=7) by omega)]
  by_cases k5:b.kind=5
  ·rw [Ae k5] at hu
   rw [Af (by omega),Af (by omega),Af (by omega),Ae (by omega)] at j
   by_cases hb:JX w.text.size b=true
   ·rw [Ae hb] at hu;cases hu
    rw [Ae (show a.kind=5 by omega),Ae j]
   ·rw [Af hb] at hu;cases hu
  rw [Af k5] at hu
  rw [Af (show ¬ a.kind=5 by omega)]
  by_cases k4:b.kind=4
  ·rw [Ae k4] at hu
   rw [Af (by omega),Af (by omega),Ae (by omega)] at j
   by_cases hb:GA w.text b=true
   ·rw [Ae hb] at hu;cases hu
    rw [Ae (show a.kind=4 by omega),Ae j]
   ·rw [Af hb] at hu;cases hu
  rw [Af k4] at hu
  rw [Af (show ¬ a.kind=4 by omega)]
  by_cases k8:b.kind=8
  ·obtain ⟨x,hx⟩:=F.elem (by omega)
   obtain ⟨x',C⟩:=ob.elem k8
   have af:x∈a.elem:=by rw [hx];simp
   have D:x'∈b.elem:=by rw [C];simp
   rw [Ae k8,hx,C] at hu
   rw [Ae k8,hx,C,Bool.or_eq_true,decide_eq_true_eq] at r
   obtain ⟨l,hl,hu⟩:=Option.bind_eq_some_iff.1 hu
   rw [Af (by omega),Af (by omega),Af (by omega),Af (by omega),Ae (by omega),Bool.and_eq_true,List.all_eq_true] at j
   by_cases hb:JX w.list.length b=true
   ·rw [Ae hb] at hu;cases hu
    have aa:=(RQ _ _ _ hl).1
    have n:J1 (O9 e x' x) l=some w.list:=Xg _ _ _ _ hl fun v hv u hu=>by
     rcases r with z | z
     ·have:=GW.1 j.1
      have l0:w.list=[]:=List.length_eq_zero_iff.1 (by omega)
      rw [l0] at hv;simp at hv
     ·have:=j.2 v hv
      rw [hx] at this
      exact TT d e x x' v u (Dh ga af) (Dh gb D) (by have:=Ty.depth_elem D;omega) z this hu
    rw [AB,Af (by omega),Af (by omega),Af (by omega),Af (by omega),Af (by omega),Ae (by omega)] at i
    obtain ⟨U,Z,G,_,J⟩:=CM _ _ _ _ _ i
    rw [Ae (show a.kind=8 by omega),hx,C]
    show ((J1 (O9 e x' x) l).bind fun m=>if JX (l.length:Int) a=true then some (Vl.mk 8 0 0 ⟨#[]⟩ m []) else none)=some w
    rw [n,Ab,aa,Ae j.1]
    exact congrArg some (ZbA (by omega) (U rfl).symm (Z rfl).symm (G rfl).symm rfl (J rfl).symm)
   ·rw [Af hb] at hu;cases hu
  rw [Af k8] at hu r
  rw [Af (show ¬ a.kind=8 by omega)]
  by_cases k9:b.kind=9
  ·rw [Ae k9] at hu
   rw [Ae (.inl k9),List.all_eq_true] at r
   obtain ⟨l,hl,rfl⟩:=Option.map_eq_some_iff.1 hu
   obtain ⟨s1,s2,s3⟩:=Nb _ _ _ _ _ hl
   have nb:=(FU _ _ _ ob.apart).1
   have na:=(FU _ _ _ F.apart).1
   have ma:=(QB _ _ _ F.apart).1
   have ss:=Nn l (nb.sublist s1)
   have ws:=KF i (by omega)
   rw [Af (by omega),Af (by omega),Af (by omega),Af (by omega),Af (by omega),Ae (by omega),Bool.and_eq_true,List.all_eq_true,List.all_eq_true] at j
   have O:∀ q,q∈Bz l↔q∈l:=fun q=>(Gt l).mem_iff
   have Y:∀ p∈a.fields,JB (O9 e) b (Vl.mk 9 0 0 ⟨#[]⟩ [] (Bz l)) p=some (Zb5 w p):=fun p hp=>by
    have hkp:=r p hp
    rw [XU] at hkp
    cases hg:D1 b.fields p.1 with
    | none=>rw [hg] at hkp;cases hkp
    | some g =>
     rw [hg] at hkp
     simp only [Bool.and_eq_true,Bool.not_eq_true',Bool.and_eq_false_iff,decide_eq_false_iff_not,Bool.not_eq_false',decide_eq_true_eq] at hkp
     obtain ⟨gm,gn⟩:=OD hg
     have N:D1 a.fields g.1=some p:=by rw [gn];exact Lq ma hp
     obtain ⟨o,ho,ad⟩:=s2 g gm
     have s:=j.1 p hp
     rw [JB,hg,Zb5]
     cases hx:B9 w p.2.1 with
     | some x =>
      rw [hx] at s
      have ho':=ho
      rw [JB,N] at ho'
      simp only [hx] at ho'
      obtain ⟨y1,aj,rfl⟩:=Option.map_eq_some_iff.1 ho'
      have hv:B9 (Vl.mk 9 0 0 ⟨#[]⟩ [] (Bz l)) g.2.1=some y1:=H4 (v:=Vl.mk 9 0 0 ⟨#[]⟩ [] (Bz l)) ss (q:=(g.2.1,y1)) ((O _).2 (ad _ (by simp)))
      have:=TT d e p.2.2.2.1 g.2.2.2.1 x y1 (AN ga hp) (AN gb gm) (by have:=Ty.depth_field gm;omega) hkp.1 s aj
      simp only [hv,this];rfl
     | none =>
      rw [hx] at s
      have p2:p.2.2.1=2:=of_decide_eq_true s
      have g2:g.2.2.1=2:=by
       rcases hkp.2 with z | z
       ·exact absurd p2 z
       ·exact z
      have ho':=ho
      rw [JB,N] at ho'
      simp only [hx] at ho'
      rw [TA,Af (by omega),Af (by omega)] at ho'
      cases ho'
      have hv:B9 (Vl.mk 9 0 0 ⟨#[]⟩ [] (Bz l)) g.2.1=none:=by
       cases c:B9 (Vl.mk 9 0 0 ⟨#[]⟩ [] (Bz l)) g.2.1 with
       | none=>rfl
       | some y =>
        obtain ⟨q,hq,e1,_⟩:=H6 c
        obtain ⟨g',ag,o',ho',hq'⟩:=s3 q ((O q).1 hq)
        have hn:o'.map Prod.fst=[g'.2.1]:=by
         rcases NU ho' with h | h
         ·exact h
         ·subst h;simp at hq'
        have e2:q.1=g'.2.1:=by
         have h:=List.mem_map_of_mem (f:=Prod.fst) hq'
         rw [hn,List.mem_singleton] at h
         exact h
        have:g'=g:=SD nb ag gm (by rw [←e2,e1])
        subst this
        rw [ho] at ho'
        cases ho'
        simp at hq'
      simp only [hv]
      rw [TA,Af (by omega),Af (by omega)]
   have E:=Wp (O9 e) b (Vl.mk 9 0 0 ⟨#[]⟩ [] (Bz l)) _ a.fields Y
   rw [AB,Af (by omega),Af (by omega),Af (by omega),Af (by omega),Af (by omega),Af (by omega),Ae (by omega),Bool.and_eq_true] at i
   obtain ⟨U,Z,G,Q,_⟩:=CM _ _ _ _ _ i.2
   rw [Ae (show a.kind=9 by omega),E,Option.map_some,Zdm na ws j.2 E]
   exact congrArg some (ZbA (by omega) (U rfl).symm (Z rfl).symm (G rfl).symm (Q rfl).symm rfl)
  rw [Af k9] at hu
  rw [Af (show ¬ a.kind=9 by omega)]
  by_cases k10:b.kind=10
  ·rw [Ae k10] at hu
   rw [Ae (.inr k10),List.all_eq_true] at r
   rw [Af (by omega),Af (by omega),Af (by omega),Af (by omega),Af (by omega),Af (by omega),Ae (by omega)] at j
   have ma:=(QB _ _ _ F.apart).1
   cases c:A5 a w.text with
   | none=>rw [c] at hu;simp at hu
   | some p =>
    cases hl:w.list with
    | nil=>rw [c,hl] at hu;simp at hu
    | cons x xs =>
     rw [c,hl] at hu j
     simp only at hu
     have j:Dp d p.2.2.2.1 x=true:=j
     obtain ⟨H,ae⟩:=Bg c
     have hkp:=r p H
     cases g:D1 b.fields p.1 with
     | none=>rw [g] at hu;cases hu
     | some q =>
      rw [g] at hu
      rw [XU,g] at hkp
      simp only [Bool.and_eq_true] at hkp
      obtain ⟨K,ai⟩:=OD g
      obtain ⟨u,ah,rfl⟩:=Option.map_eq_some_iff.1 hu
      have n:=TT d e _ _ x u (AN ga H) (AN gb K) (by have:=Ty.depth_field K;omega) hkp.1 j ah
      have fq:A5 b q.2.1=some q:=Ny (FU _ _ _ ob.apart).1 K
      have np:D1 a.fields q.1=some p:=by rw [ai];exact Lq ma H
      have one:=Jf i (by omega)
      have ab:xs=[]:=by rw [hl] at one;simpa using one
      rw [AB,Af (by omega),Af (by omega),Af (by omega),Af (by omega),Af (by omega),Af (by omega),Af (by omega),Ae (by omega),Bool.and_eq_true] at i
      obtain ⟨U,Z,_,_,J⟩:=CM _ _ _ _ _ i.2
      rw [Ae (show a.kind=10 by omega)]
      show (match A5 b q.2.1,[u] with | some p,x::_=>(match D1 a.fields p.1 with | some g=>(O9 e p.2.2.2.1 g.2.2.2.1 x).map fun y=>Vl.mk 10 0 0 g.2.1 [y] [] | none=>none) | _,_=>none)=some w
      rw [fq]
      simp only [np,n,Option.map_some]
      exact congrArg some (ZbA (by omega) (U rfl).symm (Z rfl).symm ae (by rw [hl,ab]) (J rfl).symm)
  ·rw [Af k10] at hu
   cases hu
   rw [Af (show ¬ a.kind=10 by omega)]
theorem XI {α:Type} (f:α→Nat):∀ (xs ys:List α),xs.Nodup→(∀ x∈xs,x∈ys)→(xs.map f).sum≤(ys.map f).sum
 | [],ys,_,_=>by simp
 | x::xs,ys,hn,h=>by
  obtain ⟨s,t,rfl⟩:=List.append_of_mem (h x (List.mem_cons_self ..))
  rw [List.nodup_cons] at hn
  have:=XI f xs (s++t) hn.2 fun z a=>by
   have b:=h z (List.mem_cons_of_mem _ a)
   rcases List.mem_append.1 b with q | q
   ·exact List.mem_append_left _ q
   ·rcases List.mem_cons.1 q with rfl | q
    ·exact absurd a hn.1
    ·exact List.mem_append_right _ q
  simp only [List.map_append,List.sum_append,List.map_cons,List.sum_cons] at this ⊢
  omega
theorem PI:∀ (d:Nat) (t:Ty) (v:Vl),Dp d t v=true→v.depth≤t.depth
 | 0,t,v,h=>by simp [Dp] at h
 | d+1,t,v,hf=>by
  obtain ⟨z,H,C,a⟩:=JL hf
  have F:=J3 ⟨H,C⟩ z a
  have J:=t.depth_eq
  have f:=v.depth_eq
  rw [Dp,Af F] at hf
  have flat:v.list=[]→v.fields=[]→v.depth≤t.depth:=fun e g=>by rw [f,e,g,J,Ft,Fo];omega
  by_cases k8:t.kind=8
  ·rw [Af (by omega),Af (by omega),Af (by omega),Af (by omega),Ae k8,Bool.and_eq_true,List.all_eq_true] at hf
   rw [AB,Af (by omega),Af (by omega),Af (by omega),Af (by omega),Af (by omega),Ae (by omega)] at a
   have b:=(CM _ _ _ _ _ a).2.2.2.2 rfl
   have:=(Ho v.list (t.depth-1)).2 fun u K=>by
    have:=hf.2 u K
    cases he:t.elem with
    | nil=>rw [he] at this;cases this
    | cons x r =>
     cases r with
     | nil =>
      rw [he] at this
      have e:=PI d x u this
      have g:=Ty.depth_elem (t:=t) (x:=x) (by rw [he];simp)
      omega
     | cons y r=>rw [he] at this;cases this
   rw [f,b,Fo];omega
  by_cases k9:t.kind=9
  ·rw [Af (by omega),Af (by omega),Af (by omega),Af (by omega),Af k8,Ae k9,Bool.and_eq_true,List.all_eq_true,List.all_eq_true] at hf
   have D:=KF a (by omega)
   rw [AB,Af (by omega),Af (by omega),Af (by omega),Af (by omega),Af (by omega),Af (by omega),Ae (by omega),Bool.and_eq_true] at a
   have k:=(CM _ _ _ _ _ a.2).2.2.2.1 rfl
   have:=(Ia v.fields (t.depth-1)).2 fun q n=>by
    have:=hf.2 q n
    cases c:A5 t q.1 with
    | none=>rw [c] at this;cases this
    | some p =>
     obtain ⟨m,w⟩:=Bg c
     have e:=hf.1 p m
     rw [w,H4 D n] at e
     have g:=PI d _ _ e
     have E:=Ty.depth_field m
     omega
   rw [f,k,Ft];omega
  by_cases k10:t.kind=10
  ·rw [Af (by omega),Af (by omega),Af (by omega),Af (by omega),Af k8,Af k9,Ae k10] at hf
   have one:=Jf a (by omega)
   rw [AB,Af (by omega),Af (by omega),Af (by omega),Af (by omega),Af (by omega),Af (by omega),Af (by omega),Ae (by omega),Bool.and_eq_true] at a
   have b:=(CM _ _ _ _ _ a.2).2.2.2.2 rfl
   obtain ⟨x,l⟩:=List.length_eq_one_iff.1 one
   cases c:A5 t v.text with
   | none=>rw [c] at hf;simp at hf
   | some p =>
    rw [c,l] at hf
    have g:=PI d _ x hf
    have E:=Ty.depth_field (Bg c).1
    rw [f,l,b,Ft,Ft,Fo];omega
  ·have:v.list=[]∧v.fields=[]:=by
    have j:∃ i s t,bare i s t false false v=true:=by
     rw [AB] at a
     split at a
     ·rw [Bool.and_eq_true] at a;exact ⟨_,_,_,a.2⟩
     split at a
     ·exact ⟨_,_,_,a⟩
     split at a
     ·exact ⟨_,_,_,a⟩
     split at a
     ·rw [Bool.and_eq_true] at a;exact ⟨_,_,_,a.2⟩
     split at a
     ·exact ⟨_,_,_,a⟩
     rw [Af (by omega),Af (by omega),Af (by omega)] at a
     exact ⟨_,_,_,a⟩
    obtain ⟨i,s,t,j⟩:=j
    obtain ⟨_,_,_,o,G⟩:=CM _ _ _ _ _ j
    exact ⟨o rfl,G rfl⟩
   exact flat this.1 this.2
theorem Wh (f:Vl→Option Vl):∀ (l m:List Vl),J1 f l=some m→(∀ v∈l,∀ u,f v=some u→v.size≤u.size)→Ea l≤Ea m
 | [],m,h,_=>by simp [Ea]
 | v::r,m,h,k=>by
  rw [J1] at h
  obtain ⟨y,e,h⟩:=Option.bind_eq_some_iff.1 h
  obtain ⟨l,d,rfl⟩:=Option.map_eq_some_iff.1 h
  have a:=k v (List.mem_cons_self ..) y e
  have b:=Wh f r l d fun u c=>k u (List.mem_cons_of_mem _ c)
  simp only [Ea];omega
theorem Ph:∀ (d:Nat) (a b:Ty) (w y:Vl),a.Good→b.Good→J7 d a b=true→Dp d a w=true→O9 d a b w=some y→w.size≤y.size
 | 0,a,b,w,y,_,_,_,h,_=>by simp [Dp] at h
 | d+1,a,b,w,y,ga,gb,D,j,hu=>by
  have Q:=ga.own
  have ob:=gb.own
  obtain ⟨wk,_,_,f⟩:=JL j
  have c0:=J3 (t:=a) (v:=w) (by have:=Q.kind;omega) wk f
  rw [Dp,Af c0] at j
  rw [O9] at hu
  rw [J7,Bool.and_eq_true] at D
  obtain ⟨_,D⟩:=D
  have N:=w.size_eq
  have U:=y.size_eq
  by_cases num:(a.kind=2∨a.kind=3)∧(b.kind=2∨b.kind=3)
  ·have m:w.list=[]∧w.fields=[]:=by
    rcases num.1 with q | q
    ·rw [AB,Af (by omega),Ae (by omega)] at f
     obtain ⟨_,_,h3,H,E⟩:=CM _ _ _ _ _ f
     exact ⟨H rfl,E rfl⟩
    ·rw [AB,Af (by omega),Af (by omega),Ae (by omega)] at f
     obtain ⟨_,_,h3,H,E⟩:=CM _ _ _ _ _ f
     exact ⟨H rfl,E rfl⟩
   rw [m.1,m.2,Ea,Db] at N
   omega
  rw [Af num] at hu
  by_cases ne:a.kind=b.kind
  rotate_left
  ·rw [Ae ne] at hu;cases hu
  rw [Af (fun q=>q ne)] at hu
  have n2:b.kind≠2:=fun q=>num ⟨.inl (by omega),.inl q⟩
  have n3:b.kind≠3:=fun q=>num ⟨.inr (by omega),.inr q⟩
  by_cases k67:b.kind=6∨b.kind=7
  ·rw [Ae k67] at hu
   split at hu
   ·cases hu;exact Nat.le_refl _
   ·cases hu
  rw [Af k67] at hu
  by_cases k5:b.kind=5
  ·rw [Ae k5] at hu
   split at hu
   ·cases hu;exact Nat.le_refl _
   ·cases hu
  rw [Af k5] at hu
  by_cases k4:b.kind=4
  ·rw [Ae k4] at hu
   split at hu
   ·cases hu;exact Nat.le_refl _
   ·cases hu
  rw [Af k4] at hu
  by_cases k8:b.kind=8
  ·obtain ⟨x,k⟩:=Q.elem (by omega)
   obtain ⟨x',F⟩:=ob.elem k8
   have ad:x∈a.elem:=by rw [k];simp
   have G:x'∈b.elem:=by rw [F];simp
   rw [Ae k8,k,F] at hu
   rw [Ae k8,k,F,Bool.or_eq_true,decide_eq_true_eq] at D
   obtain ⟨l,hl,hu⟩:=Option.bind_eq_some_iff.1 hu
   rw [Af (by omega),Af (by omega),Af (by omega),Af (by omega),Ae (by omega),Bool.and_eq_true,List.all_eq_true] at j
   have sz:=Wh _ _ _ hl fun v hv u hu=>by
    rcases D with z | z
    ·have:=GW.1 j.1
     have l0:w.list=[]:=List.length_eq_zero_iff.1 (by omega)
     rw [l0] at hv;simp at hv
    ·have:=j.2 v hv
     rw [k] at this
     exact Ph d x x' v u (Dh ga ad) (Dh gb G) z this hu
   rw [AB,Af (by omega),Af (by omega),Af (by omega),Af (by omega),Af (by omega),Ae (by omega)] at f
   have E:=(CM _ _ _ _ _ f).2.2.2.2 rfl
   split at hu
   ·cases hu
    rw [E,Db] at N
    simp only [Vl.list,Vl.fields,Db] at U
    omega
   ·cases hu
  rw [Af k8] at hu D
  by_cases k9:b.kind=9
  ·rw [Ae k9] at hu
   rw [Ae (.inl k9),List.all_eq_true] at D
   obtain ⟨l,hl,rfl⟩:=Option.map_eq_some_iff.1 hu
   obtain ⟨s1,s2,s3⟩:=Nb _ _ _ _ _ hl
   have nb:=(FU _ _ _ ob.apart).1
   have na:=(FU _ _ _ Q.apart).1
   have ma:=(QB _ _ _ Q.apart).1
   have K:=KF f (by omega)
   rw [Af (by omega),Af (by omega),Af (by omega),Af (by omega),Af (by omega),Ae (by omega),Bool.and_eq_true,List.all_eq_true,List.all_eq_true] at j
   rw [AB,Af (by omega),Af (by omega),Af (by omega),Af (by omega),Af (by omega),Af (by omega),Ae (by omega),Bool.and_eq_true] at f
   have H:=(CM _ _ _ _ _ f.2).2.2.2.1 rfl
   -- i field of the value has one of its own in the upgrade
   have i:∀ q∈w.fields,∃ p g u,A5 a q.1=some p∧D1 b.fields p.1=some g∧(g.2.1,u)∈l∧q.2.size≤u.size:=fun q C=>by
    have hq2:=j.2 q C
    cases c:A5 a q.1 with
    | none=>rw [c] at hq2;cases hq2
    | some p =>
     obtain ⟨Y,hn⟩:=Bg c
     have hkp:=D p Y
     rw [XU] at hkp
     cases hg:D1 b.fields p.1 with
     | none=>rw [hg] at hkp;cases hkp
     | some g =>
      rw [hg] at hkp
      simp only [Bool.and_eq_true] at hkp
      obtain ⟨gm,gn⟩:=OD hg
      have Z:D1 a.fields g.1=some p:=by rw [gn];exact Lq ma Y
      obtain ⟨o,ho,ab⟩:=s2 g gm
      have O:=j.1 p Y
      have k:B9 w p.2.1=some q.2:=by rw [hn];exact H4 K C
      rw [k] at O
      rw [JB,Z] at ho
      simp only [k] at ho
      obtain ⟨y1,ag,rfl⟩:=Option.map_eq_some_iff.1 ho
      exact ⟨p,g,y1,rfl,hg,ab _ (by simp),Ph d _ _ _ y1 (AN ga Y) (AN gb gm) hkp.1 O ag⟩
   classical
   let R:ByteArray × Vl→ByteArray × Vl:=fun q=>if h:q∈w.fields then ((Classical.choose (Classical.choose_spec (i q h))).2.1,Classical.choose (Classical.choose_spec (Classical.choose_spec (i q h)))) else q
   have V:∀ q∈w.fields,R q∈l∧q.2.size≤(R q).2.size∧∃ p g,A5 a q.1=some p∧D1 b.fields p.1=some g∧(R q).1=g.2.1:=fun q C=>by
    have:=Classical.choose_spec (Classical.choose_spec (Classical.choose_spec (i q C)))
    simp only [R,dif_pos C]
    exact ⟨this.2.2.1,this.2.2.2,_,_,this.1,this.2.1,rfl⟩
   have nd:(w.fields.map R).Nodup:=by
    unfold List.Nodup
    rw [List.pairwise_map]
    refine List.Pairwise.imp_of_mem (fun {x y} k hy h e=>?_) K
    obtain ⟨_,_,p,g,e1,e2,e3⟩:=V x k
    obtain ⟨_,_,p',g',f1,f2,f3⟩:=V y hy
    have gg:g=g':=SD nb (OD e2).1 (OD f2).1 (by rw [←e3,←f3,e])
    subst gg
    have pp:p.1=p'.1:=by rw [←(OD e2).2,(OD f2).2]
    have p1:=Lq ma (Bg e1).1
    have p2:=Lq ma (Bg f1).1
    rw [pp,p2] at p1
    cases p1
    have:x.1=y.1:=by rw [←(Bg e1).2,(Bg f1).2]
    rw [this,I7] at h
    omega
   have s:=XI (fun q:ByteArray × Vl=>q.2.size) (w.fields.map R) l nd fun x k=>by
    obtain ⟨q,C,rfl⟩:=List.mem_map.1 k
    exact (V q C).1
   have le:∀ xs:List (ByteArray × Vl),(∀ q∈xs,q.2.size≤(R q).2.size)→Db xs≤((xs.map R).map fun q=>q.2.size).sum:=by
    intro xs
    induction xs with
    | nil=>intro _;simp [Db]
    | cons x r ih =>
     intro h
     have a:=h x (List.mem_cons_self ..)
     have b:=ih fun q C=>h q (List.mem_cons_of_mem _ C)
     obtain ⟨n,v⟩:=x
     simp only [Db,List.map_cons,List.sum_cons] at a ⊢
     omega
   have ai:=le w.fields fun q C=>(V q C).2.1
   have ae:∀ xs:List (ByteArray × Vl),(xs.map fun q=>q.2.size).sum=Db xs:=by
    intro xs
    induction xs with
    | nil=>rfl
    | cons x r ih=>obtain ⟨n,v⟩:=x;simp only [Db,List.map_cons,List.sum_cons,ih]
   rw [ae l] at s
   rw [H,Ea] at N
   simp only [Vl.list,Vl.fields,Ea] at U
   rw [ZM (Gt l)] at U
   omega
  rw [Af k9] at hu
  by_cases k10:b.kind=10
  ·rw [Ae k10] at hu
   rw [Ae (.inr k10),List.all_eq_true] at D
   rw [Af (by omega),Af (by omega),Af (by omega),Af (by omega),Af (by omega),Af (by omega),Ae (by omega)] at j
   cases c:A5 a w.text with
   | none=>rw [c] at hu;simp at hu
   | some p =>
    cases hl:w.list with
    | nil=>rw [c,hl] at hu;simp at hu
    | cons x xs =>
     rw [c,hl] at hu j
     simp only at hu
     have j:Dp d p.2.2.2.1 x=true:=j
     obtain ⟨J,ah⟩:=Bg c
     have hkp:=D p J
     cases g:D1 b.fields p.1 with
     | none=>rw [g] at hu;cases hu
     | some q =>
      rw [g] at hu
      rw [XU,g] at hkp
      simp only [Bool.and_eq_true] at hkp
      obtain ⟨u,af,rfl⟩:=Option.map_eq_some_iff.1 hu
      have le:=Ph d _ _ x u (AN ga J) (AN gb (OD g).1) hkp.1 j af
      have one:=Jf f (by omega)
      have aa:xs=[]:=by rw [hl] at one;simpa using one
      rw [AB,Af (by omega),Af (by omega),Af (by omega),Af (by omega),Af (by omega),Af (by omega),Af (by omega),Ae (by omega),Bool.and_eq_true] at f
      have E:=(CM _ _ _ _ _ f.2).2.2.2.2 rfl
      rw [hl,aa,E] at N
      simp only [Ea,Db] at N
      simp only [Vl.list,Vl.fields,Ea,Db] at U
      omega
  ·rw [Af k10] at hu
   cases hu
   exact Nat.le_refl _
theorem ZQ {v:Vl} (k:1≤v.kind∧v.kind≤10) (h:AB v=true):¬ A1 v=true:=by
 rcases Fe (k:=v.kind) (by omega) with tk | tk | tk | tk | tk | tk | tk | tk | tk | tk
 ·rw [AB,Ae tk,Bool.and_eq_true] at h
  obtain ⟨_,a,d,c,b⟩:=CM _ _ _ _ _ h.2
  simp [A1,tk,a rfl,d rfl,c rfl,b rfl,Eb]
 ·rw [AB,Af (by omega),Ae (by omega)] at h
  obtain ⟨_,a,d,c,b⟩:=CM _ _ _ _ _ h
  simp [A1,tk,a rfl,d rfl,c rfl,b rfl,Eb]
 ·rw [AB,Af (by omega),Af (by omega),Ae (by omega)] at h
  obtain ⟨_,_,d,c,b⟩:=CM _ _ _ _ _ h
  simp [A1,tk,d rfl,c rfl,b rfl,Eb]
 ·rw [AB,Af (by omega),Af (by omega),Af (by omega),Ae tk,Bool.and_eq_true] at h
  obtain ⟨e,a,_,c,b⟩:=CM _ _ _ _ _ h.2
  simp [A1,tk,e rfl,a rfl,c rfl,b rfl]
 ·rw [AB,Af (by omega),Af (by omega),Af (by omega),Af (by omega),Ae tk] at h
  obtain ⟨e,a,_,c,b⟩:=CM _ _ _ _ _ h
  simp [A1,tk,e rfl,a rfl,c rfl,b rfl]
 ·rw [AB,Af (by omega),Ae (by omega)] at h
  obtain ⟨_,a,d,c,b⟩:=CM _ _ _ _ _ h
  simp [A1,tk,a rfl,d rfl,c rfl,b rfl,Eb]
 ·rw [AB,Af (by omega),Ae (by omega)] at h
  obtain ⟨_,a,d,c,b⟩:=CM _ _ _ _ _ h
  simp [A1,tk,a rfl,d rfl,c rfl,b rfl,Eb]
 ·rw [AB,Af (by omega),Af (by omega),Af (by omega),Af (by omega),Af (by omega),Ae tk] at h
  obtain ⟨e,a,d,_,b⟩:=CM _ _ _ _ _ h
  simp [A1,tk,e rfl,a rfl,d rfl,b rfl,Eb]
 ·rw [AB,Af (by omega),Af (by omega),Af (by omega),Af (by omega),Af (by omega),Af (by omega),Ae tk,Bool.and_eq_true] at h
  obtain ⟨e,a,d,c,_⟩:=CM _ _ _ _ _ h.2
  simp [A1,tk,e rfl,a rfl,d rfl,c rfl,Eb]
 ·rw [AB,Af (by omega),Af (by omega),Af (by omega),Af (by omega),Af (by omega),Af (by omega),Af (by omega),Ae tk,Bool.and_eq_true] at h
  obtain ⟨e,a,_,_,b⟩:=CM _ _ _ _ _ h.2
  simp [A1,tk,e rfl,a rfl,b rfl]
theorem Ss {x lo hi:Int} (h1:lo≤x) (h2:x≤hi):A6 x lo hi=false:=by
 rw [A6,Ac (by omega),Ac (by omega)];rfl
theorem W4:∀ (l:List ByteArray) (o:Option ByteArray),UT o l=0→∀ x∈l,TE x=0
 | [],_,_,x,hx=>by simp at hx
 | y::r,o,h,x,hx=>by
  have a:TE y=0∧UT (some y) r=0:=by
   cases o with
   | none =>
    rw [UT] at h
    by_cases c:TE y=0
    ·rw [Ae c] at h;exact ⟨c,h⟩
    ·rw [Af c] at h;exact absurd h c
   | some p =>
    rw [UT] at h
    by_cases c:TE y=0
    ·rw [Ae c] at h
     split at h
     ·cases h
     ·split at h
      ·cases h
      ·exact ⟨c,h⟩
    ·rw [Af c] at h;exact absurd h c
  rcases List.mem_cons.1 hx with rfl | hx
  ·exact a.1
  ·exact W4 r (some y) a.2 x hx
theorem ZbO {x:ByteArray} (h:TE x=0):x.size≤1024:=by
 have g:=Iz (JR (v:=Vl.mk 4 0 0 x [] []) h)
 have b:=(KJ g).2
 have a:¬ BJ (Vl.mk 4 0 0 x [] [])=true:=fun q=>by rw [Ep,Ae q] at g;exact absurd g (by decide)
 rw [Ep,Af a,Af (by simp [Vl.kind]),Af b,Af (by simp [Vl.kind]),Af (by simp [Vl.kind]),Af (by simp [Vl.kind]),Ae (by simp [Vl.kind])] at g
 have g:(if 1024<x.size then (5:Int) else if Lib.validD x.data.toList=true then 0 else 16)=0:=g
 by_cases c:1024<x.size
 ·rw [Ae c] at g;exact absurd g (by decide)
 ·omega
theorem P2 {t:Ty} (o:t.Own) (h:2≤t.kind∧t.kind≤8) (hw:¬ (t.kind=4∧0<t.words.length)) {lo hi x:Int} (e:AE t.kind=(lo,hi)) (hx:JX x t=true):lo≤x∧x≤hi:=by
 obtain ⟨a,b,_⟩:=o.bounds h hw
 rw [e] at a b
 rw [GW] at hx
 simp only at a b
 omega
theorem Rb:∀ (d:Nat) (t:Ty) (v:Vl),t.Good→Dp d t v=true→v.Good
 | 0,t,v,_,h=>by simp [Dp] at h
 | d+1,t,v,gt,f=>by
  have o:=gt.own
  obtain ⟨D,G,E,i⟩:=JL f
  have F:=J3 ⟨G,E⟩ D i
  have hu:=ZQ (by omega) i
  have n:¬ BJ v=true:=by rw [S8 (by omega)];decide
  rw [Dp,Af F] at f
  have own:(Ep v=if v.kind=1 then (if A6 v.int 0 1=true then 2 else 0)
   else if v.kind=2 then (if A6 v.int (-999999999999999) 999999999999999=true∨A6 v.scale 0 12=true then 2 else 0)
   else if v.kind=3 then (if A6 v.int (-999999999999999) 999999999999999=true∨A6 v.scale 0 12=true then 2 else 0)
   else if v.kind=4 then (if 1024<v.text.size then 5 else if Lib.validD v.text.data.toList=true then 0 else 16)
   else if v.kind=5 then (if 1024<v.text.size then 5 else 0)
   else if v.kind=6 then (if A6 v.int (-719162) 2932896=true then 2 else 0)
   else if v.kind=7 then (if A6 v.int (-62135596800000) 253402300799999=true then 2 else 0)
   else if v.kind=8 then (if 256<v.list.length then 9 else 0)
   else if v.kind=9 then (if 64<v.fields.length then 9 else Nl none (v.fields.map Prod.fst))
   else if EU v.text=true then (if v.list.length=0 then 4 else if 1<v.list.length then 3 else 0) else 12):=by
   rw [Ep,Af n,Af (by omega),Af hu]
  have g:v.kind≠8→v.kind≠9→v.kind≠10→Ep v=0→v.Good:=fun N H C h => .mk v h fun x j=>by
   rw [Bv,Af (by omega),Af H] at j;simp at j
  rcases Fe (k:=t.kind) (by omega) with tk | tk | tk | tk | tk | tk | tk | tk | tk | tk
  ·refine g (by omega) (by omega) (by omega) ?_
   rw [AB,Ae (by omega),Bool.and_eq_true,Bool.or_eq_true,decide_eq_true_eq,decide_eq_true_eq] at i
   rw [own,Ae (by omega),Ss (by omega) (by omega)];rfl
  ·refine g (by omega) (by omega) (by omega) ?_
   rw [Ae (.inl tk)] at f
   obtain ⟨a,b⟩:=P2 o (by omega) (by omega) (show AE t.kind=(-999999999999999,999999999999999) by rw [tk];decide) f
   rw [AB,Af (by omega),Ae (by omega)] at i
   have hs:=(CM _ _ _ _ _ i).2.1 rfl
   rw [own,Af (by omega),Ae (by omega),Ss a b,hs];decide
  ·refine g (by omega) (by omega) (by omega) ?_
   rw [Af (by omega),Ae tk,Bool.and_eq_true,decide_eq_true_eq] at f
   obtain ⟨a,b⟩:=P2 o (by omega) (by omega) (show AE t.kind=(-999999999999999,999999999999999) by rw [tk];decide) f.2
   have O:=o.scale
   rw [own,Af (by omega),Af (by omega),Ae (by omega),Ss a b,Ss (by omega) (by omega)];rfl
  ·refine g (by omega) (by omega) (by omega) ?_
   rw [Af (by omega),Af (by omega),Ae tk] at f
   rw [AB,Af (by omega),Af (by omega),Af (by omega),Ae (by omega),Bool.and_eq_true] at i
   have sz:v.text.size≤1024:=by
    rw [GA] at f
    by_cases q:t.words=[]
    ·rw [Ae q] at f
     have:=(P2 o (by omega) (fun z=>by rw [q] at z;simp at z) (show AE t.kind=(0,1024) by rw [tk];decide) f).2
     omega
    ·rw [Af q] at f
     obtain ⟨x,j,e⟩:=List.any_eq_true.1 f
     have J:0<t.words.length:=List.length_pos_iff.2 q
     rw [←(D5 _ _).1 e]
     exact ZbO (W4 t.words none (o.words tk J).2.2.2 x j)
   rw [own,Af (by omega),Af (by omega),Af (by omega),Ae (by omega),Af (by omega),Ae i.1]
  ·refine g (by omega) (by omega) (by omega) ?_
   rw [Af (by omega),Af (by omega),Af (by omega),Ae tk] at f
   have:=(P2 o (by omega) (by omega) (show AE t.kind=(0,1024) by rw [tk];decide) f).2
   rw [own,Af (by omega),Af (by omega),Af (by omega),Af (by omega),Ae (by omega),Af (by omega)]
  ·refine g (by omega) (by omega) (by omega) ?_
   rw [Ae (by omega)] at f
   obtain ⟨a,b⟩:=P2 o (by omega) (by omega) (show AE t.kind=(-719162,2932896) by rw [tk];decide) f
   rw [own,Af (by omega),Af (by omega),Af (by omega),Af (by omega),Af (by omega),Ae (by omega),Ss a b];rfl
  ·refine g (by omega) (by omega) (by omega) ?_
   rw [Ae (by omega)] at f
   obtain ⟨a,b⟩:=P2 o (by omega) (by omega) (show AE t.kind=(-62135596800000,253402300799999) by rw [tk];decide) f
   rw [own,Af (by omega),Af (by omega),Af (by omega),Af (by omega),Af (by omega),Af (by omega),Ae (by omega),Ss a b];rfl
  ·rw [Af (by omega),Af (by omega),Af (by omega),Af (by omega),Ae tk,Bool.and_eq_true,List.all_eq_true] at f
   have:=(P2 o (by omega) (by omega) (show AE t.kind=(0,256) by rw [tk];decide) f.1).2
   obtain ⟨x,j⟩:=o.elem tk
   refine .mk v ?_ fun u hu=>?_
   ·rw [own,Af (by omega),Af (by omega),Af (by omega),Af (by omega),Af (by omega),Af (by omega),Af (by omega),Ae (by omega),Af (by omega)]
   ·rw [Bv,Ae (.inl (by omega))] at hu
    have:=f.2 u hu
    rw [j] at this
    exact Rb d x u (Dh gt (by rw [j];simp)) this
  ·rw [Af (by omega),Af (by omega),Af (by omega),Af (by omega),Af (by omega),Ae tk,Bool.and_eq_true,List.all_eq_true,List.all_eq_true] at f
   have s:=KF i (by omega)
   have nm:∀ q∈v.fields,∃ p∈t.fields,p.2.1=q.1∧Dp d p.2.2.2.1 q.2=true:=fun q m=>by
    have:=f.2 q m
    cases c:A5 t q.1 with
    | none=>rw [c] at this;cases this
    | some p =>
     obtain ⟨l,n⟩:=Bg c
     have r:=f.1 p l
     rw [n,H4 s m] at r
     exact ⟨p,l,n,r⟩
   have len:v.fields.length≤64:=by
    have K:(v.fields.map Prod.fst).Nodup:=by
     unfold List.Nodup
     rw [List.pairwise_map]
     exact s.imp fun {x y} h e=>by rw [e,I7] at h;omega
    have:=XI (fun _:ByteArray=>1) (v.fields.map Prod.fst) (t.fields.map fun p=>p.2.1) K fun x j=>by
     obtain ⟨q,m,rfl⟩:=List.mem_map.1 j
     obtain ⟨p,l,e,_⟩:=nm q m
     exact List.mem_map.2 ⟨p,l,e⟩
    simp only [List.map_const',List.sum_replicate_nat,List.length_map,Nat.mul_one] at this
    have:=o.fields
    omega
   refine .mk v ?_ fun u hu=>?_
   ·rw [own,Af (by omega),Af (by omega),Af (by omega),Af (by omega),Af (by omega),Af (by omega),Af (by omega),Af (by omega),Ae (by omega),Af (by omega)]
    exact Zbp v.fields s (fun q m=>by
     obtain ⟨p,l,e,_⟩:=nm q m
     rw [←e];exact (o.each p l).1) none (fun w hw=>by cases hw)
   ·rw [Bv,Af (by omega),Ae (by omega)] at hu
    obtain ⟨q,m,rfl⟩:=List.mem_map.1 hu
    obtain ⟨p,l,_,r⟩:=nm q m
    exact Rb d _ _ (AN gt l) r
  ·rw [Af (by omega),Af (by omega),Af (by omega),Af (by omega),Af (by omega),Af (by omega),Ae tk] at f
   have one:=Jf i (by omega)
   obtain ⟨x,j⟩:=List.length_eq_one_iff.1 one
   cases c:A5 t v.text with
   | none=>rw [c] at f;simp at f
   | some p =>
    rw [c,j] at f
    obtain ⟨l,n⟩:=Bg c
    have f:Dp d p.2.2.2.1 x=true:=f
    refine .mk v ?_ fun u hu=>?_
    ·rw [own,Af (by omega),Af (by omega),Af (by omega),Af (by omega),Af (by omega),Af (by omega),Af (by omega),Af (by omega),Af (by omega),Ae (by rw [←n];exact (o.each p l).1),Af (by omega),Af (by omega)]
    ·rw [Bv,Ae (.inr (by omega)),j,List.mem_singleton] at hu
     subst hu
     exact Rb d _ _ (AN gt l) f
def Kt (rec:Ty→Option Int) (n:Nat)  (b:Int):Option Int :=
 if B2 (b+1) then
  some (b+1)
 else none
def Gs (rec:Ty→Option Int) (n:Nat) (q:Ty):Nat→Int→Int→Option Int
 | 0,_,_=>none
 | m+1,g,b =>
  if decide (b<(q.fields.length:Int)) then
   (Ci q.fields b).bind fun s =>
   (rec s.2.2.2.1).bind fun h =>
   if B2 (b+1) then
    (Gs rec n q m) ((if g<h then h else g)) (b+1)
   else none
  else
   Kt rec n g
def LC (rec:Ty→Option Int) (n:Nat) (g:Ty) (b:Int):Option Int :=
 Gs rec n g n b 0
def G6 (rec:Ty→Option Int) (n:Nat) (q:Ty):Nat→Int→Int→Option Int
 | 0,_,_=>none
 | m+1,g,b =>
  if decide (b<(q.elem.length:Int)) then
   (Ci q.elem b).bind fun s =>
   (rec s).bind fun h =>
   if B2 (b+1) then
    (G6 rec n q m) ((if g<h then h else g)) (b+1)
   else none
  else
   LC rec n q g
def NY (rec:Ty→Option Int) (n:Nat) (b:Ty):Option Int :=
 G6 rec n b n 0 0
def H9:Nat→Ty→Option Int
 | 0,_=>none
 | n+1,b=>NY (H9 n) n b
def P4 (w0:World) (F:Ty→Option Int):Prop:=∀ (B:List (List AV)) (Rw:List RowA) (L:List LoopA) (b:Ty) (r:Int),F b=some r→ACalls Tryz.prog w0 74 [.agg (b.cs)] ⟨B,Rw,L⟩ fun x st=>x = .val (.int .i64 r)∧st=⟨B,Rw,L⟩
theorem VU (w0:World) (rec:Ty→Option Int) (ih:P4 w0 rec) (n:Nat):P4 w0 (NY rec n):=by
 intro B Rw L a0 r h
 rw [NY] at h
 refine hd [.tmp 2] Tryz.func74 Tryz.ntmps74 fun M0 W0 D l k d V j hs=>?_
 simp only [As]
 refine rg [1] hs ?_
 refine rg [1,3] hs ?_
 refine Au (fun e st=>∃ (f:Int),Ck e st B Rw L [(1,true,.box B.length 0),(3,true,.val (.int .i64 f))] [a0.cs] [] (LC rec n a0 f=some r)) ?_ ?_
 ·intro K5 N
  refine rg [1,3,4] hs ?_
  apply Ak
  refine Az (fun m e st=>∃ (b:Int) (g:Int),Ck e st B Rw L [(1,true,.box B.length 0),(3,true,.val (.int .i64 b)),(4,true,.val (.int .i64 g))] [a0.cs] [] (G6 rec n a0 m b g=some r)) n ⟨0,0,([]),Rw,ef hs,ef hs,j,h⟩ ?_
  rintro ml7 e st ⟨b,g,Xl7,Rl7,rfl,rfl,j,h⟩ Ul7 Vl7
  cases ml7 with
  | zero=>cases h
  | succ ml7 =>
  rw [G6] at h
  refine td D l k d j ?_
  apply Ah;intro K8 v
  refine rg [1,3,4,10] hs ?_
  refine AK h hs (fun hs h=>?_) (fun hs h=>?_)
  rotate_left
  ·refine sx [1,3] hs N ?_
   exact ⟨b,([]),Rl7,ef hs,ef hs,j,h⟩
  refine sk [1,3,4] hs v ?_
  clear v
  apply Ah;intro K11 o
  apply Ak
  obtain ⟨E,F,J,t,h⟩:=ix HE h
  obtain ⟨C,z,h⟩:=bind_some h
  have hs:=Aa t hs
  refine rk 2 [1,3,4] hs ?_
  refine Ai _ (ih _ _ _ E _ z) (hv hs) ?_
  refine ne hs o ?_
  clear o
  obtain ⟨U,h⟩:=Aj h
  refine rl [1,3,4] hs (fun e s=>Vl7 ml7 e s (Nat.lt_succ_self _)) ?_
  exact ⟨((if b<C then C else b)),(g+1),([]),Rl7,ef hs,ef hs,j,h⟩
 ·clear h;rintro e st ⟨f,Xk4,Rk4,rfl,rfl,j,h⟩
  rw [LC] at h
  refine td D l k d j ?_
  refine Au (fun e st=>∃ (i:Int),Ck e st B Rw L [(3,true,.val (.int .i64 i))] [a0.cs] [] (Kt rec n i=some r)) ?_ ?_
  ·intro K17 x
   refine rg [1,3,5] hs ?_
   apply Ak
   refine Az (fun m e st=>∃ (a:Int) (c:Int),Ck e st B Rw L [(1,true,.box B.length 0),(3,true,.val (.int .i64 a)),(5,true,.val (.int .i64 c))] [a0.cs] [] (Gs rec n a0 m a c=some r)) n ⟨f,0,([]),Rk4,ef hs,ef hs,j,h⟩ ?_
   rintro ml19 e st ⟨a,c,Xl19,Rl19,rfl,rfl,j,h⟩ Ul19 Vl19
   cases ml19 with
   | zero=>cases h
   | succ ml19 =>
   rw [Gs] at h
   refine td D l k d j ?_
   apply Ah;intro K20 q
   refine rg [1,3,5,25] hs ?_
   refine AK h hs (fun hs h=>?_) (fun hs h=>?_)
   rotate_left
   ·refine sx [3] hs x ?_
    exact ⟨a,([]),Rl19,ef hs,ef hs,j,h⟩
   refine sk [1,3,5] hs q ?_
   clear q
   apply Ah;intro K23 p
   apply Ak
   obtain ⟨H,G,K,u,h⟩:=ix CJ h
   obtain ⟨y,w,h⟩:=bind_some h
   have hs:=Aa u hs
   refine rk 2 [1,3,5] hs ?_
   refine Ai _ (ih _ _ _ H.2.2.2.1 _ w) (hv hs) ?_
   refine ne hs p ?_
   clear p
   obtain ⟨Q,h⟩:=Aj h
   refine rl [1,3,5] hs (fun e s=>Vl19 ml19 e s (Nat.lt_succ_self _)) ?_
   exact ⟨((if a<y then y else a)),(c+1),([]),Rl19,ef hs,ef hs,j,h⟩
  ·clear h;rintro e st ⟨i,Xk16,Rk16,rfl,rfl,j,h⟩
   rw [Kt] at h
   refine td D l k d j ?_
   obtain ⟨O,h⟩:=Aj h
   refine rg [2] hs ?_
   exact rt h hs d j
theorem O8 (w0:World):∀ n:Nat,P4 w0 (H9 n)
 | 0=>fun _ _ _ _ _ h=>(nomatch h)
 | n+1=>VU w0 (H9 n) (O8 w0 n) n
def OO (rec:Ty→Option Int) (n:Nat)  (b:Int):Option Int :=
 some (b)
def Hg (rec:Ty→Option Int) (n:Nat) (q:Ty):Nat→Int→Int→Option Int
 | 0,_,_=>none
 | m+1,g,b =>
  if decide (b<(q.fields.length:Int)) then
   (Ci q.fields b).bind fun s =>
   (rec s.2.2.2.1).bind fun h =>
   if B2 (g+h) then
    if B2 (b+1) then
     (Hg rec n q m) (g+h) (b+1)
    else none
   else none
  else
   OO rec n g
def Ql (rec:Ty→Option Int) (n:Nat) (g:Ty) (b:Int):Option Int :=
 Hg rec n g n b 0
def Ig (rec:Ty→Option Int) (n:Nat) (q:Ty):Nat→Int→Int→Option Int
 | 0,_,_=>none
 | m+1,g,b =>
  if decide (b<(q.elem.length:Int)) then
   (Ci q.elem b).bind fun s =>
   (rec s).bind fun h =>
   if B2 (g+h) then
    if B2 (b+1) then
     (Ig rec n q m) (g+h) (b+1)
    else none
   else none
  else
   Ql rec n q g
def PH (rec:Ty→Option Int) (n:Nat) (b:Ty):Option Int :=
 Ig rec n b n 1 0
def I6:Nat→Ty→Option Int
 | 0,_=>none
 | n+1,b=>PH (I6 n) n b
def RF (w0:World) (F:Ty→Option Int):Prop:=∀ (B:List (List AV)) (Rw:List RowA) (L:List LoopA) (b:Ty) (r:Int),F b=some r→ACalls Tryz.prog w0 75 [.agg (b.cs)] ⟨B,Rw,L⟩ fun x st=>x = .val (.int .i64 r)∧st=⟨B,Rw,L⟩
theorem XW (w0:World) (rec:Ty→Option Int) (ih:RF w0 rec) (n:Nat):RF w0 (PH rec n):=by
 intro B Rw L a0 r h
 rw [PH] at h
 refine hd [.tmp 2] Tryz.func75 Tryz.ntmps75 fun M0 W0 z l k d Y j hs=>?_
 simp only [As]
 refine rg [1] hs ?_
 refine rg [1,3] hs ?_
 refine Au (fun e st=>∃ (f:Int),Ck e st B Rw L [(1,true,.box B.length 0),(3,true,.val (.int .i64 f))] [a0.cs] [] (Ql rec n a0 f=some r)) ?_ ?_
 ·intro K5 K
  refine rg [1,3,4] hs ?_
  apply Ak
  refine Az (fun m e st=>∃ (c:Int) (g:Int),Ck e st B Rw L [(1,true,.box B.length 0),(3,true,.val (.int .i64 c)),(4,true,.val (.int .i64 g))] [a0.cs] [] (Ig rec n a0 m c g=some r)) n ⟨1,0,([]),Rw,ef hs,ef hs,j,h⟩ ?_
  rintro ml7 e st ⟨c,g,Xl7,Rl7,rfl,rfl,j,h⟩ Ul7 Vl7
  cases ml7 with
  | zero=>cases h
  | succ ml7 =>
  rw [Ig] at h
  refine td z l k d j ?_
  apply Ah;intro K8 v
  refine rg [1,3,4,10] hs ?_
  refine AK h hs (fun hs h=>?_) (fun hs h=>?_)
  rotate_left
  ·refine sx [1,3] hs K ?_
   exact ⟨c,([]),Rl7,ef hs,ef hs,j,h⟩
  refine sk [1,3,4] hs v ?_
  clear v
  apply Ah;intro K11 q
  apply Ak
  obtain ⟨C,D,G,u,h⟩:=ix HE h
  obtain ⟨J,x,h⟩:=bind_some h
  obtain ⟨V,h⟩:=Aj h
  have hs:=Aa u hs
  refine rk 2 [1,3,4] hs ?_
  refine Ai _ (ih _ _ _ C _ x) (hv hs) ?_
  refine ne hs q ?_
  clear q
  obtain ⟨U,h⟩:=Aj h
  refine rl [1,3,4] hs (fun e s=>Vl7 ml7 e s (Nat.lt_succ_self _)) ?_
  exact ⟨(c+J),(g+1),([]),Rl7,ef hs,ef hs,j,h⟩
 ·clear h;rintro e st ⟨f,Xk4,Rk4,rfl,rfl,j,h⟩
  rw [Ql] at h
  refine td z l k d j ?_
  refine Au (fun e st=>∃ (i:Int),Ck e st B Rw L [(3,true,.val (.int .i64 i))] [a0.cs] [] (OO rec n i=some r)) ?_ ?_
  ·intro K18 y
   refine rg [1,3,5] hs ?_
   apply Ak
   refine Az (fun m e st=>∃ (a:Int) (b:Int),Ck e st B Rw L [(1,true,.box B.length 0),(3,true,.val (.int .i64 a)),(5,true,.val (.int .i64 b))] [a0.cs] [] (Hg rec n a0 m a b=some r)) n ⟨f,0,([]),Rk4,ef hs,ef hs,j,h⟩ ?_
   rintro ml20 e st ⟨a,b,Xl20,Rl20,rfl,rfl,j,h⟩ Ul20 Vl20
   cases ml20 with
   | zero=>cases h
   | succ ml20 =>
   rw [Hg] at h
   refine td z l k d j ?_
   apply Ah;intro K21 o
   refine rg [1,3,5,25] hs ?_
   refine AK h hs (fun hs h=>?_) (fun hs h=>?_)
   rotate_left
   ·refine sx [3] hs y ?_
    exact ⟨a,([]),Rl20,ef hs,ef hs,j,h⟩
   refine sk [1,3,5] hs o ?_
   clear o
   apply Ah;intro K24 p
   apply Ak
   obtain ⟨N,E,F,t,h⟩:=ix CJ h
   obtain ⟨H,w,h⟩:=bind_some h
   obtain ⟨O,h⟩:=Aj h
   have hs:=Aa t hs
   refine rk 2 [1,3,5] hs ?_
   refine Ai _ (ih _ _ _ N.2.2.2.1 _ w) (hv hs) ?_
   refine ne hs p ?_
   clear p
   obtain ⟨Q,h⟩:=Aj h
   refine rl [1,3,5] hs (fun e s=>Vl20 ml20 e s (Nat.lt_succ_self _)) ?_
   exact ⟨(a+H),(b+1),([]),Rl20,ef hs,ef hs,j,h⟩
  ·clear h;rintro e st ⟨i,Xk17,Rk17,rfl,rfl,j,h⟩
   rw [OO] at h
   refine td z l k d j ?_
   refine rg [2] hs ?_
   exact rt h hs d j
theorem Uh (w0:World):∀ n:Nat,RF w0 (I6 n)
 | 0=>fun _ _ _ _ _ h=>(nomatch h)
 | n+1=>XW w0 (I6 n) (Uh w0 n) n
def G4 (n:Nat) (b:Ty):Option Bool :=
 (H9 n b).bind fun h =>
 if decide (h≤10) then
  (I6 n b).bind fun g =>
  some (decide (g≤60))
 else
  some (false)
theorem DJ (w0:World) (n:Nat) (B:List (List AV)) (Rw:List RowA) (L:List LoopA) (a0:Ty) (r:Bool) (h:G4 n a0=some r) :
  ACalls Tryz.prog w0 27 [.agg (a0.cs)] ⟨B,Rw,L⟩ fun x st=>x = .val (.bool r)∧st=⟨B,Rw,L⟩:=by
 rw [G4] at h
 refine hd [.tmp 2] Tryz.func27 Tryz.ntmps27 fun M0 W0 l f i a k e hs=>?_
 simp only [As]
 refine rg [1] hs ?_
 apply Ah;intro K2 b
 obtain ⟨g,c,h⟩:=bind_some h
 rcases Bool.eq_false_or_eq_true (decide (g≤10)) with hf4 | hf4
 ·replace h:=AY h hf4
  obtain ⟨j,d,h⟩:=bind_some h
  have hs:=Aa hf4 hs
  refine rk 3 [2] hs ?_
  refine Ai _ (O8 w0 n _ _ _ a0 _ c) (hv hs) ?_
  refine nc hs ?_
  refine Ai _ (Uh w0 n _ _ _ a0 _ d) (hv hs) ?_
  refine ne hs b ?_
  clear b
  exact rt h hs a e
 ·replace h:=AZ h hf4
  have hs:=Aa hf4 hs
  refine rk 3 [2] hs ?_
  refine Ai _ (O8 w0 n _ _ _ a0 _ c) (hv hs) ?_
  refine nc hs ?_
  refine AC ?_
  refine ne hs b ?_
  clear b
  exact rt h hs a e
def H8  : List (Nat × Vl)→Int→Option Int
 | [],b1_r6 =>
  some (b1_r6)
 | p_r6::rest,b1_r6 =>
  (H8  rest) ((if b1_r6<(p_r6.1:Int) then (p_r6.1:Int) else b1_r6))
def PM (b:Vl):Option Int :=
 if b.depth<4611686018427387904∧b.wide=true then
  H8  (Ff 1 b) 0
 else none
theorem Um (w0:World) (B:List (List AV)) (Rw:List RowA) (L:List LoopA) (a0:Vl) (r:Int) (h:PM a0=some r) :
  ACalls Tryz.prog w0 76 [.agg (a0.cs)] ⟨B,Rw,L⟩ fun x st=>x = .val (.int .i64 r)∧st=⟨B,Rw,L⟩:=by
 rw [PM] at h
 refine hd [.tmp 2] Tryz.func76 Tryz.ntmps76 fun M0 W0 C t o c G d hs=>?_
 simp only [As]
 refine rg [1] hs ?_
 refine rg [1,3] hs ?_
 apply Ah;intro K3 e
 refine rc 2 [3,6] hs ?_;intro K4 g
 refine BE _ (Pg w0 _ _ _ a0) (hv hs) ?_;rintro _ _ ⟨rfl,rfl⟩
 refine ne hs g ?_
 clear g
 apply Ak
 obtain ⟨n,h⟩:=Aj h
 refine Sz (Jj a0) (fun st=>st.boxes[(B.length+2)]? = some a0.cs) (fun i st=>∃ (a:Int) (Rr6:List RowA),st=⟨B++([a0.cs,[.val (.int .i64 a)],a0.cs]),Rr6,L⟩∧Owns Rw Rr6 []∧H8  ((Ff 1 a0).drop i) a=some r) (fun _ _=>False) ev ev (MD w0 a0 n _) (fun x p=>Qe a0 x p) (by decide) ?_ ⟨0,Rw,ef hs,d,h⟩ (fun _ _ h=>h.elim) ?_ ?_ ?_
 ·rintro i st m ⟨a,Rr6,rfl,d,h⟩ _ _;simp +decide [St.push]
 ·rintro i E ⟨XB,XR,XL⟩ x M1 W1 l m y hX w q j p z K v
  obtain ⟨b,u,rfl,F⟩:=P5 a0 i x p
  (try simp only at hX)
  subst hX
  obtain ⟨a,Rr6,rfl,d,h⟩:=w
  rw [Vh u,H8] at h
  have f:=d
  simp only [St.ext,St.push,List.append_assoc,List.append_nil]
  apply Ao 1 [3,4]
  rw [Am];simp +decide only [go_sem,Nat.reduceAdd]
  (repeat' apply Aa)<;>first | refine v _ _ (by simp [St.ext,St.push]) (fun H k=>?_) | exact cl
  clear v
  dsimp only [St.ext,St.push]
  apply Ak
  apply Ao 1 [3]
  rw [Am];simp +decide only [go_sem,Nat.reduceAdd]
  (repeat' apply Aa)<;>first | refine k _ _ _ ⟨⟨B++[a0.cs,[.val (.int .i64 ((if a<(b.1:Int) then (b.1:Int) else a)))],a0.cs],Rr6,L⟩,[],by first | rfl | (simp only [List.append_assoc,List.append_nil,List.cons_append,List.nil_append];done),⟨by simp,by first | exact Nat.le_refl _ | (have:=d.len;simp;omega),rfl⟩,rfl,⟨((if a<(b.1:Int) then (b.1:Int) else a)),Rr6,ef hs,d,h⟩,?_⟩ | exact cl
  exact .inl rfl
 ·rintro s m ⟨XB,XR,XL⟩ hXR ⟨a,Rr6,rfl,d,h⟩ _ _
  simp only at hXR
  subst hXR
  rw [List.drop_eq_nil_of_le (by rw [Me];exact Nat.le_refl _),H8] at h
  simp only [St.ext,St.push,List.append_assoc,List.append_nil]
  (repeat' apply Aa)<;>first | refine e _ _ ?_ | exact cl
  clear e
  refine RJ (bs:=[a0.cs,[.val (.int .i64 a)],a0.cs]) C t o rfl c d ow ow ?_
  refine rg [2] hs ?_
  exact rt h hs c d
 ·rintro D s m X hX h;exact h.elim
def Ov (b:Vl):Option Bool :=
 (PM b).bind fun h =>
 if decide (h≤12) then
  (MO b).bind fun g =>
  some (decide (g≤1000))
 else
  some (false)
theorem ZcF (w0:World) (B:List (List AV)) (Rw:List RowA) (L:List LoopA) (a0:Vl) (r:Bool) (h:Ov a0=some r) :
  ACalls Tryz.prog w0 28 [.agg (a0.cs)] ⟨B,Rw,L⟩ fun x st=>x = .val (.bool r)∧st=⟨B,Rw,L⟩:=by
 rw [Ov] at h
 refine hd [.tmp 2] Tryz.func28 Tryz.ntmps28 fun M0 W0 l f i a k e hs=>?_
 simp only [As]
 refine rg [1] hs ?_
 apply Ah;intro K2 b
 obtain ⟨g,c,h⟩:=bind_some h
 rcases Bool.eq_false_or_eq_true (decide (g≤12)) with hf4 | hf4
 ·replace h:=AY h hf4
  obtain ⟨j,d,h⟩:=bind_some h
  have hs:=Aa hf4 hs
  refine rk 3 [2] hs ?_
  refine Ai _ (Um w0 _ _ _ a0 _ c) (hv hs) ?_
  refine nc hs ?_
  refine Ai _ (WT w0 _ _ _ a0 _ d) (hv hs) ?_
  refine ne hs b ?_
  clear b
  exact rt h hs a e
 ·replace h:=AZ h hf4
  have hs:=Aa hf4 hs
  refine rk 3 [2] hs ?_
  refine Ai _ (Um w0 _ _ _ a0 _ c) (hv hs) ?_
  refine nc hs ?_
  refine AC ?_
  refine ne hs b ?_
  clear b
  exact rt h hs a e
theorem Vk:∀ (l:List Vl) (v:Vl),v∈l→v.bulk≤Ii l
 | [],_,h=>by simp at h
 | a::r,v,h=>by
  rcases List.mem_cons.1 h with rfl | h
  ·simp [Ii]
  ·have:=Vk r v h
   simp [Ii];omega
theorem VN:∀ (l:List ByteArray) (v:ByteArray),v∈l→v.size+1≤NV l
 | [],_,h=>by simp at h
 | a::r,v,h=>by
  rcases List.mem_cons.1 h with rfl | h
  ·simp [NV]
  ·have:=VN r v h
   simp [NV];omega
theorem VA:∀ l:List ByteArray,l.length≤NV l
 | []=>Nat.le_refl _
 | v::r=>by have:=VA r;simp [NV];omega
mutual
theorem Vl.size_bulk:∀ v:Vl,v.size≤v.bulk
 | .mk _ _ _ _ l f=>by have:=O6 l;have:=SK f;simp only [Vl.size,Vl.bulk];omega
theorem O6:∀ l:List Vl,Ea l≤Ii l
 | []=>Nat.le_refl _
 | v::r=>by have:=v.size_bulk;have:=O6 r;simp only [Ea,Ii];omega
theorem SK:∀ l:List (ByteArray × Vl),Db l≤Oy l
 | []=>Nat.le_refl _
 | (_,v)::r=>by have:=v.size_bulk;have:=SK r;simp only [Db,Oy];omega
end
theorem Z7 (l:List Vl):l.length≤Ii l:=Nat.le_trans (NH l) (O6 l)
mutual
theorem Ty.size_bulk:∀ t:Ty,t.size≤t.bulk
 | .mk _ _ _ _ _ l f=>by have:=SX l;have:=QS f;simp only [Ty.size,Ty.bulk];omega
theorem SX:∀ l:List Ty,Hi l≤OH l
 | []=>Nat.le_refl _
 | v::r=>by have:=v.size_bulk;have:=SX r;simp only [Hi,OH];omega
theorem QS:∀ l:List TF,EQ l≤LA l
 | []=>Nat.le_refl _
 | (_,_,_,v,_)::r=>by have:=v.size_bulk;have:=QS r;simp only [EQ,LA];omega
end
mutual
theorem Vl.ok_bulk:∀ v:Vl,v.bulk≤1048576→v.ok
 | .mk _ _ _ t l f,h=>by
  simp only [Vl.bulk] at h
  exact ⟨by omega,Ws l (by omega),Xi f (by omega)⟩
theorem Ws:∀ l:List Vl,Ii l≤1048576→ZaV l
 | [],_=>trivial
 | v::r,h=>by
  simp only [Ii] at h
  exact ⟨v.ok_bulk (by omega),Ws r (by omega)⟩
theorem Xi:∀ l:List (ByteArray × Vl),Oy l≤1048576→Z8 l
 | [],_=>trivial
 | (_,v)::r,h=>by
  simp only [Oy] at h
  exact ⟨by omega,v.ok_bulk (by omega),Xi r (by omega)⟩
end
theorem Vl.small_bulk (v:Vl) (h:v.bulk≤1048575):v.small:=by
 have:=v.size_bulk
 have:=v.depth_size
 exact ⟨by omega,by omega,v.ok_bulk (by omega)⟩
mutual
theorem Ty.ok_bulk:∀ t:Ty,t.bulk≤1048576→t.ok
 | .mk _ _ _ _ w l f,h=>by
  simp only [Ty.bulk] at h
  have:=VA w
  exact ⟨by omega,fun x a=>by have:=VN w x a;omega,Xf l (by omega),Un f (by omega)⟩
theorem Xf:∀ l:List Ty,OH l≤1048576→ZbQ l
 | [],_=>trivial
 | v::r,h=>by
  simp only [OH] at h
  exact ⟨v.ok_bulk (by omega),Xf r (by omega)⟩
theorem Un:∀ l:List TF,LA l≤1048576→WS l
 | [],_=>trivial
 | (_,n,_,v,d)::r,h=>by
  simp only [LA] at h
  have:=Z7 d
  have b:=v.size_bulk
  have:=v.size_pos
  exact ⟨⟨by omega,v.ok_bulk (by omega),by omega,fun x a=>x.small_bulk (by have:=Vk d x a;omega)⟩,Un r (by omega)⟩
end
theorem Ty.small_of {t:Ty} (h:t.bulk≤1048576) (h1:t.size≤200) (h2:t.depth≤12):t.small:=⟨h1,h2,t.ok_bulk h⟩
theorem UK (rec:Ty→Option Int) (n:Nat) (t:Ty) (hr:∀ p∈t.fields,rec p.2.2.2.1=some (p.2.2.2.1.size:Int)) (hl:t.fields.length≤1000000000):∀ (k m i c:Nat),i+k=t.fields.length→k<m→c+EQ (t.fields.drop i)≤1000000000 →
  Hg rec n t m (c:Int) i=some ((c+EQ (t.fields.drop i):Nat):Int)
 | k,0,i,c,_,h,_=>absurd h (Nat.not_lt_zero _)
 | 0,m+1,i,c,hi,_,_=>by
  rw [Hg,Av,Ac (show ¬ i<t.fields.length by omega),List.drop_eq_nil_of_le (by omega)]
  rfl
 | k+1,m+1,i,c,hi,hm,hc=>by
  have a:i<t.fields.length:=by omega
  rw [QF _ _ a] at hc
  rw [Hg,Av,Ad a]
  rw [Ae rfl,AD a,Ab,hr _ (List.getElem_mem a),Ab]
  rw [Ae (by unfold B2;omega),Ae (AA (by omega)),QF _ _ a,←Nat.add_assoc]
  exact UK rec n t hr hl k m (i+1) (c+t.fields[i].2.2.2.1.size) (by omega) (by omega) (by omega)
theorem Wl (rec:Ty→Option Int) (n:Nat) (t:Ty) (hs:t.size≤1000000000) (hn:t.fields.length<n) (hr:∀ x∈t.elem,rec x=some (x.size:Int)) (hr2:∀ p∈t.fields,rec p.2.2.2.1=some (p.2.2.2.1.size:Int)):∀ (k m i c:Nat),i+k=t.elem.length→k<m→c+Hi (t.elem.drop i)+EQ t.fields≤1000000000 →
  Ig rec n t m (c:Int) i=some ((c+Hi (t.elem.drop i)+EQ t.fields:Nat):Int)
 | k,0,i,c,_,h,_=>absurd h (Nat.not_lt_zero _)
 | 0,m+1,i,c,hi,_,hc=>by
  have:=t.lens
  rw [Ig,Av,Ac (show ¬ i<t.elem.length by omega),List.drop_eq_nil_of_le (by omega)]
  have:=UK rec n t hr2 (by omega) t.fields.length n 0 c (by omega) hn (by rw [List.drop_zero];omega)
  rw [List.drop_zero] at this
  exact this
 | k+1,m+1,i,c,hi,hm,hc=>by
  have:=t.lens
  have a:i<t.elem.length:=by omega
  rw [SZ _ _ a] at hc
  rw [Ig,Av,Ad a]
  rw [Ae rfl,AD a,Ab,hr _ (List.getElem_mem a),Ab]
  rw [Ae (by unfold B2;omega),Ae (AA (by omega)),SZ _ _ a,←Nat.add_assoc]
  exact Wl rec n t hs hn hr hr2 k m (i+1) (c+t.elem[i].size) (by omega) (by omega) (by omega)
theorem RI:∀ (n:Nat) (t:Ty),t.size<n→t.size≤1000000000→I6 n t=some (t.size:Int)
 | 0,t,h,_=>absurd h (Nat.not_lt_zero _)
 | n+1,t,h,hs=>by
  have d:=t.lens
  have c:=t.size_eq
  rw [I6,PH]
  have:=Wl (I6 n) n t hs (by omega) (fun x b=>RI n x (by have:=t.elem_size x b;omega) (by have:=t.elem_size x b;omega)) (fun p a=>RI n _ (by have:=t.field_size p a;omega) (by have:=t.field_size p a;omega)) t.elem.length n 0 1 (by omega) (by omega) (by rw [List.drop_zero];omega)
  rw [List.drop_zero,←c] at this
  exact this
theorem QY (l:List Ty) (i:Nat) (h:i<l.length):Ej (l.drop i)=Max.max l[i].depth (Ej (l.drop (i+1))):=by rw [List.drop_eq_getElem_cons h,Ej]
theorem P0 (l:List TF) (i:Nat) (h:i<l.length):Dq (l.drop i)=Max.max l[i].2.2.2.1.depth (Dq (l.drop (i+1))):=by
 rw [List.drop_eq_getElem_cons h];rfl
theorem Za2 (a b:Nat):(if (a:Int)<(b:Int) then (b:Int) else (a:Int))=((Max.max a b:Nat):Int):=by
 split<;>omega
theorem SO (rec:Ty→Option Int) (n:Nat) (t:Ty) (hr:∀ p∈t.fields,rec p.2.2.2.1=some (p.2.2.2.1.depth:Int)) (hl:t.fields.length≤1000000000):∀ (k m i c:Nat),i+k=t.fields.length→k<m→Max.max c (Dq (t.fields.drop i))≤1000000000 →
  Gs rec n t m (c:Int) i=some ((Max.max c (Dq (t.fields.drop i))+1:Nat):Int)
 | k,0,i,c,_,h,_=>absurd h (Nat.not_lt_zero _)
 | 0,m+1,i,c,hi,_,hc=>by
  rw [Gs,Av,Ac (show ¬ i<t.fields.length by omega),List.drop_eq_nil_of_le (by omega),Af (by decide),Kt,Ae (by unfold B2;omega)]
  simp [Dq]
 | k+1,m+1,i,c,hi,hm,hc=>by
  have a:i<t.fields.length:=by omega
  rw [P0 _ _ a] at hc
  rw [Gs,Av,Ad a]
  rw [Ae rfl,AD a,Ab,hr _ (List.getElem_mem a),Ab]
  rw [Ae (AA (by omega)),P0 _ _ a,Za2,←Nat.max_assoc]
  exact SO rec n t hr hl k m (i+1) _ (by omega) (by omega) (by omega)
theorem Us (rec:Ty→Option Int) (n:Nat) (t:Ty) (hs:t.size≤1000000000) (hn:t.fields.length<n) (hr:∀ x∈t.elem,rec x=some (x.depth:Int)) (hr2:∀ p∈t.fields,rec p.2.2.2.1=some (p.2.2.2.1.depth:Int)):∀ (k m i c:Nat),i+k=t.elem.length→k<m→Max.max (Max.max c (Ej (t.elem.drop i))) (Dq t.fields)≤1000000000 →
  G6 rec n t m (c:Int) i=some ((Max.max (Max.max c (Ej (t.elem.drop i))) (Dq t.fields)+1:Nat):Int)
 | k,0,i,c,_,h,_=>absurd h (Nat.not_lt_zero _)
 | 0,m+1,i,c,hi,_,hc=>by
  have:=t.lens
  rw [G6,Av,Ac (show ¬ i<t.elem.length by omega),Af (by decide)]
  rw [List.drop_eq_nil_of_le (by omega)] at hc ⊢
  have h:=SO rec n t hr2 (by omega) t.fields.length n 0 c (by omega) hn (by rw [List.drop_zero];simp only [Ej] at hc;omega)
  rw [List.drop_zero] at h
  rw [LC]
  refine h.trans ?_
  simp only [Ej,Nat.max_zero]
 | k+1,m+1,i,c,hi,hm,hc=>by
  have:=t.lens
  have a:i<t.elem.length:=by omega
  rw [QY _ _ a] at hc
  rw [G6,Av,Ad a]
  rw [Ae rfl,AD a,Ab,hr _ (List.getElem_mem a),Ab]
  rw [Ae (AA (by omega)),QY _ _ a,Za2,←Nat.max_assoc]
  exact Us rec n t hs hn hr hr2 k m (i+1) _ (by omega) (by omega) (by omega)
mutual
theorem Ty.depth_size:∀ v:Ty,v.depth≤v.size
 | .mk _ _ _ _ _ l f=>by have:=Rq l;have:=PU f;simp only [Ty.depth,Ty.size];omega
theorem Rq:∀ l:List Ty,Ej l≤Hi l
 | []=>Nat.le_refl _
 | v::r=>by have:=v.depth_size;have:=Rq r;simp only [Ej,Hi];omega
theorem PU:∀ l:List TF,Dq l≤EQ l
 | []=>Nat.le_refl _
 | (_,_,_,v,_)::r=>by have:=v.depth_size;have:=PU r;simp only [Dq,EQ];omega
end
theorem Qf:∀ (n:Nat) (t:Ty),t.size<n→t.size≤1000000000→H9 n t=some (t.depth:Int)
 | 0,t,h,_=>absurd h (Nat.not_lt_zero _)
 | n+1,t,h,hs=>by
  have d:=t.lens
  have c:=t.depth_eq
  have hd:=t.depth_size
  rw [H9,NY]
  have:=Us (H9 n) n t hs (by omega) (fun x b=>Qf n x (by have:=t.elem_size x b;omega) (by have:=t.elem_size x b;omega)) (fun p a=>Qf n _ (by have:=t.field_size p a;omega) (by have:=t.field_size p a;omega)) t.elem.length n 0 0 (by omega) (by omega) (by rw [List.drop_zero];omega)
  rw [List.drop_zero,Nat.zero_max,Nat.add_comm,←c] at this
  exact this
theorem N8 (n:Nat) (t:Ty) (hn:t.size<n) (hs:t.size≤1000000000):G4 n t=some (decide (t.depth≤10∧t.size≤60)):=by
 rw [G4,Qf n t hn hs,Ab]
 by_cases h:t.depth≤10
 ·rw [Ad (show (t.depth:Int)≤10 by omega),Ae rfl,RI n t hn hs,Ab]
  congr 1
  rw [decide_eq_decide]
  omega
 ·rw [Ac (show ¬ (t.depth:Int)≤10 by omega),Af (by decide)]
  congr 1
  exact (Ac (by omega)).symm
theorem Wm:∀ (l:List (Nat × Vl)) (b:Int),∃ c,H8 l b=some c
 | [],b=>⟨b,rfl⟩
 | p::r,b=>by rw [H8];exact Wm r _
theorem Zdh (v:Vl) (h:v.size≤1048576):∃ b,Ov v=some b:=by
 obtain ⟨c,a⟩:=Wm (Ff 1 v) 0
 rw [Ov,PM,Ae ⟨by have:=v.depth_size;omega,Hy _ v (Nat.le_refl _) (by omega)⟩,a,Ab]
 by_cases q:c≤12
 ·rw [Ad q,Ae rfl,ZK v h];exact ⟨_,rfl⟩
 ·rw [Ac q,Af (by decide)];exact ⟨_,rfl⟩
def BW (h:ByteArray) (g:Int) (b:List (ByteArray × Int)):Option ((List (ByteArray × Int))) :=
 if (b.length+1)*24≤140737488355328∧b.length+1≤4611686018427387904 then
  some (b++([(h,g)]))
 else none
theorem CH (w0:World) (B:List (List AV)) (Rw:List RowA) (L:List LoopA) (a0:ByteArray) (a1:Int) (la2:Nat) (a2:List (ByteArray × Int)) (oa2:Ev.Own) (hla2:B[la2]? = some [.list (a2.map JP) oa2]) (hGa2:Owns Rw Rw [(2,a2.length,oa2)] oa2) (r:(List (ByteArray × Int))) (h:BW a0 a1 a2=some r) :
  ACalls Tryz.prog w0 96 [.val (.string a0),.val (.int .i64 a1),.box la2 0] ⟨B,Rw,L⟩ fun x st=>x = .tup []∧∃ (R1:List RowA) (o1:Ev.Own),st=⟨(B.set la2 [.list (r.map JP) o1]),R1,L⟩∧Owns Rw R1 [(2,r.length,o1)] oa2:=by
 rw [BW] at h
 refine ACalls.finG (EE (rs:=[]) Tryz.func96 rfl rfl Tryz.ntmps96 (Bh Tryz.func96 rfl (by decide)) (Nat.le_of_ble_eq_true rfl) ?_)
 intro M0 W0 l i j b k
 dsimp only at l i j b k
 simp only [As]
 have c:=hGa2
 have hs:=Zbr
 have f:=(Ag.1 hla2).1
 obtain ⟨d,h⟩:=Aj h
 obtain ⟨e,g,c,a⟩:=c.append (P:=Tryz.prog) Zh4 (by rw [Zco];rfl) (by decide) 1 d.1 d.2
 replace a:=fun (ys:List AV) B L e=>a (a2.map JP) ys B L e F6
 replace a:=fun (y:AV) B L e=>a [y] B L e F6 ev
 try simp only [List.mem_singleton,List.mem_cons,List.not_mem_nil,or_false,forall_eq_or_imp,forall_eq,List.map_append,List.map_cons,List.map_nil,HM,HO,HN,HK,HI,Hk,FB,FD,HL,Ec,D7,Fv,Fp,Fj] at a
 apply Ao 1 []
 rw [Am];simp +decide only [go_sem,Nat.reduceAdd,An hla2,a]
 (repeat' with_reducible apply Aa)<;>first | exact cl | skip
 have hgt:=Option.some.inj h;subst hgt
 have m:=c.unders
 simp only [List.mem_cons,List.not_mem_nil,or_false,forall_eq_or_imp,forall_eq] at m
 refine Zaq c (Ap (FA b c.len) ow) HT ev ⟨?_,_,_,?_,(c.sub (List.sublist_append_left [_] _)).len1 F6⟩
 all_goals first | rfl | (simp +decide only [go_sem,Nat.reduceAdd,An hla2,a];done) | (simp +decide only [go_sem,Nat.reduceAdd,Vl.cs,Ty.cs,An hla2,a];done)
def Gp (q:Bool) (b:List (ByteArray × Int)) (g:ByteArray):Option ((List (ByteArray × Int))) :=
 if q then
  (BW g 6 b).bind fun s =>
  some (s)
 else
  (BW g 7 b).bind fun h =>
  some (h)
theorem J6 (w0:World) (B:List (List AV)) (Rw:List RowA) (L:List LoopA) (a0:Bool) (la1:Nat) (a1:List (ByteArray × Int)) (oa1:Ev.Own) (hla1:B[la1]? = some [.list (a1.map JP) oa1]) (hGa1:Owns Rw Rw [(2,a1.length,oa1)] oa1) (lb1:Nat) (hlb1:B[lb1]? = some [.clo 96 [.box la1 0]]) (la2:Nat) (a2:ByteArray) (hla2:B[la2]? = some ([.val (.string a2)])) (r:(List (ByteArray × Int))) (h:Gp a0 a1 a2=some r) :
  ACalls Tryz.prog w0 161 [.val (.bool a0),.box lb1 0,.box la2 0] ⟨B,Rw,L⟩ fun x st=>x = .tup []∧∃ (R1:List RowA) (o1:Ev.Own),st=⟨(B.set la1 [.list (r.map JP) o1]),R1,L⟩∧Owns Rw R1 [(2,r.length,o1)] oa1:=by
 rw [Gp] at h
 refine ACalls.finG (EE (rs:=[]) Tryz.func161 rfl rfl Tryz.ntmps161 (Bh Tryz.func161 rfl (by decide)) (Nat.le_of_ble_eq_true rfl) ?_)
 intro M0 W0 v p m c u
 dsimp only at v p m c u
 simp only [As]
 have d:=hGa1
 have hs:=Zbr
 have j:=(Ag.1 hla1).1
 have g:=(Ag.1 hlb1).1
 have a:la1≠lb1:=fun q=>by have k:=hla1;rw [q,hlb1] at k;cases k
 have i:=(Ag.1 hla2).1
 have hs:=Aa (An hla1) hs
 have hs:=Aa (An hlb1) hs
 have hs:=Aa (C4 hlb1 a) hs
 have hs:=Aa (An hla2) hs
 refine rg [1,2,4] hs ?_
 refine AK h hs (fun hs h=>?_) (fun hs h=>?_)
 ·have b:=hs.1
  obtain ⟨y,n,h⟩:=bind_some h
  apply Ao 2 []
  rw [Am];simp +decide only [go_sem,Nat.reduceAdd,An hla1,An hlb1,C4 hlb1 a,An hla2,b]
  (repeat' apply Aa)<;>first | (refine BE _ (CH w0 _ _ _ a2 6 la1 a1 oa1 (ef hs) d.enter _ n) (hv hs) ?_;rintro _ _ ⟨rfl,Rg4,t,rfl,f⟩) | exact cl
  have d:=d.call f
  rw [Am];simp +decide only [go_sem,Nat.reduceAdd,An hla1,An hlb1,C4 hlb1 a,An hla2,b]
  (repeat' with_reducible apply Aa)<;>first | exact cl | skip
  have hgt:=Option.some.inj h;subst hgt
  have l:=d.unders
  simp only [List.mem_cons,List.not_mem_nil,or_false,forall_eq_or_imp,forall_eq] at l
  refine Zaq d (Ap (FA c d.len) ow) HT ev ⟨?_,_,_,?_,(d.sub (List.sublist_append_left [_] _)).len1 F6⟩
  all_goals first | rfl | (simp +decide only [go_sem,Nat.reduceAdd,An hla1,An hlb1,C4 hlb1 a,An hla2,b];done) | (simp +decide only [go_sem,Nat.reduceAdd,Vl.cs,Ty.cs,An hla1,An hlb1,C4 hlb1 a,An hla2,b];done)
 have b:=hs.1
 obtain ⟨w,o,h⟩:=bind_some h
 apply Ao 2 []
 rw [Am];simp +decide only [go_sem,Nat.reduceAdd,An hla1,An hlb1,C4 hlb1 a,An hla2,b]
 (repeat' apply Aa)<;>first | (refine BE _ (CH w0 _ _ _ a2 7 la1 a1 oa1 (ef hs) d.enter _ o) (hv hs) ?_;rintro _ _ ⟨rfl,Rg7,s,rfl,e⟩) | exact cl
 have d:=d.call e
 rw [Am];simp +decide only [go_sem,Nat.reduceAdd,An hla1,An hlb1,C4 hlb1 a,An hla2,b]
 (repeat' with_reducible apply Aa)<;>first | exact cl | skip
 have hgt:=Option.some.inj h;subst hgt
 have l:=d.unders
 simp only [List.mem_cons,List.not_mem_nil,or_false,forall_eq_or_imp,forall_eq] at l
 refine Zaq d (Ap (FA c d.len) ow) HT ev ⟨?_,_,_,?_,(d.sub (List.sublist_append_left [_] _)).len1 F6⟩
 all_goals first | rfl | (simp +decide only [go_sem,Nat.reduceAdd,An hla1,An hlb1,C4 hlb1 a,An hla2,b];done) | (simp +decide only [go_sem,Nat.reduceAdd,Vl.cs,Ty.cs,An hla1,An hlb1,C4 hlb1 a,An hla2,b];done)
def Dc (g:ByteArray) (h:Ty) (b:ByteArray):Option ByteArray :=
 if decide (h.kind=10) then
  if b.size+((⟨#[63]⟩:ByteArray)).size≤9223372036854775807 then
   if (b++((⟨#[63]⟩:ByteArray))).size+g.size≤9223372036854775807 then
    some ((b++((⟨#[63]⟩:ByteArray)))++g)
   else none
  else none
 else
  if DR b ((⟨#[]⟩:ByteArray)) then
   some (g)
  else
   if b.size+((⟨#[46]⟩:ByteArray)).size≤9223372036854775807 then
    if (b++((⟨#[46]⟩:ByteArray))).size+g.size≤9223372036854775807 then
     some ((b++((⟨#[46]⟩:ByteArray)))++g)
    else none
   else none
theorem En (w0:World) (B:List (List AV)) (Rw:List RowA) (L:List LoopA) (a0:ByteArray) (la1:Nat) (a1:Ty) (hla1:B[la1]? = some (a1.cs)) (la2:Nat) (a2:ByteArray) (hla2:B[la2]? = some ([.val (.string a2)])) (r:ByteArray) (h:Dc a0 a1 a2=some r) :
  ACalls Tryz.prog w0 162 [.val (.string a0),.box la1 0,.box la2 0] ⟨B,Rw,L⟩ fun x st=>x = .val (.string r)∧st=⟨B,Rw,L⟩:=by
 rw [Dc] at h
 refine hd [.tmp 4] Tryz.func162 Tryz.ntmps162 fun M0 W0 s o p a q n hs=>?_
 simp only [As]
 have j:=(Ag.1 hla1).1
 have k:=(Ag.1 hla2).1
 have hs:=Aa (An hla1) hs
 have hs:=Aa (An hla2) hs
 refine rg [0,1,2] hs ?_
 apply Ah;intro K2 f
 apply Ak
 refine rg [0,2,5] hs ?_
 refine AK h hs (fun hs h=>?_) (fun hs h=>?_)
 ·obtain ⟨l,h⟩:=Aj h
  have d:=l
  try simp +decide only [go_sem] at d
  obtain ⟨m,h⟩:=Aj h
  have g:=m
  try simp +decide only [go_sem] at g
  refine rg [4] hs ?_
  exact rt h hs a n
 refine rg [0,2,13] hs ?_
 refine AK h hs (fun hs h=>?_) (fun hs h=>?_)
 ·refine rg [4] hs ?_
  exact rt h hs a n
 refine sk [0,2] hs f ?_
 clear f
 obtain ⟨e,h⟩:=Aj h
 have b:=e
 try simp +decide only [go_sem] at b
 obtain ⟨i,h⟩:=Aj h
 have c:=i
 try simp +decide only [go_sem] at c
 refine rg [4] hs ?_
 exact rt h hs a n
def Gv (rec:Ty→Ty→ByteArray→(List (ByteArray × Int))→Option ((List (ByteArray × Int)))) (n:Nat) (g:Int→(List (ByteArray × Int))→Option ((List (ByteArray × Int)))) (b:Int) (pla3_k20:List (ByteArray × Int)):Option ((List (ByteArray × Int))) :=
 if B2 (b+1) then
  g (b+1) pla3_k20
 else none
def Gk (rec:Ty→Ty→ByteArray→(List (ByteArray × Int))→Option ((List (ByteArray × Int)))) (n:Nat) (g:Int→(List (ByteArray × Int))→Option ((List (ByteArray × Int)))) (b:Int) (pla3_k63:List (ByteArray × Int)):Option ((List (ByteArray × Int))) :=
 if B2 (b+1) then
  g (b+1) pla3_k63
 else none
def Gj (rec:Ty→Ty→ByteArray→(List (ByteArray × Int))→Option ((List (ByteArray × Int)))) (n:Nat) (y:Ty) (s:Ty) (q:ByteArray) (pla3_k79:List (ByteArray × Int)):Option ((List (ByteArray × Int))) :=
 (Ci y.elem 0).bind fun b =>
 (Ci s.elem 0).bind fun h =>
 if q.size+((⟨#[91,42,93]⟩:ByteArray)).size≤9223372036854775807 then
  (rec b h (q++((⟨#[91,42,93]⟩:ByteArray))) pla3_k79).bind fun g =>
  some (g)
 else none
def Gx (rec:Ty→Ty→ByteArray→(List (ByteArray × Int))→Option ((List (ByteArray × Int)))) (n:Nat) (b:Int→(List (ByteArray × Int))→Option ((List (ByteArray × Int)))) (a1:Ty) (a2:ByteArray) (g:Int) (h:Int × ByteArray × Int × Ty × List Vl) (s:((Int × ByteArray × Int × Ty × List Vl) × Bool)) (pla3_k44:List (ByteArray × Int)):Option ((List (ByteArray × Int))) :=
 (Dc h.2.1 a1 a2).bind fun q =>
 (rec s.1.2.2.2.1 h.2.2.2.1 q pla3_k44).bind fun y =>
 Gv rec n b g y
def DZ (rec:Ty→Ty→ByteArray→(List (ByteArray × Int))→Option ((List (ByteArray × Int)))) (n:Nat) (q:Ty) (h:Ty) (a2:ByteArray):Nat→Int→(List (ByteArray × Int))→Option ((List (ByteArray × Int)))
 | 0,_,_=>none
 | m+1,b,pla3_l58 =>
  if decide (b<(q.fields.length:Int)) then
   (Ci q.fields b).bind fun g =>
   (CY n h.fields g.1).bind fun y68 =>
   if !y68.2 then
    (Dc g.2.1 h a2).bind fun s =>
    (BW s 2 pla3_l58).bind fun y =>
    Gk rec n (DZ rec n q h a2 m) b y
   else
    Gk rec n (DZ rec n q h a2 m) b pla3_l58
  else
   some (pla3_l58)
def Gy (rec:Ty→Ty→ByteArray→(List (ByteArray × Int))→Option ((List (ByteArray × Int)))) (n:Nat) (b:Int→(List (ByteArray × Int))→Option ((List (ByteArray × Int)))) (s:Ty) (a2:ByteArray) (g:Int) (h:Int × ByteArray × Int × Ty × List Vl) (q:((Int × ByteArray × Int × Ty × List Vl) × Bool)) (pla3_k35:List (ByteArray × Int)):Option ((List (ByteArray × Int))) :=
 if !(decide (q.1.2.2.1=h.2.2.1)) then
  (Dc h.2.1 s a2).bind fun y48 =>
  (BW y48 4 pla3_k35).bind fun y =>
  Gx rec n b s a2 g h q y
 else
  Gx rec n b s a2 g h q pla3_k35
def Ie (rec:Ty→Ty→ByteArray→(List (ByteArray × Int))→Option ((List (ByteArray × Int)))) (n:Nat) (h:Ty) (b:Ty) (g:ByteArray) (pla3_k12:List (ByteArray × Int)):Option ((List (ByteArray × Int))) :=
 DZ rec n h b g n 0 pla3_k12
def BX (rec:Ty→Ty→ByteArray→(List (ByteArray × Int))→Option ((List (ByteArray × Int)))) (n:Nat) (y:Ty) (h:Ty) (s:ByteArray):Nat→Int→(List (ByteArray × Int))→Option ((List (ByteArray × Int)))
 | 0,_,_=>none
 | m+1,b,pla3_l15 =>
  if decide (b<(h.fields.length:Int)) then
   (Ci h.fields b).bind fun g =>
   (CY n y.fields g.1).bind fun q =>
   if !q.2 then
    (Dc g.2.1 h s).bind fun y30 =>
    (BW y30 1 pla3_l15).bind fun y31 =>
    Gv rec n (BX rec n y h s m) b y31
   else
    if !(DR q.1.2.1 g.2.1) then
     (Dc g.2.1 h s).bind fun y39 =>
     (BW y39 3 pla3_l15).bind fun y40 =>
     Gy rec n (BX rec n y h s m) h s b g q y40
    else
     Gy rec n (BX rec n y h s m) h s b g q pla3_l15
  else
   Ie rec n y h s pla3_l15
def I2 (rec:Ty→Ty→ByteArray→(List (ByteArray × Int))→Option ((List (ByteArray × Int)))) (n:Nat) (g:Ty) (b:Ty) (h:ByteArray) (q:List (ByteArray × Int)):Option ((List (ByteArray × Int))) :=
 if !(Dt g.kind b.kind) then
  (BW h 5 q).bind fun y5 =>
  some (y5)
 else
  if (decide (b.kind=9))||(decide (b.kind=10)) then
   BX rec n g b h n 0 q
  else
   if decide (b.kind=8) then
    if (!(decide (g.min=b.min)))||(!(decide (g.max=b.max))) then
     (Gp (C0 g b) q h).bind fun y83 =>
     Gj rec n g b h y83
    else
     Gj rec n g b h q
   else
    (Pz n g b).bind fun y =>
    if !y then
     (AP n g b).bind fun s =>
     (Gp s q h).bind fun y96 =>
     some (y96)
    else
     some (q)
def Hu:Nat→Ty→Ty→ByteArray→(List (ByteArray × Int))→Option ((List (ByteArray × Int)))
 | 0,_,_,_,_=>none
 | n+1,h,b,q,g=>I2 (Hu n) n h b q g
def I3 (w0:World) (F:Ty→Ty→ByteArray→(List (ByteArray × Int))→Option ((List (ByteArray × Int)))):Prop:=∀ (B:List (List AV)) (Rw:List RowA) (L:List LoopA) (h:Ty) (g:Ty) (q:ByteArray) (la3:Nat) (b:List (ByteArray × Int)) (oa3:Ev.Own) (hla3:B[la3]? = some [.list (b.map JP) oa3]) (hGa3:Owns Rw Rw [(2,b.length,oa3)] oa3) (r:(List (ByteArray × Int))),F h g q b=some r→ACalls Tryz.prog w0 95 [.agg (h.cs),.agg (g.cs),.val (.string q),.clo 96 [.box la3 0]] ⟨B,Rw,L⟩ fun x st=>x = .tup []∧∃ (R1:List RowA) (o1:Ev.Own),st=⟨(B.set la3 [.list (r.map JP) o1]),R1,L⟩∧Owns Rw R1 [(2,r.length,o1)] oa3
theorem PP (w0:World) (rec:Ty→Ty→ByteArray→(List (ByteArray × Int))→Option ((List (ByteArray × Int)))) (ih:I3 w0 rec) (n:Nat):I3 w0 (I2 rec n):=by
 intro B Rw L a0 a1 a2 p a3 ak a b6 r h
 rw [I2] at h
 refine ACalls.finG (EE (rs:=[]) Tryz.func95 rfl rfl Tryz.ntmps95 (Bh Tryz.func95 rfl (by decide)) (Nat.le_of_ble_eq_true rfl) ?_)
 intro M0 W0 hN ap ao v hu
 dsimp only at hN ap ao v hu
 simp only [As]
 have l:=b6
 have hs:=Zbr
 have ce:=(Ag.1 a).1
 have hs:=Aa (An a) hs
 refine rg [4,5,6,7] hs ?_
 refine rg [4,5,6,7,8] hs ?_
 apply Ak
 refine rc 2 [4,5,6,7,8,19] hs ?_;intro K3 bu
 refine Ai _ (J0 w0 _ _ _ a0.kind a1.kind) (hv hs) ?_
 refine ne hs bu ?_
 clear bu
 refine AK h hs (fun hs h=>?_) (fun hs h=>?_)
 ·have c:=hs.1
  obtain ⟨y5,cj,h⟩:=bind_some h
  apply Ao 2 []
  rw [Am];simp +decide only [go_sem,Nat.reduceAdd,An a,c]
  (repeat' apply Aa)<;>first | (refine BE _ (CH w0 _ _ _ a2 5 p a3 ak (ef hs) l.enter _ cj) (hv hs) ?_;rintro _ _ ⟨rfl,Rg6,c9,rfl,bg⟩) | exact cl
  have l:=l.call bg
  rw [Am];simp +decide only [go_sem,Nat.reduceAdd,An a,c]
  (repeat' with_reducible apply Aa)<;>first | exact cl | skip
  have hgt:=Option.some.inj h;subst hgt
  have hU:=l.unders
  simp only [List.mem_cons,List.not_mem_nil,or_false,forall_eq_or_imp,forall_eq] at hU
  refine Sl l (Ap (FA v l.len) ow) HT ev ⟨?_,_,_,?_,(l.sub (List.sublist_append_left [_] _)).len1 F6⟩
  all_goals first | rfl | (simp +decide only [go_sem,Nat.reduceAdd,An a,c];done) | (simp +decide only [go_sem,Nat.reduceAdd,Vl.cs,Ty.cs,An a,c];done)
 have c:=hs.1
 refine rg [4,5,6,7,8,29] hs ?_
 refine AK h hs (fun hs h=>?_) (fun hs h=>?_)
 ·have d:=hs.1
  refine rg [4,5,7,9] hs ?_
  refine Au (fun e st=>∃ (K:List (ByteArray × Int)) (Z:Ev.Own) (Xk12:List (List AV)) (Rk12:List RowA),e=[(4,true,.box B.length 0),(5,true,.box (B.length+1) 0),(7,true,.box (B.length+3) 0),(9,true,.clo 162 [.box (B.length+1) 0,.box (B.length+2) 0])]∧st=⟨(B.set p ([.list (K.map JP) Z]))++([a0.cs,a1.cs,[.val (.string a2)],[.clo 96 [.box p 0]]]++Xk12),Rk12,L⟩∧Owns Rw Rk12 [(2,K.length,Z)] ak∧Ie rec n a0 a1 a2 K=some r) ?_ ?_
  ·intro K13 bx
   refine rg [4,5,7,9,40,41,42] hs ?_
   apply Ak
   refine Az (fun m e st=>∃ (q:Int) (u:List (ByteArray × Int)) (t:Ev.Own) (Xl15:List (List AV)) (Rl15:List RowA),e=[(4,true,.box B.length 0),(5,true,.box (B.length+1) 0),(7,true,.box (B.length+3) 0),(9,true,.clo 162 [.box (B.length+1) 0,.box (B.length+2) 0]),(40,true,.list (a1.fields.map CJ) .none),(41,true,.val (.int .i64 (a1.fields.length:Int))),(42,true,.val (.int .i64 q))]∧st=⟨(B.set p ([.list (u.map JP) t]))++([a0.cs,a1.cs,[.val (.string a2)],[.clo 96 [.box p 0]]]++Xl15),Rl15,L⟩∧Owns Rw Rl15 [(2,u.length,t)] ak∧BX rec n a0 a1 a2 m q u=some r) n ⟨0,a3,ak,([]),Rw,ef hs,ef hs,Owns.of_eq (l) F6,h⟩ ?_
   rintro ml15 e st ⟨q,u,t,Xl15,Rl15,rfl,rfl,l,h⟩ Ul15 Vl15
   cases ml15 with
   | zero=>cases h
   | succ ml15 =>
   rw [BX] at h
   have hU:=l.unders
   simp only [List.mem_cons,List.not_mem_nil,or_false,forall_eq_or_imp,forall_eq] at hU
   refine Ip hN ap ao HT (Ap (FA v l.len) ow) l ow ow ?_
   refine rg [4,5,7,9,40,41,42,43] hs ?_
   apply Ah;intro K17 a6
   refine AK h hs (fun hs h=>?_) (fun hs h=>?_)
   rotate_left
   ·have j:=hs.1
    refine sx [4,5,7,9] hs bx ?_
    exact ⟨u,t,([]),Rl15,ef hs,ef hs,Owns.of_eq (l) F6,h⟩
   have j:=hs.1
   refine sk [4,5,7,9,40,41,42] hs a6 ?_
   clear a6
   refine Au (fun e st=>∃ (U:List (ByteArray × Int)) (aa:Ev.Own) (Xk20:List (List AV)) (Rk20:List RowA),e=[(4,true,.box B.length 0),(5,true,.box (B.length+1) 0),(7,true,.box (B.length+3) 0),(9,true,.clo 162 [.box (B.length+1) 0,.box (B.length+2) 0]),(40,true,.list (a1.fields.map CJ) .none),(41,true,.val (.int .i64 (a1.fields.length:Int))),(42,true,.val (.int .i64 q))]∧st=⟨(B.set p ([.list (U.map JP) aa]))++([a0.cs,a1.cs,[.val (.string a2)],[.clo 96 [.box p 0]]]++Xk20),Rk20,L⟩∧Owns Rw Rk20 [(2,U.length,aa)] ak∧Gv rec n (BX rec n a0 a1 a2 ml15) q U=some r) ?_ ?_
   ·intro K21 a7
    apply Ak
    obtain ⟨k,bv,h⟩:=bind_some h
    obtain ⟨c2,cp,bi⟩:=Aw bv
    have b:=Ax (f:=CJ) bi
    have hs:=Aa b hs
    refine rg [4,5,7,9,11,40,41,42] hs ?_
    obtain ⟨o,b1,h⟩:=bind_some h
    refine rc 2 [4,5,7,9,11,12,13,40,41,42] hs ?_;intro K24 bb
    refine Ai _ (EH w0 n _ _ _ a0.fields k.1 _ b1) (hv hs) ?_
    refine ne hs bb ?_
    clear bb
    apply Ah;intro K26 bc
    refine rg [4,5,7,9,11,12,40,41,42,55] hs ?_
    refine AK h hs (fun hs h=>?_) (fun hs h=>?_)
    ·have g:=hs.1
     apply Ah;intro K29 a9
     obtain ⟨c3,cb,h⟩:=bind_some h
     obtain ⟨ck,b0,h⟩:=bind_some h
     apply MX HD [5] [4,5,7,9,40,41,42] kr (fun s=>∃ (X:List (List AV)) (rows:List RowA) (x:List AV),s=⟨(B.set p x)++([a0.cs,a1.cs,[.val (.string a2)],[.clo 96 [.box p 0]],.val (.int .i64 k.1)::(.val (.string k.2.1)::(.val (.int .i64 k.2.2.1)::((k.2.2.2.1.cs)++([.list (k.2.2.2.2.map Bq) .none])))),.val (.int .i64 o.1.1)::(.val (.string o.1.2.1)::(.val (.int .i64 o.1.2.2.1)::((o.1.2.2.2.1.cs)++([.list (o.1.2.2.2.2.map Bq) .none]))))]++X),rows,L⟩) 2 (B.length+6)
     ·simp +decide only [go_sem,Nat.reduceAdd]
     ·rintro s ⟨X,rows,x,rfl⟩
      refine ⟨2,?_⟩
      rw [Am];simp +decide only [go_sem,Nat.reduceAdd,EM,An a,c,d,j,b,g]
      (repeat' apply Aa)<;>first | refine Ai _ (En w0 _ _ _ k.2.1 (B.length+1) a1 (ef hs) (B.length+2) a2 (ef hs) _ cb) (hv hs) ?_ | exact cl
      rw [Am];simp +decide only [go_sem,Nat.reduceAdd,An a,c,d,j,b,g]
      (repeat' apply Aa)<;>first | rfl | exact cl
     ·refine Good.mk [5] kr ⟨[],_,_,by first | rfl | simp only [List.append_nil,List.nil_append]⟩ ?_ ?_
      ·intro h;exact absurd h (by decide)
      ·intro i hi;simp only [List.mem_cons,List.not_mem_nil,or_false] at hi
       subst hi
       ·apply Jg rfl rfl ev rfl
        ·simp +decide only [go_sem,Nat.reduceAdd,An a,c,d,j,b,g]
        ·simp +decide only [go_sem,Nat.reduceAdd,An a,c,d,j,b,g]
        ·simp +decide only [go_sem,Nat.reduceAdd,An a,c,d,j,b,g]
         exact (CH w0 _ _ _ c3 1 p u t (ef hs) l.enter _ b0).pub (hv hs)
        ·rintro _ _ ⟨rfl,Rg32,br,rfl,av⟩
         have l:=l.call av
         simp +decide only [go_sem,Nat.reduceAdd,An a,c,d,j,b,g]
         refine Good.mk [] kr ⟨[],_,_,by first | rfl | simp only [List.append_nil,List.nil_append]⟩ ?_ ?_
         ·intro _;refine ⟨_,_,DF [4,5,7,9,40,41,42] (by first | (simp +decide only [go_sem,Nat.reduceAdd,An a,c,d,j,b,g];done) | (simp +decide only [go_sem,Nat.reduceAdd,An a,c,d,j,b,g];rfl)),?_⟩
          try simp +decide only [go_sem,Nat.reduceAdd,An a,c,d,j,b,g]
          (repeat' apply Aa)<;>first | refine a9 _ _ ?_ | exact cl
          clear a9
          refine sx [4,5,7,9,40,41,42] hs a7 ?_
          exact ⟨ck,br,([.val (.int .i64 k.1)::(.val (.string k.2.1)::(.val (.int .i64 k.2.2.1)::((k.2.2.2.1.cs)++([.list (k.2.2.2.2.map Bq) .none])))),.val (.int .i64 o.1.1)::(.val (.string o.1.2.1)::(.val (.int .i64 o.1.2.2.1)::((o.1.2.2.2.1.cs)++([.list (o.1.2.2.2.2.map Bq) .none]))))]),Rg32,ef hs,ef hs,Owns.of_eq (l) F6,h⟩
         ·intro i hi;cases hi
    have g:=hs.1
    refine sk [4,5,7,9,11,12,40,41,42] hs bc ?_
    clear bc
    refine Au (fun e st=>∃ (D:List (ByteArray × Int)) (H:Ev.Own) (Xk35:List (List AV)) (Rk35:List RowA),e=[(4,true,.box B.length 0),(5,true,.box (B.length+1) 0),(7,true,.box (B.length+3) 0),(9,true,.clo 162 [.box (B.length+1) 0,.box (B.length+2) 0]),(11,true,.box (B.length+4) 0),(12,true,.box (B.length+5) 0),(40,true,.list (a1.fields.map CJ) .none),(41,true,.val (.int .i64 (a1.fields.length:Int))),(42,true,.val (.int .i64 q))]∧st=⟨(B.set p ([.list (D.map JP) H]))++([a0.cs,a1.cs,[.val (.string a2)],[.clo 96 [.box p 0]],.val (.int .i64 k.1)::(.val (.string k.2.1)::(.val (.int .i64 k.2.2.1)::((k.2.2.2.1.cs)++([.list (k.2.2.2.2.map Bq) .none])))),.val (.int .i64 o.1.1)::(.val (.string o.1.2.1)::(.val (.int .i64 o.1.2.2.1)::((o.1.2.2.2.1.cs)++([.list (o.1.2.2.2.2.map Bq) .none]))))]++Xk35),Rk35,L⟩∧Owns Rw Rk35 [(2,D.length,H)] ak∧Gy rec n (BX rec n a0 a1 a2 ml15) a1 a2 q k o D=some r) ?_ ?_
    ·intro K36 a4
     refine rg [4,5,7,9,11,12,40,41,42,66] hs ?_
     refine AK h hs (fun hs h=>?_) (fun hs h=>?_)
     ·have ai:=hs.1
      obtain ⟨c4,bz,h⟩:=bind_some h
      obtain ⟨cq,ca,h⟩:=bind_some h
      apply MX HD [5] [4,5,7,9,11,12,40,41,42] kr (fun s=>∃ (X:List (List AV)) (rows:List RowA) (x:List AV),s=⟨(B.set p x)++([a0.cs,a1.cs,[.val (.string a2)],[.clo 96 [.box p 0]],.val (.int .i64 k.1)::(.val (.string k.2.1)::(.val (.int .i64 k.2.2.1)::((k.2.2.2.1.cs)++([.list (k.2.2.2.2.map Bq) .none])))),.val (.int .i64 o.1.1)::(.val (.string o.1.2.1)::(.val (.int .i64 o.1.2.2.1)::((o.1.2.2.2.1.cs)++([.list (o.1.2.2.2.2.map Bq) .none]))))]++X),rows,L⟩) 2 (B.length+6)
      ·simp +decide only [go_sem,Nat.reduceAdd]
      ·rintro s ⟨X,rows,x,rfl⟩
       refine ⟨2,?_⟩
       rw [Am];simp +decide only [go_sem,Nat.reduceAdd,EM,An a,c,d,j,b,g,ai]
       (repeat' apply Aa)<;>first | refine Ai _ (En w0 _ _ _ k.2.1 (B.length+1) a1 (ef hs) (B.length+2) a2 (ef hs) _ bz) (hv hs) ?_ | exact cl
       rw [Am];simp +decide only [go_sem,Nat.reduceAdd,An a,c,d,j,b,g,ai]
       (repeat' apply Aa)<;>first | rfl | exact cl
      ·refine Good.mk [5] kr ⟨[],_,_,by first | rfl | simp only [List.append_nil,List.nil_append]⟩ ?_ ?_
       ·intro h;exact absurd h (by decide)
       ·intro i hi;simp only [List.mem_cons,List.not_mem_nil,or_false] at hi
        subst hi
        ·apply Jg rfl rfl ev rfl
         ·simp +decide only [go_sem,Nat.reduceAdd,An a,c,d,j,b,g,ai]
         ·simp +decide only [go_sem,Nat.reduceAdd,An a,c,d,j,b,g,ai]
         ·simp +decide only [go_sem,Nat.reduceAdd,An a,c,d,j,b,g,ai]
          exact (CH w0 _ _ _ c4 3 p u t (ef hs) l.enter _ ca).pub (hv hs)
         ·rintro _ _ ⟨rfl,Rg41,b8,rfl,aq⟩
          have l:=l.call aq
          simp +decide only [go_sem,Nat.reduceAdd,An a,c,d,j,b,g,ai]
          refine Good.mk [] kr ⟨[],_,_,by first | rfl | simp only [List.append_nil,List.nil_append]⟩ ?_ ?_
          ·intro _;refine ⟨_,_,DF [4,5,7,9,11,12,40,41,42] (by first | (simp +decide only [go_sem,Nat.reduceAdd,An a,c,d,j,b,g,ai];done) | (simp +decide only [go_sem,Nat.reduceAdd,An a,c,d,j,b,g,ai];rfl)),?_⟩
           try simp +decide only [go_sem,Nat.reduceAdd,An a,c,d,j,b,g,ai]
           (repeat' apply Aa)<;>first | refine a4 _ _ ⟨cq,b8,([]),Rg41,ef hs,ef hs,Owns.of_eq (l) F6,h⟩ | exact cl
          ·intro i hi;cases hi
     have ai:=hs.1
     refine sk [4,5,7,9,11,12,40,41,42] hs a4 ?_
     exact ⟨u,t,([]),Rl15,ef hs,ef hs,Owns.of_eq (l) F6,h⟩
    ·clear h;rintro e st ⟨D,H,Xk35,Rk35,rfl,rfl,l,h⟩
     rw [Gy] at h
     have hU:=l.unders
     simp only [List.mem_cons,List.not_mem_nil,or_false,forall_eq_or_imp,forall_eq] at hU
     refine Ip hN ap ao HT (Ap (FA v l.len) ow) l ow ow ?_
     refine Au (fun e st=>∃ (V:List (ByteArray × Int)) (Y:Ev.Own) (Xk44:List (List AV)) (Rk44:List RowA),e=[(4,true,.box B.length 0),(5,true,.box (B.length+1) 0),(7,true,.box (B.length+3) 0),(9,true,.clo 162 [.box (B.length+1) 0,.box (B.length+2) 0]),(11,true,.box (B.length+4) 0),(12,true,.box (B.length+5) 0),(40,true,.list (a1.fields.map CJ) .none),(41,true,.val (.int .i64 (a1.fields.length:Int))),(42,true,.val (.int .i64 q))]∧st=⟨(B.set p ([.list (V.map JP) Y]))++([a0.cs,a1.cs,[.val (.string a2)],[.clo 96 [.box p 0]],.val (.int .i64 k.1)::(.val (.string k.2.1)::(.val (.int .i64 k.2.2.1)::((k.2.2.2.1.cs)++([.list (k.2.2.2.2.map Bq) .none])))),.val (.int .i64 o.1.1)::(.val (.string o.1.2.1)::(.val (.int .i64 o.1.2.2.1)::((o.1.2.2.2.1.cs)++([.list (o.1.2.2.2.2.map Bq) .none]))))]++Xk44),Rk44,L⟩∧Owns Rw Rk44 [(2,V.length,Y)] ak∧Gx rec n (BX rec n a0 a1 a2 ml15) a1 a2 q k o V=some r) ?_ ?_
     ·intro K45 a8
      refine rg [4,5,7,9,11,12,40,41,42,77] hs ?_
      refine AK h hs (fun hs h=>?_) (fun hs h=>?_)
      ·have ag:=hs.1
       obtain ⟨cy,bq,h⟩:=bind_some h
       obtain ⟨cu,b7,h⟩:=bind_some h
       apply MX HD [5] [4,5,7,9,11,12,40,41,42] kr (fun s=>∃ (X:List (List AV)) (rows:List RowA) (x:List AV),s=⟨(B.set p x)++([a0.cs,a1.cs,[.val (.string a2)],[.clo 96 [.box p 0]],.val (.int .i64 k.1)::(.val (.string k.2.1)::(.val (.int .i64 k.2.2.1)::((k.2.2.2.1.cs)++([.list (k.2.2.2.2.map Bq) .none])))),.val (.int .i64 o.1.1)::(.val (.string o.1.2.1)::(.val (.int .i64 o.1.2.2.1)::((o.1.2.2.2.1.cs)++([.list (o.1.2.2.2.2.map Bq) .none]))))]++X),rows,L⟩) 2 (B.length+6)
       ·simp +decide only [go_sem,Nat.reduceAdd]
       ·rintro s ⟨X,rows,x,rfl⟩
        refine ⟨2,?_⟩
        rw [Am];simp +decide only [go_sem,Nat.reduceAdd,EM,An a,c,d,j,b,g,ag]
        (repeat' apply Aa)<;>first | refine Ai _ (En w0 _ _ _ k.2.1 (B.length+1) a1 (ef hs) (B.length+2) a2 (ef hs) _ bq) (hv hs) ?_ | exact cl
        rw [Am];simp +decide only [go_sem,Nat.reduceAdd,An a,c,d,j,b,g,ag]
        (repeat' apply Aa)<;>first | rfl | exact cl
       ·refine Good.mk [5] kr ⟨[],_,_,by first | rfl | simp only [List.append_nil,List.nil_append]⟩ ?_ ?_
        ·intro h;exact absurd h (by decide)
        ·intro i hi;simp only [List.mem_cons,List.not_mem_nil,or_false] at hi
         subst hi
         ·apply Jg rfl rfl ev rfl
          ·simp +decide only [go_sem,Nat.reduceAdd,An a,c,d,j,b,g,ag]
          ·simp +decide only [go_sem,Nat.reduceAdd,An a,c,d,j,b,g,ag]
          ·simp +decide only [go_sem,Nat.reduceAdd,An a,c,d,j,b,g,ag]
           exact (CH w0 _ _ _ cy 4 p D H (ef hs) l.enter _ b7).pub (hv hs)
          ·rintro _ _ ⟨rfl,Rg50,b2,rfl,ax⟩
           have l:=l.call ax
           simp +decide only [go_sem,Nat.reduceAdd,An a,c,d,j,b,g,ag]
           refine Good.mk [] kr ⟨[],_,_,by first | rfl | simp only [List.append_nil,List.nil_append]⟩ ?_ ?_
           ·intro _;refine ⟨_,_,DF [4,5,7,9,11,12,40,41,42] (by first | (simp +decide only [go_sem,Nat.reduceAdd,An a,c,d,j,b,g,ag];done) | (simp +decide only [go_sem,Nat.reduceAdd,An a,c,d,j,b,g,ag];rfl)),?_⟩
            try simp +decide only [go_sem,Nat.reduceAdd,An a,c,d,j,b,g,ag]
            (repeat' apply Aa)<;>first | refine a8 _ _ ⟨cu,b2,([]),Rg50,ef hs,ef hs,Owns.of_eq (l) F6,h⟩ | exact cl
           ·intro i hi;cases hi
      have ag:=hs.1
      refine sk [4,5,7,9,11,12,40,41,42] hs a8 ?_
      exact ⟨D,H,([]),Rk35,ef hs,ef hs,Owns.of_eq (l) F6,h⟩
     ·clear h;rintro e st ⟨V,Y,Xk44,Rk44,rfl,rfl,l,h⟩
      rw [Gx] at h
      have hU:=l.unders
      simp only [List.mem_cons,List.not_mem_nil,or_false,forall_eq_or_imp,forall_eq] at hU
      refine Ip hN ap ao HT (Ap (FA v l.len) ow) l ow ow ?_
      obtain ⟨cx,b5,h⟩:=bind_some h
      obtain ⟨c0,bk,h⟩:=bind_some h
      apply MX HD [9] [4,5,7,9,40,41,42] kr (fun s=>∃ (X:List (List AV)) (rows:List RowA) (x:List AV),s=⟨(B.set p x)++([a0.cs,a1.cs,[.val (.string a2)],[.clo 96 [.box p 0]],.val (.int .i64 k.1)::(.val (.string k.2.1)::(.val (.int .i64 k.2.2.1)::((k.2.2.2.1.cs)++([.list (k.2.2.2.2.map Bq) .none])))),.val (.int .i64 o.1.1)::(.val (.string o.1.2.1)::(.val (.int .i64 o.1.2.2.1)::((o.1.2.2.2.1.cs)++([.list (o.1.2.2.2.2.map Bq) .none]))))]++X),rows,L⟩) 2 (B.length+6)
      ·simp +decide only [go_sem,Nat.reduceAdd]
      ·rintro s ⟨X,rows,x,rfl⟩
       refine ⟨2,?_⟩
       rw [Am];simp +decide only [go_sem,Nat.reduceAdd,EM,An a,c,d,j,b,g]
       (repeat' apply Aa)<;>first | refine Ai _ (En w0 _ _ _ k.2.1 (B.length+1) a1 (ef hs) (B.length+2) a2 (ef hs) _ b5) (hv hs) ?_ | exact cl
       rw [Am];simp +decide only [go_sem,Nat.reduceAdd,An a,c,d,j,b,g]
       (repeat' apply Aa)<;>first | rfl | exact cl
      ·refine Good.mk [9] kr ⟨[],_,_,by first | rfl | simp only [List.append_nil,List.nil_append]⟩ ?_ ?_
       ·intro h;exact absurd h (by decide)
       ·intro i hi;simp only [List.mem_cons,List.not_mem_nil,or_false] at hi
        subst hi
        ·apply Jg rfl rfl ev rfl
         ·simp +decide only [go_sem,Nat.reduceAdd,An a,c,d,j,b,g]
         ·simp +decide only [go_sem,Nat.reduceAdd,An a,c,d,j,b,g]
         ·simp +decide only [go_sem,Nat.reduceAdd,An a,c,d,j,b,g]
          exact (ih _ _ _ o.1.2.2.2.1 k.2.2.2.1 cx p V Y (ef hs) l.enter _ bk).pub (hv hs)
         ·rintro _ _ ⟨rfl,Rg54,cc,rfl,ar⟩
          have l:=l.call ar
          simp +decide only [go_sem,Nat.reduceAdd,An a,c,d,j,b,g]
          refine Good.mk [] kr ⟨[],_,_,by first | rfl | simp only [List.append_nil,List.nil_append]⟩ ?_ ?_
          ·intro _;refine ⟨_,_,DF [4,5,7,9,40,41,42] (by first | (simp +decide only [go_sem,Nat.reduceAdd,An a,c,d,j,b,g];done) | (simp +decide only [go_sem,Nat.reduceAdd,An a,c,d,j,b,g];rfl)),?_⟩
           try simp +decide only [go_sem,Nat.reduceAdd,An a,c,d,j,b,g]
           (repeat' apply Aa)<;>first | refine a7 _ _ ⟨c0,cc,([.val (.int .i64 k.1)::(.val (.string k.2.1)::(.val (.int .i64 k.2.2.1)::((k.2.2.2.1.cs)++([.list (k.2.2.2.2.map Bq) .none])))),.val (.int .i64 o.1.1)::(.val (.string o.1.2.1)::(.val (.int .i64 o.1.2.2.1)::((o.1.2.2.2.1.cs)++([.list (o.1.2.2.2.2.map Bq) .none]))))]),Rg54,ef hs,ef hs,Owns.of_eq (l) F6,h⟩ | exact cl
          ·intro i hi;cases hi
   ·clear h;rintro e st ⟨U,aa,Xk20,Rk20,rfl,rfl,l,h⟩
    rw [Gv] at h
    have hU:=l.unders
    simp only [List.mem_cons,List.not_mem_nil,or_false,forall_eq_or_imp,forall_eq] at hU
    refine Ip hN ap ao HT (Ap (FA v l.len) ow) l ow ow ?_
    obtain ⟨c6,h⟩:=Aj h
    refine rl [4,5,7,9,40,41,42] hs (fun e s=>Vl15 ml15 e s (Nat.lt_succ_self _)) ?_
    exact ⟨(q+1),U,aa,([]),Rk20,ef hs,ef hs,Owns.of_eq (l) F6,h⟩
  ·clear h;rintro e st ⟨K,Z,Xk12,Rk12,rfl,rfl,l,h⟩
   rw [Ie] at h
   have hU:=l.unders
   simp only [List.mem_cons,List.not_mem_nil,or_false,forall_eq_or_imp,forall_eq] at hU
   refine Ip hN ap ao HT (Ap (FA v l.len) ow) l ow ow ?_
   refine rg [5,7,9,96,97,98] hs ?_
   apply Ak
   refine Az (fun m e st=>∃ (O:Int) (C:List (ByteArray × Int)) (E:Ev.Own) (Xl58:List (List AV)) (Rl58:List RowA),e=[(5,true,.box (B.length+1) 0),(7,true,.box (B.length+3) 0),(9,true,.clo 162 [.box (B.length+1) 0,.box (B.length+2) 0]),(96,true,.list (a0.fields.map CJ) .none),(97,true,.val (.int .i64 (a0.fields.length:Int))),(98,true,.val (.int .i64 O))]∧st=⟨(B.set p ([.list (C.map JP) E]))++([a0.cs,a1.cs,[.val (.string a2)],[.clo 96 [.box p 0]]]++Xl58),Rl58,L⟩∧Owns Rw Rl58 [(2,C.length,E)] ak∧DZ rec n a0 a1 a2 m O C=some r) n ⟨0,K,Z,([]),Rk12,ef hs,ef hs,Owns.of_eq (l) F6,h⟩ ?_
   rintro ml58 e st ⟨O,C,E,Xl58,Rl58,rfl,rfl,l,h⟩ Ul58 Vl58
   cases ml58 with
   | zero=>cases h
   | succ ml58 =>
   rw [DZ] at h
   have hU:=l.unders
   simp only [List.mem_cons,List.not_mem_nil,or_false,forall_eq_or_imp,forall_eq] at hU
   refine Ip hN ap ao HT (Ap (FA v l.len) ow) l ow ow ?_
   refine rg [5,7,9,96,97,98,99] hs ?_
   apply Ah;intro K60 bd
   refine AK h hs (fun hs h=>?_) (fun hs h=>?_)
   rotate_left
   ·have ae:=hs.1
    refine D4 (DD [] _) ?_ (Bm _ _)
    apply Lt;simp +decide only [go_sem,Nat.reduceAdd]
    (repeat' with_reducible apply Aa)<;>first | exact cl | skip
    have hgt:=Option.some.inj h;subst hgt
    have hU:=l.unders
    simp only [List.mem_cons,List.not_mem_nil,or_false,forall_eq_or_imp,forall_eq] at hU
    refine Sl l (Ap (FA v l.len) ow) HT ev ⟨?_,_,_,?_,(l.sub (List.sublist_append_left [_] _)).len1 F6⟩
    all_goals first | rfl | (simp +decide only [go_sem,Nat.reduceAdd,An a,c,d,ae];done) | (simp +decide only [go_sem,Nat.reduceAdd,Vl.cs,Ty.cs,An a,c,d,ae];done)
   have ae:=hs.1
   refine sk [5,7,9,96,97,98] hs bd ?_
   clear bd
   refine Au (fun e st=>∃ (N:List (ByteArray × Int)) (ab:Ev.Own) (Xk63:List (List AV)) (Rk63:List RowA),e=[(5,true,.box (B.length+1) 0),(7,true,.box (B.length+3) 0),(9,true,.clo 162 [.box (B.length+1) 0,.box (B.length+2) 0]),(96,true,.list (a0.fields.map CJ) .none),(97,true,.val (.int .i64 (a0.fields.length:Int))),(98,true,.val (.int .i64 O))]∧st=⟨(B.set p ([.list (N.map JP) ab]))++([a0.cs,a1.cs,[.val (.string a2)],[.clo 96 [.box p 0]]]++Xk63),Rk63,L⟩∧Owns Rw Rk63 [(2,N.length,ab)] ak∧Gk rec n (DZ rec n a0 a1 a2 ml58) O N=some r) ?_ ?_
   ·intro K64 be
    apply Ak
    obtain ⟨af,bp,h⟩:=bind_some h
    obtain ⟨cr,cw,bj⟩:=Aw bp
    have J:=Ax (f:=CJ) bj
    have hs:=Aa J hs
    refine rg [5,7,9,15,96,97,98] hs ?_
    obtain ⟨aj,b4,h⟩:=bind_some h
    refine rc 2 [5,7,9,15,17,96,97,98] hs ?_;intro K67 bf
    refine Ai _ (EH w0 n _ _ _ a1.fields af.1 _ b4) (hv hs) ?_
    refine ne hs bf ?_
    clear bf
    refine rg [5,7,9,15,96,97,98,111] hs ?_
    refine AK h hs (fun hs h=>?_) (fun hs h=>?_)
    ·have ah:=hs.1
     obtain ⟨cg,bm,h⟩:=bind_some h
     obtain ⟨cn,bn,h⟩:=bind_some h
     apply MX HD [5] [5,7,9,96,97,98] kr (fun s=>∃ (X:List (List AV)) (rows:List RowA) (x:List AV),s=⟨(B.set p x)++([a0.cs,a1.cs,[.val (.string a2)],[.clo 96 [.box p 0]],.val (.int .i64 af.1)::(.val (.string af.2.1)::(.val (.int .i64 af.2.2.1)::((af.2.2.2.1.cs)++([.list (af.2.2.2.2.map Bq) .none])))),.val (.int .i64 aj.1.1)::(.val (.string aj.1.2.1)::(.val (.int .i64 aj.1.2.2.1)::((aj.1.2.2.2.1.cs)++([.list (aj.1.2.2.2.2.map Bq) .none]))))]++X),rows,L⟩) 2 (B.length+6)
     ·simp +decide only [go_sem,Nat.reduceAdd]
     ·rintro s ⟨X,rows,x,rfl⟩
      refine ⟨2,?_⟩
      rw [Am];simp +decide only [go_sem,Nat.reduceAdd,EM,An a,c,d,ae,J,ah]
      (repeat' apply Aa)<;>first | refine Ai _ (En w0 _ _ _ af.2.1 (B.length+1) a1 (ef hs) (B.length+2) a2 (ef hs) _ bm) (hv hs) ?_ | exact cl
      rw [Am];simp +decide only [go_sem,Nat.reduceAdd,An a,c,d,ae,J,ah]
      (repeat' apply Aa)<;>first | rfl | exact cl
     ·refine Good.mk [5] kr ⟨[],_,_,by first | rfl | simp only [List.append_nil,List.nil_append]⟩ ?_ ?_
      ·intro h;exact absurd h (by decide)
      ·intro i hi;simp only [List.mem_cons,List.not_mem_nil,or_false] at hi
       subst hi
       ·apply Jg rfl rfl ev rfl
        ·simp +decide only [go_sem,Nat.reduceAdd,An a,c,d,ae,J,ah]
        ·simp +decide only [go_sem,Nat.reduceAdd,An a,c,d,ae,J,ah]
        ·simp +decide only [go_sem,Nat.reduceAdd,An a,c,d,ae,J,ah]
         exact (CH w0 _ _ _ cg 2 p C E (ef hs) l.enter _ bn).pub (hv hs)
        ·rintro _ _ ⟨rfl,Rg73,bw,rfl,aw⟩
         have l:=l.call aw
         simp +decide only [go_sem,Nat.reduceAdd,An a,c,d,ae,J,ah]
         refine Good.mk [] kr ⟨[],_,_,by first | rfl | simp only [List.append_nil,List.nil_append]⟩ ?_ ?_
         ·intro _;refine ⟨_,_,DF [5,7,9,96,97,98] (by first | (simp +decide only [go_sem,Nat.reduceAdd,An a,c,d,ae,J,ah];done) | (simp +decide only [go_sem,Nat.reduceAdd,An a,c,d,ae,J,ah];rfl)),?_⟩
          try simp +decide only [go_sem,Nat.reduceAdd,An a,c,d,ae,J,ah]
          (repeat' apply Aa)<;>first | refine be _ _ ⟨cn,bw,([.val (.int .i64 af.1)::(.val (.string af.2.1)::(.val (.int .i64 af.2.2.1)::((af.2.2.2.1.cs)++([.list (af.2.2.2.2.map Bq) .none])))),.val (.int .i64 aj.1.1)::(.val (.string aj.1.2.1)::(.val (.int .i64 aj.1.2.2.1)::((aj.1.2.2.2.1.cs)++([.list (aj.1.2.2.2.2.map Bq) .none]))))]),Rg73,ef hs,ef hs,Owns.of_eq (l) F6,h⟩ | exact cl
         ·intro i hi;cases hi
    have ah:=hs.1
    refine sk [5,7,9,96,97,98] hs be ?_
    exact ⟨C,E,([.val (.int .i64 af.1)::(.val (.string af.2.1)::(.val (.int .i64 af.2.2.1)::((af.2.2.2.1.cs)++([.list (af.2.2.2.2.map Bq) .none])))),.val (.int .i64 aj.1.1)::(.val (.string aj.1.2.1)::(.val (.int .i64 aj.1.2.2.1)::((aj.1.2.2.2.1.cs)++([.list (aj.1.2.2.2.2.map Bq) .none]))))]),Rl58,ef hs,ef hs,Owns.of_eq (l) F6,h⟩
   ·clear h;rintro e st ⟨N,ab,Xk63,Rk63,rfl,rfl,l,h⟩
    rw [Gk] at h
    have hU:=l.unders
    simp only [List.mem_cons,List.not_mem_nil,or_false,forall_eq_or_imp,forall_eq] at hU
    refine Ip hN ap ao HT (Ap (FA v l.len) ow) l ow ow ?_
    obtain ⟨c7,h⟩:=Aj h
    refine rl [5,7,9,96,97,98] hs (fun e s=>Vl58 ml58 e s (Nat.lt_succ_self _)) ?_
    exact ⟨(O+1),N,ab,([]),Rk63,ef hs,ef hs,Owns.of_eq (l) F6,h⟩
 have d:=hs.1
 refine rg [4,5,6,7,8,119] hs ?_
 refine AK h hs (fun hs h=>?_) (fun hs h=>?_)
 ·have w:=hs.1
  refine Au (fun e st=>∃ (Q:List (ByteArray × Int)) (ad:Ev.Own) (Xk79:List (List AV)) (Rk79:List RowA),e=[(4,true,.box B.length 0),(5,true,.box (B.length+1) 0),(6,true,.box (B.length+2) 0),(7,true,.box (B.length+3) 0)]∧st=⟨(B.set p ([.list (Q.map JP) ad]))++([a0.cs,a1.cs,[.val (.string a2)],[.clo 96 [.box p 0]]]++Xk79),Rk79,L⟩∧Owns Rw Rk79 [(2,Q.length,ad)] ak∧Gj rec n a0 a1 a2 Q=some r) ?_ ?_
  ·intro K80 a5
   refine rg [4,5,6,7,8,134] hs ?_
   refine AK h hs (fun hs h=>?_) (fun hs h=>?_)
   ·obtain ⟨cf,cd,h⟩:=bind_some h
    refine rk 3 [4,5,6,7] hs ?_
    refine Ai _ (EF w0 _ _ _ a0 a1) (hv hs) ?_
    refine nc hs ?_
    refine BE _ (J6 w0 _ _ _ (C0 a0 a1) p a3 ak (ef hs) l.enter (B.length+3) (ef hs) (B.length+2) a2 (ef hs) _ cd) (hv hs) ?_;rintro _ _ ⟨rfl,Rg84,bo,rfl,au⟩
    have l:=l.call au
    refine ne hs a5 ?_
    exact ⟨cf,bo,([]),Rg84,ef hs,ef hs,Owns.of_eq (l) F6,h⟩
   refine sk [4,5,6,7] hs a5 ?_
   exact ⟨a3,ak,([]),Rw,ef hs,ef hs,Owns.of_eq (l) F6,h⟩
  ·clear h;rintro e st ⟨Q,ad,Xk79,Rk79,rfl,rfl,l,h⟩
   rw [Gj] at h
   have hU:=l.unders
   simp only [List.mem_cons,List.not_mem_nil,or_false,forall_eq_or_imp,forall_eq] at hU
   refine Ip hN ap ao HT (Ap (FA v l.len) ow) l ow ow ?_
   obtain ⟨ch,cz,ci,z,h⟩:=ix HE h
   have G:(a0.elem.map HE).getD 0 .junk=_:=z
   obtain ⟨ct,co,c1,y,h⟩:=ix HE h
   have F:(a1.elem.map HE).getD 0 .junk=_:=y
   obtain ⟨bs,h⟩:=Aj h
   have bh:=bs
   try simp +decide only [go_sem] at bh
   obtain ⟨da,bl,h⟩:=bind_some h
   apply MX HD [11] [] kr (fun s=>∃ (X:List (List AV)) (rows:List RowA) (x:List AV),s=⟨(B.set p x)++([a0.cs,a1.cs,[.val (.string a2)],[.clo 96 [.box p 0]]]++X),rows,L⟩) 2 (B.length+4)
   ·simp +decide only [go_sem,Nat.reduceAdd]
   ·rintro s ⟨X,rows,x,rfl⟩
    refine ⟨1,?_⟩
    rw [Am];simp +decide only [go_sem,Nat.reduceAdd,EM,An a,c,d,w,z,G,y,F]
    (repeat' apply Aa)<;>first | rfl | exact cl
   ·refine Good.mk [11] kr ⟨[],_,_,by first | rfl | simp only [List.append_nil,List.nil_append]⟩ ?_ ?_
    ·intro h;exact absurd h (by decide)
    ·intro i hi;simp only [List.mem_cons,List.not_mem_nil,or_false] at hi
     subst hi
     ·apply Jg rfl rfl ev rfl
      ·simp +decide only [go_sem,Nat.reduceAdd,An a,c,d,w,z,G,y,F]
      ·simp +decide only [go_sem,Nat.reduceAdd,An a,c,d,w,z,G,y,F]
      ·simp +decide only [go_sem,Nat.reduceAdd,An a,c,d,w,z,G,y,F]
       have hs:=Aa z hs
       have hs:=Aa G hs
       have hs:=Aa y hs
       have hs:=Aa F hs
       exact (ih _ _ _ ch ct (a2++((⟨#[91,42,93]⟩:ByteArray))) p Q ad (ef hs) l.enter _ bl).pub (hv hs)
      ·rintro _ _ ⟨rfl,Rg90,c8,rfl,az⟩
       have l:=l.call az
       simp +decide only [go_sem,Nat.reduceAdd,An a,c,d,w,z,G,y,F]
       refine Good.mk [] kr ⟨[],_,_,by first | rfl | simp only [List.append_nil,List.nil_append]⟩ ?_ ?_
       ·intro _;refine ⟨_,_,DF [] (by first | (simp +decide only [go_sem,Nat.reduceAdd,An a,c,d,w,z,G,y,F];done) | (simp +decide only [go_sem,Nat.reduceAdd,An a,c,d,w,z,G,y,F];rfl)),?_⟩
        try simp +decide only [go_sem,Nat.reduceAdd,An a,c,d,w,z,G,y,F]
        (repeat' with_reducible apply Aa)<;>first | exact cl | skip
        have hgt:=Option.some.inj h;subst hgt
        have hU:=l.unders
        simp only [List.mem_cons,List.not_mem_nil,or_false,forall_eq_or_imp,forall_eq] at hU
        refine Sl l (Ap (FA v l.len) ow) HT ev ⟨?_,_,_,?_,(l.sub (List.sublist_append_left [_] _)).len1 F6⟩
        all_goals first | rfl | (simp +decide only [go_sem,Nat.reduceAdd,An a,c,d,w,z,G,y,F];done) | (simp +decide only [go_sem,Nat.reduceAdd,Vl.cs,Ty.cs,An a,c,d,w,z,G,y,F];done)
       ·intro i hi;cases hi
 have w:=hs.1
 obtain ⟨db,b3,h⟩:=bind_some h
 refine rc 2 [4,5,8,152] hs ?_;intro K92 ba
 refine Ai _ (Vj w0 n _ _ _ a0 a1 _ b3) (hv hs) ?_
 refine ne hs ba ?_
 clear ba
 refine AK h hs (fun hs h=>?_) (fun hs h=>?_)
 ·have am:=hs.1
  obtain ⟨cv,bt,h⟩:=bind_some h
  obtain ⟨dc,b9,h⟩:=bind_some h
  apply Ao 3 []
  rw [Am];simp +decide only [go_sem,Nat.reduceAdd,An a,c,d,w,am]
  (repeat' apply Aa)<;>first | refine Ai _ (G7 w0 n _ _ _ a0 a1 _ bt) (hv hs) ?_ | exact cl
  rw [Am];simp +decide only [go_sem,Nat.reduceAdd,An a,c,d,w,am]
  (repeat' apply Aa)<;>first | (refine BE _ (J6 w0 _ _ _ cv p a3 ak (ef hs) l.enter (B.length+3) (ef hs) (B.length+2) a2 (ef hs) _ b9) (hv hs) ?_;rintro _ _ ⟨rfl,Rg97,c5,rfl,ay⟩) | exact cl
  have l:=l.call ay
  rw [Am];simp +decide only [go_sem,Nat.reduceAdd,An a,c,d,w,am]
  (repeat' with_reducible apply Aa)<;>first | exact cl | skip
  have hgt:=Option.some.inj h;subst hgt
  have hU:=l.unders
  simp only [List.mem_cons,List.not_mem_nil,or_false,forall_eq_or_imp,forall_eq] at hU
  refine Sl l (Ap (FA v l.len) ow) HT ev ⟨?_,_,_,?_,(l.sub (List.sublist_append_left [_] _)).len1 F6⟩
  all_goals first | rfl | (simp +decide only [go_sem,Nat.reduceAdd,An a,c,d,w,am];done) | (simp +decide only [go_sem,Nat.reduceAdd,Vl.cs,Ty.cs,An a,c,d,w,am];done)
 have am:=hs.1
 refine D4 (DD [] _) ?_ (Bm _ _)
 apply Bt;simp +decide only [go_sem,Nat.reduceAdd]
 (repeat' with_reducible apply Aa)<;>first | exact cl | skip
 have hgt:=Option.some.inj h;subst hgt
 have hU:=l.unders
 simp only [List.mem_cons,List.not_mem_nil,or_false,forall_eq_or_imp,forall_eq] at hU
 refine Sl l (FA v l.len) rfl ev ⟨?_,_,_,?_,(l.sub (List.sublist_append_left [_] _)).len1 F6⟩
 all_goals first | rfl | (simp +decide only [go_sem,Nat.reduceAdd,An a,c,d,w,am];done) | (simp +decide only [go_sem,Nat.reduceAdd,Vl.cs,Ty.cs,An a,c,d,w,am];done)
theorem LM (w0:World):∀ n:Nat,I3 w0 (Hu n)
 | 0=>fun _ _ _ _ _ _ _ _ _ _ _ _ h=>(nomatch h)
 | n+1=>PP w0 (Hu n) (LM w0 n) n
def Ja (n:Nat) (h:Ty) (g:Ty):Option ((List (ByteArray × Int)) × Int) :=
 (Dv n h g).bind fun q =>
 if !(decide (q=0)) then
  some (([],q))
 else
  (Hu n h g ((⟨#[]⟩:ByteArray)) ([])).bind fun b =>
  some ((b,0))
theorem Q2 (w0:World) (hT:Lib.Utf8Tabs 0 1 w0) (n:Nat) (B:List (List AV)) (Rw:List RowA) (L:List LoopA) (a0:Ty) (a1:Ty) (r:(List (ByteArray × Int)) × Int) (h:Ja n a0 a1=some r) :
  ACalls Tryz.prog w0 42 [.agg (a0.cs),.agg (a1.cs)] ⟨B,Rw,L⟩ fun x st=>x = .tup [.list (r.1.map JP) .none,.val (.int .i64 r.2)]∧st=⟨B,Rw,L⟩:=by
 rw [Ja] at h
 refine hd [.tmp 4,.tmp 5] Tryz.func42 Tryz.ntmps42 fun M0 W0 q l m a o c hs=>?_
 simp only [As]
 refine rg [2,3] hs ?_
 apply Ah;intro K2 e
 obtain ⟨p,i,h⟩:=bind_some h
 refine rc 2 [2,3,6] hs ?_;intro K3 d
 refine Ai _ (HV w0 hT n _ _ _ a0 a1 _ i) (hv hs) ?_
 refine ne hs d ?_
 clear d
 refine rg [2,3,6,12] hs ?_
 refine AK h hs (fun hs h=>?_) (fun hs h=>?_)
 ·refine rg [4,5] hs ?_
  exact rt h hs a c
 refine sk [2,3] hs e ?_
 clear e
 refine rg [2,3,7] hs ?_
 have c:=c.full 2 0
 obtain ⟨k,f,h⟩:=bind_some h
 refine rc 2 [7] hs ?_;intro K9 g
 refine BE _ (LM w0 n _ _ _ a0 a1 ((⟨#[]⟩:ByteArray)) (B.length+2) ([]) .full (ef hs) c.enter _ f) (hv hs) ?_;rintro _ _ ⟨rfl,Rg12,j,rfl,b⟩
 have c:=c.call b
 refine ne hs g ?_
 clear g
 refine rg [4,5] hs ?_
 exact rt h hs a c
def Gu  : Ty :=
 Ty.mk 9 0 0 0 ([]) ([]) ([(2,(⟨#[114,101,109,97,114,107]⟩:ByteArray),2,Ty.mk 4 0 40 0 ([]) ([]) ([]),[]),(1,(⟨#[105,100]⟩:ByteArray),1,Ty.mk 3 0 9999 2 ([]) ([]) ([]),[]),(3,(⟨#[107,105,110,100]⟩:ByteArray),3,Ty.mk 4 0 0 0 ([(⟨#[97]⟩:ByteArray),(⟨#[98]⟩:ByteArray)]) ([]) ([]),[Vl.mk 4 0 0 ((⟨#[97]⟩:ByteArray)) ([]) ([])])])
theorem V0 (w0:World) (B:List (List AV)) (Rw:List RowA) (L:List LoopA)  (r:Ty) (h:Gu  = r) :
  ACalls Tryz.prog w0 73 [] ⟨B,Rw,L⟩ fun x st=>x = .agg (r.cs)∧st=⟨B,Rw,L⟩:=by
 rw [Gu] at h
 refine hd [.cell 0 26] Tryz.func73 Tryz.ntmps73 fun M0 W0 f b d a e c hs=>?_
 simp only [As]
 refine rg [0] hs ?_
 refine rg [0,1] hs ?_
 refine rg [0] hs ?_
 exact rT h hs a c
theorem O3 (w0:World) (B:List (List AV)) (Rw:List RowA) (L:List LoopA)  :
  ACalls Tryz.prog w0 73 [] ⟨B,Rw,L⟩ fun x st=>x = .agg ((Gu ).cs)∧st=⟨B,Rw,L⟩:=V0 w0 B Rw L  _ rfl
def Gz  : Ty :=
 Ty.mk 9 0 0 0 ([]) ([]) ([(1,(⟨#[105,100]⟩:ByteArray),1,Ty.mk 2 0 99 0 ([]) ([]) ([]),[]),(2,(⟨#[110,111,116,101]⟩:ByteArray),2,Ty.mk 4 0 20 0 ([]) ([]) ([]),[])])
theorem VZ (w0:World) (B:List (List AV)) (Rw:List RowA) (L:List LoopA)  (r:Ty) (h:Gz  = r) :
  ACalls Tryz.prog w0 72 [] ⟨B,Rw,L⟩ fun x st=>x = .agg (r.cs)∧st=⟨B,Rw,L⟩:=by
 rw [Gz] at h
 refine hd [.cell 0 26] Tryz.func72 Tryz.ntmps72 fun M0 W0 f b d a e c hs=>?_
 simp only [As]
 refine rg [0] hs ?_
 refine rg [0] hs ?_
 exact rT h hs a c
theorem OQ (w0:World) (B:List (List AV)) (Rw:List RowA) (L:List LoopA)  :
  ACalls Tryz.prog w0 72 [] ⟨B,Rw,L⟩ fun x st=>x = .agg ((Gz ).cs)∧st=⟨B,Rw,L⟩:=VZ w0 B Rw L  _ rfl
def Gf (n:Nat)  : Option Bool :=
 (DX n (Gz ) (Gu ) (Vl.mk 9 0 0 ((⟨#[]⟩:ByteArray)) ([]) ([((⟨#[105,100]⟩:ByteArray),Vl.mk 2 5 0 ((⟨#[]⟩:ByteArray)) ([]) ([])),((⟨#[110,111,116,101]⟩:ByteArray),Vl.mk 4 0 0 ((⟨#[120]⟩:ByteArray)) ([]) ([]))]))).bind fun h =>
 (Ja n (Gz ) (Gu )).bind fun q =>
 if (decide (h.2=0))&&(decide ((h.1.fields.length:Int)=3)) then
  (Ci h.1.fields 0).bind fun x9 =>
  if DR x9.1 ((⟨#[105,100]⟩:ByteArray)) then
   if decide (x9.2.int=500) then
    (Ci h.1.fields 1).bind fun s =>
    if DR s.2.text ((⟨#[97]⟩:ByteArray)) then
     (Ci h.1.fields 2).bind fun y =>
     if ((DR y.1 ((⟨#[114,101,109,97,114,107]⟩:ByteArray)))&&(decide (q.2=0)))&&(decide ((q.1.length:Int)=4)) then
      (Ci q.1 0).bind fun b =>
      if DR b.1 ((⟨#[114,101,109,97,114,107]⟩:ByteArray))&&(decide (b.2=3)) then
       (Ci q.1 3).bind fun g =>
       some (DR g.1 ((⟨#[107,105,110,100]⟩:ByteArray))&&(decide (g.2=1)))
      else
       some (false)
     else
      some (false)
    else
     some (false)
   else
    some (false)
  else
   some (false)
 else
  some (false)
theorem FX (w0:World) (hP:Pow10 w0) (hT:Lib.Utf8Tabs 0 1 w0) (n:Nat) (B:List (List AV)) (Rw:List RowA) (L:List LoopA)  (r:Bool) (h:Gf n  = some r) :
  ACalls Tryz.prog w0 26 [] ⟨B,Rw,L⟩ fun x st=>x = .val (.bool r)∧st=⟨B,Rw,L⟩:=by
 rw [Gf] at h
 refine hd [.tmp 0] Tryz.func26 Tryz.ntmps26 fun M0 W0 hN aa Z a hu o hs=>?_
 simp only [As]
 refine rg [] hs ?_
 refine rg [1] hs ?_
 apply Ah;intro K3 u
 obtain ⟨q,C,h⟩:=bind_some h
 apply Ju HD [7,8] [2,3] kr (fun s=>∃ (X:List (List AV)) (rows:List RowA),s=⟨B++([[.val (.int .i64 9),.val (.int .i64 0),.val (.int .i64 0),.val (.string ((⟨#[]⟩:ByteArray))),.list ([]) .full,.list (([((⟨#[105,100]⟩:ByteArray),Vl.mk 2 5 0 ((⟨#[]⟩:ByteArray)) ([]) ([])),((⟨#[110,111,116,101]⟩:ByteArray),Vl.mk 4 0 0 ((⟨#[120]⟩:ByteArray)) ([]) ([]))]).map Cf) .full]]++X),rows,L⟩) 3 (B.length+1)
 ·simp +decide only [go_sem,Nat.reduceAdd]
 ·rintro s ⟨X,rows,rfl⟩
  refine ⟨4,?_⟩
  rw [Am];simp +decide only [go_sem,Nat.reduceAdd,EM]
  (repeat' apply Aa)<;>first | refine Ai _ (OQ w0 _ _ _ ) (hv hs) ?_ | exact cl
  rw [Am];simp +decide only [go_sem,Nat.reduceAdd]
  (repeat' apply Aa)<;>first | refine Ai _ (O3 w0 _ _ _ ) (hv hs) ?_ | exact cl
  rw [Am];simp +decide only [go_sem,Nat.reduceAdd]
  (repeat' apply Aa)<;>first | refine Ai _ (IB w0 hP hT n _ _ _ (Gz ) (Gu ) (Vl.mk 9 0 0 ((⟨#[]⟩:ByteArray)) ([]) ([((⟨#[105,100]⟩:ByteArray),Vl.mk 2 5 0 ((⟨#[]⟩:ByteArray)) ([]) ([])),((⟨#[110,111,116,101]⟩:ByteArray),Vl.mk 4 0 0 ((⟨#[120]⟩:ByteArray)) ([]) ([]))])) _ C) (hv hs) ?_ | exact cl
  rw [Am];simp +decide only [go_sem,Nat.reduceAdd]
  (repeat' apply Aa)<;>first | rfl | exact cl
 ·refine Good.mk [7] kr ⟨[],_,by first | rfl | simp only [List.append_nil,List.nil_append]⟩ ?_ ?_
  ·intro h;exact absurd h (by decide)
  ·intro i hi;simp only [List.mem_cons,List.not_mem_nil,or_false] at hi
   subst hi
   ·apply DG rfl rfl ev
    ·simp +decide only [go_sem,Nat.reduceAdd,FT]
     (repeat' apply Aa)<;>first | rfl | exact cl
    ·simp +decide only [go_sem,Nat.reduceAdd]
     refine Good.mk [8] kr ⟨_,_,by first | rfl | simp only [List.append_nil,List.nil_append]⟩ ?_ ?_
     ·intro h;exact absurd h (by decide)
     ·intro i hi;simp only [List.mem_cons,List.not_mem_nil,or_false] at hi
      subst hi
      ·apply DG rfl rfl ev
       ·simp +decide only [go_sem,Nat.reduceAdd,FT]
        (repeat' apply Aa)<;>first | rfl | exact cl
       ·simp +decide only [go_sem,Nat.reduceAdd]
        refine Good.mk [] kr ⟨_,_,by first | rfl | simp only [List.append_nil,List.nil_append]⟩ ?_ ?_
        ·intro _;apply DF [2,3];first | (simp +decide only [go_sem,Nat.reduceAdd];done) | (simp +decide only [go_sem,Nat.reduceAdd];rfl)
        ·intro i hi;cases hi
 simp +decide only [go_sem,Nat.reduceAdd]
 (repeat' apply Aa)<;>first | refine u _ _ ?_ | exact cl
 clear u
 obtain ⟨w,H,h⟩:=bind_some h
 refine rc 4 [2,3,4,5] hs ?_;intro K5 v
 refine Ai _ (OQ w0 _ _ _ ) (hv hs) ?_
 refine nc hs ?_
 refine Ai _ (O3 w0 _ _ _ ) (hv hs) ?_
 refine nc hs ?_
 refine Ai _ (Q2 w0 hT n _ _ _ (Gz ) (Gu ) _ H) (hv hs) ?_
 refine ne hs v ?_
 clear v
 apply Ah;intro K7 b
 rcases Bool.eq_false_or_eq_true ((decide (q.2=0))&&(decide ((q.1.fields.length:Int)=3))) with hf8 | hf8
 ·replace h:=AY h hf8
  obtain ⟨V,Q,U,c,h⟩:=ix Cf h
  have e:(q.1.fields.map Cf).getD 0 .junk=_:=c
  rcases Bool.eq_false_or_eq_true (DR V.1 ((⟨#[105,100]⟩:ByteArray))) with hf10 | hf10
  ·replace h:=AY h hf10
   rcases Bool.eq_false_or_eq_true (decide (V.2.int=500)) with hf11 | hf11
   ·replace h:=AY h hf11
    obtain ⟨z,y,F,d,h⟩:=ix Cf h
    have f:(q.1.fields.map Cf).getD 1 .junk=_:=d
    rcases Bool.eq_false_or_eq_true (DR z.2.text ((⟨#[97]⟩:ByteArray))) with hf13 | hf13
    ·replace h:=AY h hf13
     obtain ⟨J,G,K,g,h⟩:=ix Cf h
     have k:(q.1.fields.map Cf).getD 2 .junk=_:=g
     rcases Bool.eq_false_or_eq_true (((DR J.1 ((⟨#[114,101,109,97,114,107]⟩:ByteArray)))&&(decide (w.2=0)))&&(decide ((w.1.length:Int)=4))) with hf15 | hf15
     ·replace h:=AY h hf15
      obtain ⟨t,E,O,j,h⟩:=ix JP h
      have l:(w.1.map JP).getD 0 .junk=_:=j
      rcases Bool.eq_false_or_eq_true (DR t.1 ((⟨#[114,101,109,97,114,107]⟩:ByteArray))&&(decide (t.2=3))) with hf17 | hf17
      ·replace h:=AY h hf17
       obtain ⟨Y,D,N,m,h⟩:=ix JP h
       have p:(w.1.map JP).getD 3 .junk=_:=m
       have hs:=Aa hf8 hs
       have hs:=Aa c hs
       have hs:=Aa e hs
       have hs:=Aa hf10 hs
       have hs:=Aa hf11 hs
       have hs:=Aa d hs
       have hs:=Aa f hs
       have hs:=Aa hf13 hs
       have hs:=Aa g hs
       have hs:=Aa k hs
       have hs:=Aa hf15 hs
       have hs:=Aa j hs
       have hs:=Aa l hs
       have hs:=Aa hf17 hs
       have hs:=Aa m hs
       have hs:=Aa p hs
       refine rl [0] (al hs) b ?_
       clear b
       exact rt h hs a o
      ·replace h:=AZ h hf17
       have hs:=Aa hf8 hs
       have hs:=Aa c hs
       have hs:=Aa e hs
       have hs:=Aa hf10 hs
       have hs:=Aa hf11 hs
       have hs:=Aa d hs
       have hs:=Aa f hs
       have hs:=Aa hf13 hs
       have hs:=Aa g hs
       have hs:=Aa k hs
       have hs:=Aa hf15 hs
       have hs:=Aa j hs
       have hs:=Aa l hs
       have hs:=Aa hf17 hs
       refine rl [0] (al hs) b ?_
       clear b
       exact rt h hs a o
     ·replace h:=AZ h hf15
      have hs:=Aa hf8 hs
      have hs:=Aa c hs
      have hs:=Aa e hs
      have hs:=Aa hf10 hs
      have hs:=Aa hf11 hs
      have hs:=Aa d hs
      have hs:=Aa f hs
      have hs:=Aa hf13 hs
      have hs:=Aa g hs
      have hs:=Aa k hs
      have hs:=Aa hf15 hs
      refine rl [0] (al hs) b ?_
      clear b
      exact rt h hs a o
    ·replace h:=AZ h hf13
     have hs:=Aa hf8 hs
     have hs:=Aa c hs
     have hs:=Aa e hs
     have hs:=Aa hf10 hs
     have hs:=Aa hf11 hs
     have hs:=Aa d hs
     have hs:=Aa f hs
     have hs:=Aa hf13 hs
     refine rl [0] (al hs) b ?_
     clear b
     exact rt h hs a o
   ·replace h:=AZ h hf11
    have hs:=Aa hf8 hs
    have hs:=Aa c hs
    have hs:=Aa e hs
    have hs:=Aa hf10 hs
    have hs:=Aa hf11 hs
    refine rl [0] (al hs) b ?_
    clear b
    exact rt h hs a o
  ·replace h:=AZ h hf10
   have hs:=Aa hf8 hs
   have hs:=Aa c hs
   have hs:=Aa e hs
   have hs:=Aa hf10 hs
   refine rl [0] (al hs) b ?_
   clear b
   exact rt h hs a o
 ·replace h:=AZ h hf8
  have hs:=Aa hf8 hs
  refine rl [0] (al hs) b ?_
  clear b
  exact rt h hs a o
theorem Zd3 (m:Nat):Gf (m+100)=some true:=by kernel_rfl
theorem Zch (n:Nat) (h:100≤n):Gf n=some true:=by
 obtain ⟨m,rfl⟩:∃ m,n=m+100:=⟨n-100,by omega⟩
 exact Zd3 m
@[go_sem] theorem ZlI (a b:Ty):List.take 14 (a.cs++b.cs)=a.cs++b.cs:=List.take_of_length_le (by simp [Ty.cs_length])
@[go_sem] theorem ZmY (a b:Ty):List.map AV.pubCell (a.cs++b.cs)=a.cs++b.cs:=by rw [List.map_append,Ty.cs_pub,Ty.cs_pub]
theorem ZaS (n:Nat) (v:Vl) (h:v.size≤4096) (hn:10000≤n):Iy n v v=some true:=by
 obtain ⟨c,e,a⟩:=ZcE n v v (by omega) (by omega)
 rw [e,a.2 rfl]
def G9 (n:Nat) (b:Ty × Ty):Option Bool :=
 (G4 n b.1).bind fun q =>
 if q then
  (G4 n b.2).bind fun g =>
  if g then
   (EZ n b.1).bind fun h =>
   if decide (h=0) then
    (EZ n b.2).bind fun s =>
    some (decide (s=0))
   else
    some (false)
  else
   some (false)
 else
  some (false)
theorem TI (w0:World) (hT:Lib.Utf8Tabs 0 1 w0) (n:Nat) (B:List (List AV)) (Rw:List RowA) (L:List LoopA) (a0:Ty × Ty) (r:Bool) (h:G9 n a0=some r) :
  ACalls Tryz.prog w0 37 [.agg ((a0.1.cs)++(a0.2.cs))] ⟨B,Rw,L⟩ fun x st=>x = .val (.bool r)∧st=⟨B,Rw,L⟩:=by
 rw [G9] at h
 refine hd [.tmp 2] Tryz.func37 Tryz.ntmps37 fun M0 W0 p k m a o f hs=>?_
 simp only [As]
 refine rg [1] hs ?_
 apply Ah;intro K2 b
 obtain ⟨i,c,h⟩:=bind_some h
 rcases Bool.eq_false_or_eq_true (i) with hf4 | hf4
 ·replace h:=AY h hf4
  obtain ⟨j,d,h⟩:=bind_some h
  rcases Bool.eq_false_or_eq_true (j) with hf6 | hf6
  ·replace h:=AY h hf6
   obtain ⟨l,e,h⟩:=bind_some h
   rcases Bool.eq_false_or_eq_true (decide (l=0)) with hf8 | hf8
   ·replace h:=AY h hf8
    obtain ⟨q,g,h⟩:=bind_some h
    have hs:=Aa hf4 hs
    have hs:=Aa hf6 hs
    have hs:=Aa hf8 hs
    refine rk 5 [2] hs ?_
    refine Ai _ (DJ w0 n _ _ _ a0.1 _ c) (hv hs) ?_
    refine nc hs ?_
    refine Ai _ (DJ w0 n _ _ _ a0.2 _ d) (hv hs) ?_
    refine nc hs ?_
    refine Ai _ (KY w0 hT n _ _ _ a0.1 _ e) (hv hs) ?_
    refine nc hs ?_
    refine Ai _ (KY w0 hT n _ _ _ a0.2 _ g) (hv hs) ?_
    refine ne hs b ?_
    clear b
    exact rt h hs a f
   ·replace h:=AZ h hf8
    have hs:=Aa hf4 hs
    have hs:=Aa hf6 hs
    have hs:=Aa hf8 hs
    refine rk 5 [2] hs ?_
    refine Ai _ (DJ w0 n _ _ _ a0.1 _ c) (hv hs) ?_
    refine nc hs ?_
    refine Ai _ (DJ w0 n _ _ _ a0.2 _ d) (hv hs) ?_
    refine nc hs ?_
    refine Ai _ (KY w0 hT n _ _ _ a0.1 _ e) (hv hs) ?_
    refine nc hs ?_
    refine AC ?_
    refine ne hs b ?_
    clear b
    exact rt h hs a f
  ·replace h:=AZ h hf6
   have hs:=Aa hf4 hs
   have hs:=Aa hf6 hs
   refine rk 5 [2] hs ?_
   refine Ai _ (DJ w0 n _ _ _ a0.1 _ c) (hv hs) ?_
   refine nc hs ?_
   refine Ai _ (DJ w0 n _ _ _ a0.2 _ d) (hv hs) ?_
   refine nc hs ?_
   refine AC ?_
   refine nc hs ?_
   refine AC ?_
   refine ne hs b ?_
   clear b
   exact rt h hs a f
 ·replace h:=AZ h hf4
  have hs:=Aa hf4 hs
  refine rk 5 [2] hs ?_
  refine Ai _ (DJ w0 n _ _ _ a0.1 _ c) (hv hs) ?_
  refine nc hs ?_
  refine AC ?_
  refine nc hs ?_
  refine AC ?_
  refine nc hs ?_
  refine AC ?_
  refine ne hs b ?_
  clear b
  exact rt h hs a f
theorem ZfZ (n:Nat) (hn:10000000000≤n) (t:Ty × Ty) (h1:t.1.bulk≤1048576) (h2:t.2.bulk≤1048576) (s1:t.1.depth≤10∧t.1.size≤60) (s2:t.2.depth≤10∧t.2.size≤60) :
  ∃ c1 c2,EZ n t.1=some c1∧EZ n t.2=some c2∧(c1=0→t.1.Fine 8)∧(c2=0→t.2.Fine 8)∧G9 n t=some (decide (c1=0)&&decide (c2=0))∧Dv n t.1 t.2=some (if c1=0 then c2 else c1):=by
 have f:=t.1.size_bulk
 have e:=t.2.size_bulk
 obtain ⟨c1,a,c⟩:=Tu n t.1 (by omega) (Ty.small_of h1 (by omega) (by omega))
 obtain ⟨c2,b,d⟩:=Tu n t.2 (by omega) (Ty.small_of h2 (by omega) (by omega))
 refine ⟨c1,c2,a,b,c,d,?_,?_⟩
 ·rw [G9,N8 n t.1 (by omega) (by omega),Ab,Ad s1,Ae rfl,N8 n t.2 (by omega) (by omega),Ab,Ad s2,Ae rfl,a,Ab]
  by_cases z:c1=0
  ·rw [Ad z,Ae rfl,b,Ab,Bool.true_and]
  ·rw [Ac z,Af (by decide),Bool.false_and]
 ·rw [Dv,a,Ab]
  by_cases z:c1=0
  ·rw [Ad z,Af (by decide),b,Ab,Ae z]
  ·rw [Ac z,Ae (by rfl),Af z]
def GX (n:Nat) (g:Ty) (b:Ty):Option Bool :=
 (Dv n g b).bind fun q =>
 if decide (q=0) then
  (Cj n g b).bind fun h =>
  some (h)
 else
  some (false)
theorem Qp (w0:World) (hT:Lib.Utf8Tabs 0 1 w0) (n:Nat) (B:List (List AV)) (Rw:List RowA) (L:List LoopA) (a0:Ty) (a1:Ty) (r:Bool) (h:GX n a0 a1=some r) :
  ACalls Tryz.prog w0 40 [.agg (a0.cs),.agg (a1.cs)] ⟨B,Rw,L⟩ fun x st=>x = .val (.bool r)∧st=⟨B,Rw,L⟩:=by
 rw [GX] at h
 refine hd [.tmp 4] Tryz.func40 Tryz.ntmps40 fun M0 W0 l f i a k e hs=>?_
 simp only [As]
 refine rg [2,3] hs ?_
 apply Ah;intro K2 b
 obtain ⟨g,c,h⟩:=bind_some h
 rcases Bool.eq_false_or_eq_true (decide (g=0)) with hf4 | hf4
 ·replace h:=AY h hf4
  obtain ⟨j,d,h⟩:=bind_some h
  have hs:=Aa hf4 hs
  refine rk 3 [4] hs ?_
  refine Ai _ (HV w0 hT n _ _ _ a0 a1 _ c) (hv hs) ?_
  refine nc hs ?_
  refine Ai _ (Oi w0 n _ _ _ a0 a1 _ d) (hv hs) ?_
  refine ne hs b ?_
  clear b
  exact rt h hs a e
 ·replace h:=AZ h hf4
  have hs:=Aa hf4 hs
  refine rk 3 [4] hs ?_
  refine Ai _ (HV w0 hT n _ _ _ a0 a1 _ c) (hv hs) ?_
  refine nc hs ?_
  refine AC ?_
  refine ne hs b ?_
  clear b
  exact rt h hs a e
def Fz (n:Nat) (b:Ty × Ty) (y:Vl):Option Bool :=
 (Gf n ).bind fun y4 =>
 if !y4 then
  (Gf n ).bind fun y8 =>
  some (y8)
 else
  (G4 n b.1).bind fun y9 =>
  if !y9 then
   (Gf n ).bind fun y13 =>
   some (y13)
  else
   (G4 n b.2).bind fun y14 =>
   if !y14 then
    (Gf n ).bind fun y18 =>
    some (y18)
   else
    (Ov y).bind fun y19 =>
    if !y19 then
     (Gf n ).bind fun y22 =>
     some (y22)
    else
     (GX n b.1 b.2).bind fun q =>
     (G9 n b).bind fun y27 =>
     if !y27 then
      some (!q)
     else
      (Gw n b.1 b.2).bind fun y32 =>
      if q != y32 then
       some (false)
      else
       (FN n b.1 y).bind fun g =>
       (DX n b.1 b.2 y).bind fun h =>
       if ((!q)||(!(decide (g.2=0))))||(!(decide (h.2=0))) then
        some (((!q)||((!(decide (g.2=0)))&&(decide (h.2=g.2))))||(decide (h.2=9)))
       else
        (DX n b.2 b.1 h.1).bind fun s =>
        if decide (s.2=0) then
         (Iy n g.1 s.1).bind fun y47 =>
         some (y47)
        else
         some (false)
theorem OK (w0:World) (hP:Pow10 w0) (hT:Lib.Utf8Tabs 0 1 w0) (n:Nat) (B:List (List AV)) (Rw:List RowA) (L:List LoopA) (a0:Ty × Ty) (a1:Vl) (r:Bool) (h:Fz n a0 a1=some r) :
  ACalls Tryz.prog w0 8 [.agg ((a0.1.cs)++(a0.2.cs)),.agg (a1.cs)] ⟨B,Rw,L⟩ fun x st=>x = .val (.bool r)∧st=⟨B,Rw,L⟩:=by
 rw [Fz] at h
 refine hd [.tmp 4] Tryz.func8 Tryz.ntmps8 fun M0 W0 hN aj ag a hu e hs=>?_
 simp only [As]
 refine rg [2,3] hs ?_
 apply Ah;intro K2 C
 apply Ah;intro K3 b
 obtain ⟨y4,d,h⟩:=bind_some h
 rcases Bool.eq_false_or_eq_true (!y4) with hf5 | hf5
 ·replace h:=AY h hf5
  have hs:=Aa hf5 hs
  refine rk 5 [2,3,30] hs ?_
  refine Ai _ (FX w0 hP hT n _ _ _  _ d) (hv hs) ?_
  refine nc hs ?_
  refine AC ?_
  refine nc hs ?_
  refine AC ?_
  refine nc hs ?_
  refine AC ?_
  refine ne hs b ?_
  clear b
  refine A7 true ev (ef hs) (fun hb6=>?_) (fun hb6=>by cases hb6)
  obtain ⟨y8,Z,h⟩:=bind_some h
  refine rc 2 [4] hs ?_;intro K7 w
  refine Ai _ (FX w0 hP hT n _ _ _  _ Z) (hv hs) ?_
  refine ne hs w ?_
  clear w
  exact rt h hs a e
 ·replace h:=AZ h hf5
  obtain ⟨y9,v,h⟩:=bind_some h
  rcases Bool.eq_false_or_eq_true (!y9) with hf10 | hf10
  ·replace h:=AY h hf10
   have hs:=Aa hf5 hs
   have hs:=Aa hf10 hs
   refine rk 5 [2,3,30] hs ?_
   refine Ai _ (FX w0 hP hT n _ _ _  _ d) (hv hs) ?_
   refine nc hs ?_
   refine Ai _ (DJ w0 n _ _ _ a0.1 _ v) (hv hs) ?_
   refine nc hs ?_
   refine AC ?_
   refine nc hs ?_
   refine AC ?_
   refine ne hs b ?_
   clear b
   refine A7 true ev (ef hs) (fun hb11=>?_) (fun hb11=>by cases hb11)
   obtain ⟨ak,N,h⟩:=bind_some h
   refine rc 2 [4] hs ?_;intro K12 u
   refine Ai _ (FX w0 hP hT n _ _ _  _ N) (hv hs) ?_
   refine ne hs u ?_
   clear u
   exact rt h hs a e
  ·replace h:=AZ h hf10
   obtain ⟨U,o,h⟩:=bind_some h
   rcases Bool.eq_false_or_eq_true (!U) with hf15 | hf15
   ·replace h:=AY h hf15
    have hs:=Aa hf5 hs
    have hs:=Aa hf10 hs
    have hs:=Aa hf15 hs
    refine rk 5 [2,3,30] hs ?_
    refine Ai _ (FX w0 hP hT n _ _ _  _ d) (hv hs) ?_
    refine nc hs ?_
    refine Ai _ (DJ w0 n _ _ _ a0.1 _ v) (hv hs) ?_
    refine nc hs ?_
    refine Ai _ (DJ w0 n _ _ _ a0.2 _ o) (hv hs) ?_
    refine nc hs ?_
    refine AC ?_
    refine ne hs b ?_
    clear b
    refine A7 true ev (ef hs) (fun hb16=>?_) (fun hb16=>by cases hb16)
    obtain ⟨ad,K,h⟩:=bind_some h
    refine rc 2 [4] hs ?_;intro K17 p
    refine Ai _ (FX w0 hP hT n _ _ _  _ K) (hv hs) ?_
    refine ne hs p ?_
    clear p
    exact rt h hs a e
   ·replace h:=AZ h hf15
    obtain ⟨ab,O,h⟩:=bind_some h
    have hs:=Aa hf5 hs
    have hs:=Aa hf10 hs
    have hs:=Aa hf15 hs
    refine rk 5 [2,3,30] hs ?_
    refine Ai _ (FX w0 hP hT n _ _ _  _ d) (hv hs) ?_
    refine nc hs ?_
    refine Ai _ (DJ w0 n _ _ _ a0.1 _ v) (hv hs) ?_
    refine nc hs ?_
    refine Ai _ (DJ w0 n _ _ _ a0.2 _ o) (hv hs) ?_
    refine nc hs ?_
    refine Ai _ (ZcF w0 _ _ _ a1 _ O) (hv hs) ?_
    refine ne hs b ?_
    clear b
    refine AK h hs (fun hs h=>?_) (fun hs h=>?_)
    ·obtain ⟨aa,z,h⟩:=bind_some h
     refine rc 2 [4] hs ?_;intro K21 i
     refine Ai _ (FX w0 hP hT n _ _ _  _ z) (hv hs) ?_
     refine ne hs i ?_
     clear i
     exact rt h hs a e
    refine sk [2,3] hs C ?_
    clear C
    obtain ⟨ai,y,h⟩:=bind_some h
    refine rc 2 [2,3,5] hs ?_;intro K23 q
    refine Ai _ (Qp w0 hT n _ _ _ a0.1 a0.2 _ y) (hv hs) ?_
    refine ne hs q ?_
    clear q
    apply Ah;intro K25 t
    obtain ⟨ah,J,h⟩:=bind_some h
    refine rc 2 [2,3,5,39] hs ?_;intro K26 l
    refine Ai _ (TI w0 hT n _ _ _ a0 _ J) (hv hs) ?_
    refine ne hs l ?_
    clear l
    refine AK h hs (fun hs h=>?_) (fun hs h=>?_)
    ·refine rg [4] hs ?_
     exact rt h hs a e
    refine sk [2,3,5] hs t ?_
    clear t
    apply Ah;intro K30 g
    obtain ⟨ae,F,h⟩:=bind_some h
    refine rc 2 [2,3,5,48] hs ?_;intro K31 j
    refine Ai _ (Ta w0 n _ _ _ a0.1 a0.2 _ F) (hv hs) ?_
    refine ne hs j ?_
    clear j
    refine AK h hs (fun hs h=>?_) (fun hs h=>?_)
    ·refine rg [4] hs ?_
     exact rt h hs a e
    refine sk [2,3,5] hs g ?_
    clear g
    obtain ⟨V,E,h⟩:=bind_some h
    refine rc 2 [2,3,5,6,7] hs ?_;intro K35 m
    refine Ai _ (Oe w0 hP hT n _ _ _ a0.1 a1 _ E) (hv hs) ?_
    refine ne hs m ?_
    clear m
    obtain ⟨Y,G,h⟩:=bind_some h
    refine rc 2 [2,5,6,7,8,9] hs ?_;intro K37 f
    refine Ai _ (IB w0 hP hT n _ _ _ a0.1 a0.2 a1 _ G) (hv hs) ?_
    refine ne hs f ?_
    clear f
    apply Ah;intro K39 s
    refine rg [2,5,6,7,8,9,74] hs ?_
    refine AK h hs (fun hs h=>?_) (fun hs h=>?_)
    ·refine rg [4] hs ?_
     exact rt h hs a e
    refine sk [2,6,8] hs s ?_
    clear s
    obtain ⟨D,H,h⟩:=bind_some h
    refine rc 2 [6,10,11] hs ?_;intro K43 k
    refine Ai _ (IB w0 hP hT n _ _ _ a0.2 a0.1 Y.1 _ H) (hv hs) ?_
    refine ne hs k ?_
    clear k
    apply Ah;intro K45 c
    rcases Bool.eq_false_or_eq_true (decide (D.2=0)) with hf46 | hf46
    ·replace h:=AY h hf46
     obtain ⟨af,Q,h⟩:=bind_some h
     have hs:=Aa hf46 hs
     refine rk 2 [4] hs ?_
     refine Ai _ (UM w0 n _ _ _ V.1 D.1 _ Q) (hv hs) ?_
     refine ne hs c ?_
     clear c
     exact rt h hs a e
    ·replace h:=AZ h hf46
     have hs:=Aa hf46 hs
     refine rk 2 [4] hs ?_
     refine AC ?_
     refine ne hs c ?_
     clear c
     exact rt h hs a e
theorem UH (n:Nat) (hn:10000000000≤n) (t:Ty × Ty) (v:Vl) (h1:t.1.bulk≤1048576) (h2:t.2.bulk≤1048576) (hv:v.bulk≤1048576):Fz n t v=some true:=by
 have C:=Zch n (by omega)
 have b1:=t.1.size_bulk
 have Y:=t.2.size_bulk
 have Z:=v.size_bulk
 have b:=v.ok_bulk hv
 rw [Fz,C,Ab,Af (by decide),N8 n t.1 (by omega) (by omega),Ab]
 by_cases s1:t.1.depth≤10∧t.1.size≤60
 rotate_left
 ·rw [Ac s1,Ae (by rfl),Ab]
 rw [Ad s1,Af (by decide),N8 n t.2 (by omega) (by omega),Ab]
 by_cases s2:t.2.depth≤10∧t.2.size≤60
 rotate_left
 ·rw [Ac s2,Ae (by rfl),Ab]
 obtain ⟨few,g⟩:=Zdh v (by omega)
 rw [Ad s2,Af (by decide),g,Ab]
 cases few with
 | false=>rw [Ae (by rfl),Ab]
 | true =>
  rw [Af (by decide)]
  have d:t.1.small:=Ty.small_of h1 (by omega) (by omega)
  have e:t.2.small:=Ty.small_of h2 (by omega) (by omega)
  obtain ⟨j,l,p,o,H,u,O,m⟩:=ZfZ n hn t h1 h2 s1 s2
  rw [GX,m,Ab,O]
  by_cases z:j=0∧l=0
  rotate_left
  ·have a1:¬ (if j=0 then l else j)=0:=by split<;>omega
   have a2:(decide (j=0)&&decide (l=0))=false:=by
    rw [Bool.eq_false_iff];intro q;rw [Bool.and_eq_true,decide_eq_true_eq,decide_eq_true_eq] at q;exact z q
   rw [Ac a1,Af (by decide),Ab,Ab,a2,Ae (by rfl)];rfl
  obtain ⟨rfl,rfl⟩:=z
  have g1:=H rfl
  have g2:=u rfl
  obtain ⟨F,J⟩:=X0 12 n t.1 t.2 d e g1.good g2.good d.2.1 (by omega)
  have x:=S7 n t.1 v d b (by omega) (by omega)
  have E:=U4 n t.1 t.2 v hn d e b (by omega) p o g1 g2
  rw [Ae rfl,Ad (rfl:(0:Int)=0),Ae rfl,F,Ab,Ab,Ab,Af (by decide),J,Ab,Af (by simp),x,Ab,E,Ab]
  cases hc:J7 12 t.1 t.2 with
  | false=>rw [Ae (by rfl)];rfl
  | true =>
   rw [UpR]
   by_cases hf:Dp 12 t.1 (Cb 12 t.1 v)=true
   rotate_left
   ·rw [Af hf,Af hf];rfl
   rw [Ae hf,Ae hf]
   have f:MU 12 t.1 t.2=true:=by rw [J7,Bool.and_eq_true] at hc;exact hc.1
   obtain ⟨s,D⟩:=O1 12 t.1 v d b (by omega)
   have vd:=v.depth_size
   obtain ⟨y,i⟩:=Ua 12 t.1 t.2 _ g1.good g2.good f hf
   obtain ⟨r1,G,V,U,u3,r⟩:=Y8 12 n (v.depth+1048576) 8 t.1 t.2 (Cb 12 t.1 v) d e g1.good g2 s D hf (by omega)
   rw [i] at r
   obtain ⟨x2,k,_⟩:=r
   have x2:G=(y,true):=x2
   subst x2
   have k:y.Nar:=k
   rw [i]
   by_cases c:Oo y=0
   rotate_left
   ·simp only [c,if_false];rfl
   have ys:=Zc1 c
   obtain ⟨N,K⟩:=TZ 12 12 8 t.1 t.2 _ y g1.good g2 e.2.1 hf i
   have h:=TT 12 12 t.1 t.2 _ y g1.good g2.good e.2.1 hc hf i
   have Q:=Ph 12 t.1 t.2 _ y g1.good g2.good hc hf i
   have wd:=PI 12 t.1 _ hf
   have td:=Ty.Fine.depth 8 t.1 g1
   have w:=Y2 (Rb 12 t.1 _ g1.good hf) (by omega) (by omega)
   have a:=U4 n t.2 t.1 y hn e d k.ok (by omega) o p g2 g1
   rw [UpR,K,Ae N,h] at a
   simp only [w,if_true] at a
   simp only [c,if_true]
   rw [Af (by decide),a,Ab,Ae (by rfl),ZaS n _ (by omega) (by omega),Ab]
end Go.Proofs.YtgpmlelfkjfbiaaGreatDoor
namespace Go.Proofs.YtgpmlelfkjfbiaaGreatDoor
open Go Go.Shelf Go.ChangeShapes Go.WideShapes Go.ChangeAt Go.RowKit Go.Lib Go.Ev
set_option maxRecDepth 100000
section
variable {H:Type} {enc:TypeId × Value→H} {W:World}
theorem ZfE (n:Nat) (cs:List Value) (x:DataW H × List MemPlace) (h:Td enc W n 58 cs=some x):∃ t:Ty × Ty,t.1.bulk+t.2.bulk≤Rows.uptoBulk x.1∧RC W cs (t.1.cs++t.2.cs):=by
 cases n with
 | zero=>simp [Td,DataW.trod] at h
 | succ n =>
  obtain ⟨i,p,hn,rfl,j,l,f⟩:=DataW.trod_struct Tryz.underlying58 h
  cases hn
  have e:cs.length=14:=j.trans (by kernel_rfl)
  have g:i.length=2:=l
  match i,g,f with
  | [w0,w1],_,f =>
  have k:_=some w0:=f 0 _ rfl;have o:_=some w1:=f 1 _ rfl
  obtain ⟨a,_,d,r⟩:=XT n _ _ k
  obtain ⟨b,_,c,q⟩:=XT n _ _ o
  have m:Tryz.prog.cellsOf 26=7:=by kernel_rfl
  simp only [List.getElem_toArray,List.getElem_cons_zero,List.getElem_cons_succ,m] at d c
  match cs,e with
  | [c0,c1,c2,c3,c4,c5,c6,c7,c8,c9,c10,c11,c12,c13],_ =>
  simp only [List.drop_zero,List.take_succ_cons,List.take_zero,List.drop_succ_cons] at d c
  exact ⟨(a,b),by simp only [List.map_cons,List.map_nil,Rows.uptoBulk,Rows.uptoBulkAll];omega,d.app c⟩
end
section
variable {H:Type} {enc:TypeId × Value→H} {W:World} {base:Nat} {v:Value} {d:DataW H} {p:List MemPlace}
theorem ZiL (hv:Value.okWide Tryz.prog W .any base 58 v) (h:DataW.Trod enc Tryz.prog W 0 (fun _=>true) true 58 v d p) :
  ∃ t:Ty × Ty,t.1.bulk+t.2.bulk≤Rows.uptoBulk d∧R W Mem.start W v (.agg (t.1.cs++t.2.cs)):=by
 obtain ⟨cs,rfl⟩:=Zc2 Tryz.underlying58 hv
 obtain ⟨n,a⟩:=h
 obtain ⟨t,b,c⟩:=ZfE n _ _ a
 exact ⟨t,b,by simpa [Value.cells] using c.agg (fun x hx=>by
  rcases List.mem_append.1 hx with hx | hx
  ·exact t.1.ones x hx
  ·exact t.2.ones x hx)⟩
end
end Go.Proofs.YtgpmlelfkjfbiaaGreatDoor
