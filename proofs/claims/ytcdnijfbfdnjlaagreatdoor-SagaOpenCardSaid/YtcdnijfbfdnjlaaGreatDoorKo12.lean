/-
  Part 12 of the proof: rules and walks that the claim's last text uses.
-/
import Derived.Shelf.Vars
import Derived.Test.YtcdnijfbfdnjlaaGreatDoorKo11
set_option linter.unusedSimpArgs false
set_option linter.unusedVariables false
set_option maxRecDepth 100000
set_option maxHeartbeats 4000000
namespace Go.Proofs.YtcdnijfbfdnjlaaGreatDoor
open Go Go.RowKit Go.Ev
set_option maxRecDepth 100000
set_option maxHeartbeats 4000000
theorem ZlH:Jb kX 99993 (CE (CE (CE (CE (CE (CE (CE (kC)))))))) kE7 kS7=some (.ret,kE7,kS7):=by kernel_rfl
theorem kQ0:(kC) = .seq (Tf (kC)) (CE (kC)):=by kernel_rfl
theorem kQ1:(CE (kC)) = .seq (Tf (CE (kC))) (CE (CE (kC))):=by kernel_rfl
theorem kQ2:(CE (CE (kC))) = .seq (Tf (CE (CE (kC)))) (CE (CE (CE (kC)))):=by kernel_rfl
theorem kQ3:(CE (CE (CE (kC)))) = .seq (Tf (CE (CE (CE (kC))))) (CE (CE (CE (CE (kC))))):=by kernel_rfl
theorem kQ4:(CE (CE (CE (CE (kC))))) = .seq (Tf (CE (CE (CE (CE (kC)))))) (CE (CE (CE (CE (CE (kC)))))):=by kernel_rfl
theorem kQ5:(CE (CE (CE (CE (CE (kC)))))) = .seq (Tf (CE (CE (CE (CE (CE (kC))))))) (CE (CE (CE (CE (CE (CE (kC))))))):=by kernel_rfl
theorem kQ6:(CE (CE (CE (CE (CE (CE (kC))))))) = .seq (Tf (CE (CE (CE (CE (CE (CE (kC)))))))) (CE (CE (CE (CE (CE (CE (CE (kC)))))))):=by kernel_rfl
theorem Zlz:Jb kX 100000 kC kE0 kS0=some (.ret,kE7,kS7):=(KF kQ0 kP0 (KF kQ1 kP1 (KF kQ2 kP2 (KF kQ3 kP3 (KF kQ4 kP4 (KF kQ5 kP5 (KF kQ6 kP6 ZlH)))))))
theorem ZlZ:Q6 Tryz.prog cfgL none 9 Tryz.f9 ⟨0,0,0⟩ ⟨[],[],[]⟩ kE7 kS7=some (.val (.bool true),⟨[],[],[]⟩):=by kernel_rfl
theorem Zi9:HA Tryz.prog cfgL 60 none 9 [] ⟨[],[],[]⟩=some (.val (.bool true),⟨[],[],[]⟩) :=
 Zg9 (fn:=Tryz.f9) (c:=kC) (by kernel_rfl) Tryz.func9 (by kernel_rfl) (of_decide_eq_true (by kernel_rfl)) Zlz (.inr rfl) ZlZ
theorem Tc (w0:World) (B:Aq) (Rw:Au) (L:Av) (hE:ZgK w0) (hM:Vh w0) (hP:Pow10 w0) (hT:Lib.Utf8Tabs 1 2 w0):ACalls Tryz.prog w0 9 [] ⟨B,Rw,L⟩ fun v s'=>v = .val (.bool true)∧s'=⟨B,Rw,L⟩ :=
 ES (Y8 hM hP hT 60 9 [] ⟨[],[],[]⟩ _ _ Zi9).1 rfl fun M w b f c=>by
  have hv:b = #[]:=by
   have:=c.1
   apply Array.eq_empty_of_size_eq_zero;simpa using this
  subst hv
  have d:Vh w:=by obtain ⟨m,h⟩:=hM;exact ⟨m,O4 h f⟩
  have h:=Y8 (w0:=w) d (hP.below f) (Utf8Tabs_below hT f) 60 9 [] ⟨[],[],[]⟩ _ _ Zi9
  refine (h.2 Mem.start w #[] (QT w) ⟨rfl,fun i e h2=>by simp at e⟩).mono ?_
  rintro en g ⟨v,M',a,st,e,⟨h2,_⟩,_,h4,h5⟩
  subst h2
  have:=h5.val_inv.1
  subst this
  exact ⟨e,h4.below⟩
def Gk (n:Nat)  : Option Bool :=
 some (true)
def BU (n:Nat) (q:(Nod × Stt × Inp)) (y5:(List (Int × ByteArray × Bool))):Nat→Int→Option Bool
 | 0,_=>none
 | m+1,b =>
  if decide (b<(y5.length:Int)) then
   (Gg q.2.1.slots b).bind fun h =>
   if (q.1.calls.length:Int)≠0 then
    (Gg y5 b).bind fun y =>
    if Bj (h.key.int+(h.number.tmod (q.1.calls.length:Int))) then
     (Gg q.1.calls (h.number.tmod (q.1.calls.length:Int))).bind fun x31 =>
     if !(decide (y.1=(h.key.int+(h.number.tmod (q.1.calls.length:Int))))&&(MA y.2.1 x31.1&&(y.2.2 == (decide ((q.1.calls.length:Int)≤h.number))))) then
      some (false)
     else
      if Bj (b+1) then
       (BU n q y5 m) (b+1)
      else none
    else none
   else none
  else
   Gk n 
def F9 (n:Nat) (q:Nod) (a1:Stt):Option Bool :=
 (E4 n q a1 (Inp.mk 0 0 ((0,[])) (Msg.mk ((0,[])) 0 ([]) (Vl.mk 0 0 0 (⟨#[]⟩:ByteArray) ([]) ([]))) 0 false false (Vl.mk 0 0 0 (⟨#[]⟩:ByteArray) ([]) ([])))).bind fun b =>
 (HH n b.1 b.2.1).bind fun h =>
 (GI n b.1 b.2.1).bind fun y =>
 if !(decide (y=0)) then
  some (decide ((h.length:Int)=0))
 else
  if !(decide ((h.length:Int)=(b.2.1.slots.length:Int))) then
   some (false)
  else
   BU n b h n 0
theorem NM (w0:World) (hE:ZgK w0) (hM:Vh w0) (hP:Pow10 w0) (hT:Lib.Utf8Tabs 1 2 w0) (n:Nat) (B:Aq) (Rw:Au) (L:Av) (a0:Nod) (a1:Stt) (r:Bool) (h:F9 n a0 a1=some r) :
  ACalls Tryz.prog w0 4 [.agg (.val (.string a0.name)::(Ak a0.kind::(Ak a0.schema::(Ak a0.result::(Ak a0.number::(Ak a0.time::(Ak a0.limit::(.val (.string a0.text)::((a0.type.cs)++(.list (a0.types.map EV) .none::(.list (a0.exprs.map GM) .none::(.list (a0.mapping.map BH) .none::(.list (a0.calls.map CX) .none::([.list (a0.next.map BG) .none])))))))))))))),.agg (Ak a1.number::(Ak a1.time::([.list (a1.slots.map BF) .none])))] ⟨B,Rw,L⟩ fun x st=>x = .val (.bool r)∧st=⟨B,Rw,L⟩:=by
 rw [F9] at h
 refine hd [.tmp 4] Tryz.func4 Tryz.ntmps4 fun M0 W0 u j i c z g hs=>?_
 simp only [AL]
 refine rg [2,3] hs ?_
 obtain ⟨b,w,h⟩:=bind_some h
 refine rc 2 [2,3] hs ?_;intro K2 q
 refine Ax _ (OU w0 n _ _ _ a0 a1 (Inp.mk 0 0 ((0,[])) (Msg.mk ((0,[])) 0 ([]) (Vl.mk 0 0 0 (⟨#[]⟩:ByteArray) ([]) ([]))) 0 false false (Vl.mk 0 0 0 (⟨#[]⟩:ByteArray) ([]) ([]))) _ w) (hv hs) ?_
 refine ne hs q ?_
 clear q
 obtain ⟨y,t,h⟩:=bind_some h
 refine rc 2 [2,3,5] hs ?_;intro K4 k
 refine Ax _ (RL w0 hT n _ _ _ b.1 b.2.1 _ t) (hv hs) ?_
 refine ne hs k ?_
 clear k
 apply Am;intro K6 o
 obtain ⟨C,v,h⟩:=bind_some h
 refine rc 3 [2,3,5,27] hs ?_;intro K7 p
 refine Ax _ (Tc w0 _ _ _ hE hM hP hT) (hv hs) ?_
 refine nc hs ?_
 refine Ax _ (SE w0 hT n _ _ _ b.1 b.2.1 _ v) (hv hs) ?_
 refine ne hs p ?_
 clear p
 refine Gw h hs ?_ ?_<;>intro hs h
 ·exact go (tg (a:=([4],()))) h hs u j i c g (q1 (Tc w0)) trivial
 refine sk [2,3,5] hs o ?_
 clear o
 apply Am;intro K11 f
 refine rg [2,3,5,39] hs ?_
 refine Gw h hs ?_ ?_<;>intro hs h
 ·refine rg [4] hs ?_
  exact rt h hs c g
 refine sk [2,3,5] hs f ?_
 clear f
 refine AZ (fun e st=>Ck e st B Rw L [] [.val (.string b.1.name)::(Ak b.1.kind::(Ak b.1.schema::(Ak b.1.result::(Ak b.1.number::(Ak b.1.time::(Ak b.1.limit::(.val (.string b.1.text)::((b.1.type.cs)++(.list (b.1.types.map EV) .none::(.list (b.1.exprs.map GM) .none::(.list (b.1.mapping.map BH) .none::(.list (b.1.calls.map CX) .none::([.list (b.1.next.map BG) .none]))))))))))))),Ak b.2.1.number::(Ak b.2.1.time::([.list (b.2.1.slots.map BF) .none]))] [] (Gk n  = some r)) ?_ ?_
 ·intro K17 l
  refine rg [2,3,5,6] hs ?_
  apply As
  refine AN (fun m e st=>∃ (d:Int),Ck e st B Rw L [(2,true,.box B.length 0),(3,true,.box (B.length+1) 0),(5,true,.list (y.map P5) .none),(6,true,Ak d)] [.val (.string b.1.name)::(Ak b.1.kind::(Ak b.1.schema::(Ak b.1.result::(Ak b.1.number::(Ak b.1.time::(Ak b.1.limit::(.val (.string b.1.text)::((b.1.type.cs)++(.list (b.1.types.map EV) .none::(.list (b.1.exprs.map GM) .none::(.list (b.1.mapping.map BH) .none::(.list (b.1.calls.map CX) .none::([.list (b.1.next.map BG) .none]))))))))))))),Ak b.2.1.number::(Ak b.2.1.time::([.list (b.2.1.slots.map BF) .none]))] [] (BU n b y m d=some r)) n ⟨0,([]),Rw,ef hs,ef hs,g,h⟩ ?_
  rintro ml19 e st ⟨d,Xl19,Rl19,rfl,rfl,g,h⟩ Ul19 Vl19
  cases ml19 with
  | zero=>cases h
  | succ ml19 =>
  rw [BU] at h
  exact go (tg (a:=([2,3,5,6,43],([2,3,5,6],[2,3,5,6,7],[2,3,5,6,7,8],[23,2,3,5,6,79],([4],()),[2,3,5,6],[2,3,5,6],()),[],()))) h hs u j i c g trivial (q2 l (fun e s=>Vl19 ml19 e s (Nat.lt_succ_self _)))
 ·clear h;rintro e st ⟨Xk16,Rk16,rfl,rfl,g,h⟩
  rw [Gk] at h
  refine td u j i c g ?_
  refine rg [4] hs ?_
  exact rt h hs c g
theorem ZaJ (s:ByteArray):MA s s=true:=by unfold MA;exact beq_self_eq_true _
theorem Xb (n:Nat) (y:Nod × Stt × Inp) (l:List (Int × ByteArray × Bool)) (hk:1≤(y.1.calls.length:Int)∧(y.1.calls.length:Int)≤16) (hl:y.2.1.slots.length≤1000) (hs:∀ x∈y.2.1.slots,Zaj (y.1.calls.length:Int) x) (hll:l.length=y.2.1.slots.length)
  (hL:∀ j (h:j<l.length) (h2:j<y.2.1.slots.length),∃ c,Gg y.1.calls (y.2.1.slots[j].number.tmod (y.1.calls.length:Int))=some c∧l[j]=awS y.1 y.2.1.slots[j] c.1) :
  ∀ (k m i:Nat),i+k=l.length→k<m→BU n y l m (i:Int)=some true
 | k,0,i,_,h=>absurd h (Nat.not_lt_zero _)
 | 0,m+1,i,hi,_=>by
  rw [BU,Bv,Ac];rfl
 | k+1,m+1,i,hi,hm=>by
  have a:i<l.length:=by omega
  have h2:i<y.2.1.slots.length:=by omega
  obtain ⟨_,⟨e,b⟩,_,⟨n1,n2⟩,_⟩:=hs _ (List.getElem_mem h2)
  obtain ⟨d,f⟩:=ZbG n1 hk.1
  obtain ⟨c,q1,q2⟩:=hL i a h2
  unfold NB at b
  rw [BU,Bv,Ag a,Ah rfl,AO h2,Ae,Ab,AO a,Ae,Ah (by unfold Bj;omega),q1,Ae,q2]
  simp only [awS,decide_true,ZaJ,beq_self_eq_true,Bool.and_true,Bool.not_true,Bool.false_eq_true,if_false]
  rw [Ah (AW (by omega))]
  exact Xb n y l hk hl hs hll hL k m (i+1) (by omega) (by omega)
theorem V2 (n:Nat) (hn:1000000≤n) (a:Nod) (s:Stt):F9 n a s=some true:=by
 obtain ⟨y,t,j,e,h,b,_⟩:=Vb n (by omega) a s (Inp.mk 0 0 ((0,[])) (Msg.mk ((0,[])) 0 ([]) (Vl.mk 0 0 0 (⟨#[]⟩:ByteArray) ([]) ([]))) 0 false false (Vl.mk 0 0 0 (⟨#[]⟩:ByteArray) ([]) ([])))
 obtain ⟨c,o,k,i⟩:=Tu n hn y (by have:=h.1;omega) t b
 have p:=b.1
 rw [F9,e,Ae,HH,o,Ae,k]
 simp only [Ae]
 by_cases q:c=0
 ·obtain ⟨⟨_,d,_⟩,_,_,_,hs⟩:=i q
  obtain ⟨l,m,f,g⟩:=Zey n hn y t d (by omega) hs
  rw [Ag q]
  simp only [Bool.not_true,Bool.false_eq_true,if_false,m,Ae]
  rw [Ag (by rw [f])]
  simp only [Bool.not_true,Bool.false_eq_true,if_false]
  exact Xb n (y,t,j) l d (by simp only;omega) hs f g l.length n 0 (by omega) (by omega)
 ·rw [Af q]
  simp only [Bool.not_false,if_true,Ae]
  rfl
end Go.Proofs.YtcdnijfbfdnjlaaGreatDoor
namespace Go.Proofs.YtcdnijfbfdnjlaaGreatDoor
open Go Go.Shelf Go.ChangeShapes Go.WideShapes Go.ChangeAt Go.RowKit Go.Lib Go.Ev
set_option maxRecDepth 100000
mutual
def Ex.wf:Ex→Prop
 | .mk o i t v a=>Bj o∧Bj i∧t.size≤maxLen∧v.length≤maxLen∧a.length≤maxLen∧(∀ x∈v,x.wf)∧ZZ a
def ZZ:List Ex→Prop
 | []=>True
 | v::r=>v.wf∧ZZ r
end
theorem TW:∀ l,ZZ l↔∀ v∈l,v.wf
 | []=>by simp [ZZ]
 | v::r=>by simp [ZZ,TW r]
theorem Ex.ones (v:Ex):∀ x∈v.cs,x.one=true:=by
 cases v;intro x hx
 simp only [Ex.cs,List.mem_cons,List.not_mem_nil,or_false] at hx
 rcases hx with rfl | rfl | rfl | rfl | rfl<;>rfl
section
variable {H:Type} {enc:TypeId × Value→H} {W:World}
theorem RZ:∀ (n:Nat) (cs:List Value) (x:DataW H × List MemPlace),Td enc W n 83 cs=some x→∃ v:Ex,v.wf∧RC W cs v.cs
 | 0,cs,x,h=>by simp [Td,DataW.trod] at h
 | n+1,cs,x,h=>by
  obtain ⟨xs,O,hn,rfl,F,D,a⟩:=DataW.trod_struct Tryz.underlying83 h
  cases hn
  have r:cs.length=5:=F.trans (by kernel_rfl)
  have f:xs.length=5:=D
  match cs,r,xs,f,a with
  | [c0,c1,c2,c3,c4],_,[y0,y1,y2,y3,y4],_,a =>
  have E:_=some y0:=a 0 _ rfl;have z:_=some y1:=a 1 _ rfl;have y:_=some y2:=a 2 _ rfl;have u:_=some y3:=a 3 _ rfl;have G:_=some y4:=a 4 _ rfl
  obtain ⟨o,ho,eo⟩:=CJ E
  obtain ⟨i,C,ei⟩:=CJ z
  obtain ⟨t,w,et,V⟩:=Ja y
  cases n with
  | zero=>simp [DataW.trod] at u
  | succ n =>
  obtain ⟨l,J,k,e,el,p,U⟩:=EC C4 Vl.wf (fun _=>0) Tryz.underlying46 (sz:=6) (by kernel_rfl) (by omega) (fun cs x h=>by
   obtain ⟨v,hv,g,Q⟩:=Ld n cs x h
   exact ⟨v,.agg cs.toArray,hv,by simp [Value.cells],g.agg v.ones,Nat.zero_le _⟩) u
  obtain ⟨fl,N,c,s,ef,d,K⟩:=EC GM Ex.wf (fun _=>0) Tryz.underlying27 (sz:=5) (by kernel_rfl) (by omega) (fun cs x h=>by
   obtain ⟨v,hv,g⟩:=RZ n cs x h
   exact ⟨v,.agg cs.toArray,hv,by simp [Value.cells],g.agg v.ones,Nat.zero_le _⟩) G
  have m:Tryz.prog.cellsOf 3=1:=by kernel_rfl
  have q:Tryz.prog.cellsOf 9=1:=by kernel_rfl
  have j:Tryz.prog.cellsOf 46=1:=by kernel_rfl
  have b:Tryz.prog.cellsOf 27=1:=by kernel_rfl
  simp only [List.getElem_toArray,List.getElem_cons_zero,List.getElem_cons_succ,m,q,j,b,List.drop_zero,List.take_succ_cons,List.take_zero,List.cons.injEq,and_true,List.drop_succ_cons] at eo ei et el ef
  subst eo ei et el ef
  refine ⟨.mk o i t l fl,?_,?_⟩
  ·unfold Ex.wf
   exact ⟨ho,C,w,e,s,k,(TW fl).2 c⟩
  ·rw [Ex.cs,Lt,Zbn]
   exact .cons (.flat rfl) (.cons (.flat rfl) (.cons (.flat (Ag w)) (.cons p (.cons d .nil))))
end
section
variable {H:Type} {enc:TypeId × Value→H} {W:World} {base:Nat} {v:Value} {d:DataW H} {p:List MemPlace}
abbrev Mp:=List (ByteArray × Ex)
def Mp.wf (m:Mp):Prop:=m.length≤maxLen∧∀ p∈m,p.1.size≤maxLen∧p.2.wf
theorem Zbw (n:Nat) (cs:List Value) (x:DataW H × List MemPlace) (hn:Td enc W n 30 cs=some x):∃ (t:Mp) (c:Value),t.wf∧cs=[c]∧R W Mem.start W c (.list (t.map BH) .none):=by
 cases n with
 | zero=>simp [Td,DataW.trod] at hn
 | succ n =>
 obtain ⟨xs,u,hn',rfl,k,hx,a⟩:=DataW.trod_struct Tryz.underlying30 hn
 cases hn'
 have g:cs.length=1:=k.trans (by kernel_rfl)
 have i:xs.length=1:=hx
 match cs,g,xs,i,a with
 | [c0],_,[w0],_,a =>
 have e:_=some w0:=a 0 _ rfl
 cases n with
 | zero=>simp [DataW.trod] at e
 | succ n =>
 obtain ⟨l,w,r,s,e1,d,_⟩:=EC BH (fun p=>p.1.size≤maxLen∧p.2.wf) (fun _=>0) Tryz.underlying28 (sz:=6) (by kernel_rfl) (by omega) (fun cs x h=>by
  cases n with
  | zero=>simp [DataW.trod] at h
  | succ n =>
  obtain ⟨o,u,hn,rfl,k,hx,a⟩:=DataW.trod_struct Tryz.underlying85 h
  cases hn
  have j:cs.length=6:=k.trans (by kernel_rfl)
  have f:o.length=2:=hx
  match o,f,a with
  | [w0,w1],_,a =>
  have e:_=some w0:=a 0 _ rfl;have q1:_=some w1:=a 1 _ rfl
  obtain ⟨nm,b,en,y⟩:=Ja e
  obtain ⟨v,hv,d⟩:=RZ n _ _ q1
  have q:Tryz.prog.cellsOf 83=5:=by kernel_rfl
  have m:Tryz.prog.cellsOf 9=1:=by kernel_rfl
  simp only [List.getElem_toArray,List.getElem_cons_zero,List.getElem_cons_succ,q,m] at en d
  match cs,j with
  | [c0,c1,c2,c3,c4,c5],_ =>
  simp only [List.drop_zero,List.take_succ_cons,List.take_zero,List.cons.injEq,and_true,List.drop_succ_cons] at en d
  subst en
  refine ⟨(nm,v),.agg #[.string nm,c1,c2,c3,c4,c5],⟨b,hv⟩,rfl,?_,Nat.zero_le _⟩
  exact RC.agg (cs:=[.string nm,c1,c2,c3,c4,c5]) (.cons (.flat (Ag b)) d) (fun x hx=>by
   rcases List.mem_cons.1 hx with rfl | hx
   ·rfl
   ·exact v.ones x hx)) e
 have m:Tryz.prog.cellsOf 28=1:=by kernel_rfl
 simp only [List.getElem_toArray,List.getElem_cons_zero,List.getElem_cons_succ,m,List.drop_zero,List.take_succ_cons,List.take_zero,List.cons.injEq,and_true] at e1
 subst e1
 exact ⟨l,_,⟨s,r⟩,rfl,d⟩
end
set_option maxRecDepth 100000
def Ones (l:List AV):Prop:=∀ x∈l,x.one=true
theorem Ones.nil:Ones []:=fun _ h=>nomatch h
theorem Ones.cons {x:AV} {l:List AV} (h:x.one=true) (k:Ones l):Ones (x::l):=fun y hy=>by
 rcases List.mem_cons.1 hy with rfl | hy
 ·exact h
 ·exact k y hy
theorem Ones.app {l m:List AV} (h:Ones l) (k:Ones m):Ones (l++m):=fun y hy=>by
 rcases List.mem_append.1 hy with hy | hy
 ·exact h y hy
 ·exact k y hy
section
variable {H:Type} {enc:TypeId × Value→H} {W:World}
theorem JW {α:Type} (f:α→AV) (g:α→List AV) (hfg:∀ y,f y = .agg (g y)) (h1:∀ y,Ones (g y)) {t e:TypeId} {sz:Nat} (ht:Tryz.prog.underlying t=some (.slice e)) (hc:Tryz.prog.cellsOf e=sz) (hsz:0<sz)
  (H0:∀ n cs x,Td enc W n e cs=some x→∃ y,RC W cs (g y)) {n:Nat} {cs:List Value} {x:DataW H × List MemPlace} (h:Td enc W n t cs=some x):∃ (l:List α) (v:Value),cs=[v]∧R W Mem.start W v (.list (l.map f) .none):=by
 cases n with
 | zero=>simp [Td,DataW.trod] at h
 | succ n =>
  obtain ⟨l,v,_,_,e,a,_⟩:=EC f (fun _=>True) (fun _=>0) ht hc hsz (fun cs x h=>by
   obtain ⟨y,a⟩:=H0 n cs x h
   exact ⟨y,.agg cs.toArray,trivial,by simp [Value.cells],by rw [hfg];exact a.agg (h1 y),Nat.zero_le _⟩) h
  exact ⟨l,v,e,a⟩
theorem SC {n:Nat} {cs:List Value} {x:DataW H × List MemPlace} (h:Td enc W n 32 cs=some x):∃ (l:List Int) (v:Value),cs=[v]∧R W Mem.start W v (.list (l.map BG) .none):=by
 cases n with
 | zero=>simp [Td,DataW.trod] at h
 | succ n =>
  obtain ⟨l,v,_,_,e,a,_⟩:=EC BG (fun _=>True) (fun _=>0) Tryz.underlying32 (sz:=1) (by kernel_rfl) (by omega) (fun cs x h=>by
   obtain ⟨z,_,rfl⟩:=CJ h
   exact ⟨z,.int .i64 z,trivial,rfl,.flat rfl,Nat.zero_le _⟩) h
  exact ⟨l,v,e,a⟩
theorem Zdc {n:Nat} {cs:List Value} {x:DataW H × List MemPlace} (h:Td enc W n 46 cs=some x):∃ (l:List Vl) (v:Value),cs=[v]∧R W Mem.start W v (.list (l.map C4) .none) :=
 JW C4 Vl.cs (fun _=>rfl) Vl.ones Tryz.underlying46 (sz:=6) (by kernel_rfl) (by omega) (fun n cs x h=>by obtain ⟨v,_,a,_⟩:=Ld n cs x h;exact ⟨v,a⟩) h
theorem ZdZ {n:Nat} {cs:List Value} {x:DataW H × List MemPlace} (h:Td enc W n 23 cs=some x):∃ (l:List Ty) (v:Value),cs=[v]∧R W Mem.start W v (.list (l.map EV) .none) :=
 JW EV Ty.cs (fun _=>rfl) Ty.ones Tryz.underlying23 (sz:=7) (by kernel_rfl) (by omega) (fun n cs x h=>by obtain ⟨v,_,a,_⟩:=RU n cs x h;exact ⟨v,a⟩) h
theorem YS {n:Nat} {cs:List Value} {x:DataW H × List MemPlace} (h:Td enc W n 27 cs=some x):∃ (l:List Ex) (v:Value),cs=[v]∧R W Mem.start W v (.list (l.map GM) .none) :=
 JW GM Ex.cs (fun _=>rfl) Ex.ones Tryz.underlying27 (sz:=5) (by kernel_rfl) (by omega) (fun n cs x h=>by obtain ⟨v,_,a⟩:=RZ n cs x h;exact ⟨v,a⟩) h
theorem Zg:∀ (n:Nat) (cs:List Value) (x:DataW H × List MemPlace),Td enc W n 45 cs=some x→∃ v:Int × List Int,RC W cs ([Ak v.1,.list (v.2.map BG) .none])
 | 0,cs,x,h=>by simp [Td,DataW.trod] at h
 | n+1,cs,x,h=>by
  obtain ⟨xs,o,hn,rfl,k,i,a⟩:=DataW.trod_struct Tryz.underlying45 h
  cases hn
  have b:cs.length=2:=k.trans (by kernel_rfl)
  have c:xs.length=2:=i
  match cs,b,xs,c,a with
  | [c0,c1],_,[y0,y1],_,a =>
  have j:_=some y0:=a 0 _ rfl;have l:_=some y1:=a 1 _ rfl
  obtain ⟨e,_,e0⟩:=CJ j
  obtain ⟨d,p,e1,g⟩:=SC l
  have m:Tryz.prog.cellsOf 3=1:=by kernel_rfl
  have f:Tryz.prog.cellsOf 32=1:=by kernel_rfl
  simp only [List.getElem_toArray,List.getElem_cons_zero,List.getElem_cons_succ,m,f,List.drop_zero,List.take_succ_cons,List.take_zero,List.cons.injEq,and_true,List.drop_succ_cons] at e0 e1
  subst e0
  subst e1
  exact ⟨(e,d),(.cons (.flat rfl) (.cons g .nil))⟩
theorem Zgw:∀ (n:Nat) (cs:List Value) (x:DataW H × List MemPlace),Td enc W n 51 cs=some x→∃ v:Msg,RC W cs (Ak v.stamp.1 :: .list (v.stamp.2.map BG) .none::Ak v.mass :: .list (v.origins.map BG) .none::v.body.cs)
 | 0,cs,x,h=>by simp [Td,DataW.trod] at h
 | n+1,cs,x,h=>by
  obtain ⟨xs,z,hn,rfl,q,o,a⟩:=DataW.trod_struct Tryz.underlying51 h
  cases hn
  have b:cs.length=10:=q.trans (by kernel_rfl)
  have c:xs.length=4:=o
  match cs,b,xs,c,a with
  | [c0,c1,c2,c3,c4,c5,c6,c7,c8,c9],_,[y0,y1,y2,y3],_,a =>
  have p:_=some y0:=a 0 _ rfl;have i:_=some y1:=a 1 _ rfl;have g:_=some y2:=a 2 _ rfl;have m:_=some y3:=a 3 _ rfl
  obtain ⟨u,d⟩:=Zg _ _ _ p
  obtain ⟨t,_,e1⟩:=CJ i
  obtain ⟨j,y,e2,w⟩:=SC g
  obtain ⟨s,_,e,_⟩:=Ld _ _ _ m
  have r:Tryz.prog.cellsOf 45=2:=by kernel_rfl
  have l:Tryz.prog.cellsOf 3=1:=by kernel_rfl
  have f:Tryz.prog.cellsOf 32=1:=by kernel_rfl
  have k:Tryz.prog.cellsOf 49=6:=by kernel_rfl
  simp only [List.getElem_toArray,List.getElem_cons_zero,List.getElem_cons_succ,r,l,f,k,List.drop_zero,List.take_succ_cons,List.take_zero,List.cons.injEq,and_true,List.drop_succ_cons] at d e1 e2 e
  subst e1
  subst e2
  exact ⟨Msg.mk u t j s,(RC.app d (.cons (.flat rfl) (.cons w e)))⟩
theorem Zen {n:Nat} {cs:List Value} {x:DataW H × List MemPlace} (h:Td enc W n 58 cs=some x):∃ (l:List Msg) (v:Value),cs=[v]∧R W Mem.start W v (.list (l.map B7) .none) :=
 JW B7 (fun v=>Ak v.stamp.1 :: .list (v.stamp.2.map BG) .none::Ak v.mass :: .list (v.origins.map BG) .none::v.body.cs) (fun _=>rfl) (fun v => .cons rfl (.cons rfl (.cons rfl (.cons rfl v.body.ones)))) Tryz.underlying58 (sz:=10) (by kernel_rfl) (by omega) Zgw h
theorem Zeu:∀ (n:Nat) (cs:List Value) (x:DataW H × List MemPlace),Td enc W n 60 cs=some x→∃ v:Slt,RC W cs (v.key.cs++[Ak v.number,Ak v.time,.list (v.items.map B7) .none,.list (v.values.map C4) .none])
 | 0,cs,x,h=>by simp [Td,DataW.trod] at h
 | n+1,cs,x,h=>by
  obtain ⟨xs,C,hn,rfl,r,p,a⟩:=DataW.trod_struct Tryz.underlying60 h
  cases hn
  have b:cs.length=10:=r.trans (by kernel_rfl)
  have c:xs.length=5:=p
  match cs,b,xs,c,a with
  | [c0,c1,c2,c3,c4,c5,c6,c7,c8,c9],_,[y0,y1,y2,y3,y4],_,a =>
  have q:_=some y0:=a 0 _ rfl;have g:_=some y1:=a 1 _ rfl;have f:_=some y2:=a 2 _ rfl;have o:_=some y3:=a 3 _ rfl;have z:_=some y4:=a 4 _ rfl
  obtain ⟨w,_,d,_⟩:=Ld _ _ _ q
  obtain ⟨u,_,e1⟩:=CJ g
  obtain ⟨i,_,e2⟩:=CJ f
  obtain ⟨t,E,e3,y⟩:=Zen o
  obtain ⟨j,D,e4,k⟩:=Zdc z
  have s:Tryz.prog.cellsOf 49=6:=by kernel_rfl
  have m:Tryz.prog.cellsOf 3=1:=by kernel_rfl
  have e:Tryz.prog.cellsOf 58=1:=by kernel_rfl
  have l:Tryz.prog.cellsOf 46=1:=by kernel_rfl
  simp only [List.getElem_toArray,List.getElem_cons_zero,List.getElem_cons_succ,s,m,e,l,List.drop_zero,List.take_succ_cons,List.take_zero,List.cons.injEq,and_true,List.drop_succ_cons] at d e1 e2 e3 e4
  subst e1
  subst e2
  subst e3
  subst e4
  exact ⟨Slt.mk w u i t j,(RC.app d (.cons (.flat rfl) (.cons (.flat rfl) (.cons y (.cons k .nil)))))⟩
theorem ZbM {n:Nat} {cs:List Value} {x:DataW H × List MemPlace} (h:Td enc W n 35 cs=some x):∃ (l:List Slt) (v:Value),cs=[v]∧R W Mem.start W v (.list (l.map BF) .none) :=
 JW BF (fun v=>v.key.cs++[Ak v.number,Ak v.time,.list (v.items.map B7) .none,.list (v.values.map C4) .none]) (fun _=>rfl) (fun v => .app v.key.ones (.cons rfl (.cons rfl (.cons rfl (.cons rfl .nil))))) Tryz.underlying35 (sz:=10) (by kernel_rfl) (by omega) Zeu h
theorem Y9:∀ (n:Nat) (cs:List Value) (x:DataW H × List MemPlace),Td enc W n 37 cs=some x→∃ v:Stt,RC W cs ([Ak v.number,Ak v.time,.list (v.slots.map BF) .none])
 | 0,cs,x,h=>by simp [Td,DataW.trod] at h
 | n+1,cs,x,h=>by
  obtain ⟨xs,r,hn,rfl,j,g,a⟩:=DataW.trod_struct Tryz.underlying37 h
  cases hn
  have b:cs.length=3:=j.trans (by kernel_rfl)
  have c:xs.length=3:=g
  match cs,b,xs,c,a with
  | [c0,c1,c2],_,[y0,y1,y2],_,a =>
  have i:_=some y0:=a 0 _ rfl;have m:_=some y1:=a 1 _ rfl;have l:_=some y2:=a 2 _ rfl
  obtain ⟨e,_,e0⟩:=CJ i
  obtain ⟨d,_,e1⟩:=CJ m
  obtain ⟨o,q,e2,p⟩:=ZbM l
  have k:Tryz.prog.cellsOf 3=1:=by kernel_rfl
  have f:Tryz.prog.cellsOf 35=1:=by kernel_rfl
  simp only [List.getElem_toArray,List.getElem_cons_zero,List.getElem_cons_succ,k,f,List.drop_zero,List.take_succ_cons,List.take_zero,List.cons.injEq,and_true,List.drop_succ_cons] at e0 e1 e2
  subst e0
  subst e1
  subst e2
  exact ⟨Stt.mk e d o,(.cons (.flat rfl) (.cons (.flat rfl) (.cons p .nil)))⟩
theorem ZdH:∀ (n:Nat) (cs:List Value) (x:DataW H × List MemPlace),Td enc W n 64 cs=some x→∃ v:ByteArray × List (ByteArray × Ex),RC W cs ([.val (.string v.1),.list (v.2.map BH) .none])
 | 0,cs,x,h=>by simp [Td,DataW.trod] at h
 | n+1,cs,x,h=>by
  obtain ⟨xs,p,hn,rfl,l,j,a⟩:=DataW.trod_struct Tryz.underlying64 h
  cases hn
  have b:cs.length=2:=l.trans (by kernel_rfl)
  have c:xs.length=2:=j
  match cs,b,xs,c,a with
  | [c0,c1],_,[y0,y1],_,a =>
  have k:_=some y0:=a 0 _ rfl;have m:_=some y1:=a 1 _ rfl
  obtain ⟨f,d,e0,_⟩:=Ja k
  obtain ⟨e,q,_,e1,i⟩:=Zbw _ _ _ m
  have o:Tryz.prog.cellsOf 9=1:=by kernel_rfl
  have g:Tryz.prog.cellsOf 30=1:=by kernel_rfl
  simp only [List.getElem_toArray,List.getElem_cons_zero,List.getElem_cons_succ,o,g,List.drop_zero,List.take_succ_cons,List.take_zero,List.cons.injEq,and_true,List.drop_succ_cons] at e0 e1
  subst e0
  subst e1
  exact ⟨(f,e),(.cons (.flat (Ag d)) (.cons i .nil))⟩
theorem ZF {n:Nat} {cs:List Value} {x:DataW H × List MemPlace} (h:Td enc W n 31 cs=some x):∃ (l:List (ByteArray × List (ByteArray × Ex))) (v:Value),cs=[v]∧R W Mem.start W v (.list (l.map CX) .none) :=
 JW CX (fun v=>[.val (.string v.1),.list (v.2.map BH) .none]) (fun _=>rfl) (fun v => .cons rfl (.cons rfl .nil)) Tryz.underlying31 (sz:=2) (by kernel_rfl) (by omega) ZdH h
theorem ZeU:∀ (n:Nat) (cs:List Value) (x:DataW H × List MemPlace),Td enc W n 34 cs=some x→∃ v:Nod,RC W cs (.val (.string v.name)::Ak v.kind::Ak v.schema::Ak v.result::Ak v.number::Ak v.time::Ak v.limit :: .val (.string v.text)::(v.type.cs++[.list (v.types.map EV) .none,.list (v.exprs.map GM) .none,.list (v.mapping.map BH) .none,.list (v.calls.map CX) .none,.list (v.next.map BG) .none]))
 | 0,cs,x,h=>by simp [Td,DataW.trod] at h
 | n+1,cs,x,h=>by
  obtain ⟨xs,n',hn,rfl,hl,Z,a⟩:=DataW.trod_struct Tryz.underlying34 h
  cases hn
  have b:cs.length=20:=hl.trans (by kernel_rfl)
  have g:xs.length=14:=Z
  match cs,b,xs,g,a with
  | [c0,c1,c2,c3,c4,c5,c6,c7,c8,c9,c10,c11,c12,c13,c14,c15,c16,c17,c18,c19],_,[y0,y1,y2,y3,y4,y5,y6,y7,y8,y9,y10,y11,y12,y13],_,a =>
  have f0:_=some y0:=a 0 _ rfl;have C:_=some y1:=a 1 _ rfl;have y:_=some y2:=a 2 _ rfl;have J:_=some y3:=a 3 _ rfl;have f4:_=some y4:=a 4 _ rfl;have f5:_=some y5:=a 5 _ rfl;have f6:_=some y6:=a 6 _ rfl;have f7:_=some y7:=a 7 _ rfl;have w:_=some y8:=a 8 _ rfl;have K:_=some y9:=a 9 _ rfl;have m:_=some y10:=a 10 _ rfl;have f:_=some y11:=a 11 _ rfl;have c:_=some y12:=a 12 _ rfl;have e:_=some y13:=a 13 _ rfl
  obtain ⟨v0,V,e0,_⟩:=Ja f0
  obtain ⟨v1,_,e1⟩:=CJ C
  obtain ⟨D,_,e2⟩:=CJ y
  obtain ⟨v3,_,e3⟩:=CJ J
  obtain ⟨E,_,e4⟩:=CJ f4
  obtain ⟨v5,_,e5⟩:=CJ f5
  obtain ⟨v6,_,e6⟩:=CJ f6
  obtain ⟨O,k7,e7,_⟩:=Ja f7
  obtain ⟨N,_,r,_⟩:=RU _ _ _ w
  obtain ⟨v9,u9,e9,Y⟩:=ZdZ K
  obtain ⟨k,aa,e10,q⟩:=YS m
  obtain ⟨o,s,_,e11,p⟩:=Zbw _ _ _ f
  obtain ⟨l,ab,e12,i⟩:=ZF c
  obtain ⟨d,Q,e13,j⟩:=SC e
  have z0:Tryz.prog.cellsOf 9=1:=by kernel_rfl
  have G:Tryz.prog.cellsOf 3=1:=by kernel_rfl
  have u:Tryz.prog.cellsOf 26=7:=by kernel_rfl
  have F:Tryz.prog.cellsOf 23=1:=by kernel_rfl
  have z4:Tryz.prog.cellsOf 27=1:=by kernel_rfl
  have z:Tryz.prog.cellsOf 30=1:=by kernel_rfl
  have U:Tryz.prog.cellsOf 31=1:=by kernel_rfl
  have t:Tryz.prog.cellsOf 32=1:=by kernel_rfl
  simp only [List.getElem_toArray,List.getElem_cons_zero,List.getElem_cons_succ,z0,G,u,F,z4,z,U,t,List.drop_zero,List.take_succ_cons,List.take_zero,List.cons.injEq,and_true,List.drop_succ_cons] at e0 e1 e2 e3 e4 e5 e6 e7 r e9 e10 e11 e12 e13
  subst e0
  subst e1
  subst e2
  subst e3
  subst e4
  subst e5
  subst e6
  subst e7
  subst e9
  subst e10
  subst e11
  subst e12
  subst e13
  exact ⟨Nod.mk v0 v1 D v3 E v5 v6 O N v9 k o l d,(.cons (.flat (Ag V)) (.cons (.flat rfl) (.cons (.flat rfl) (.cons (.flat rfl) (.cons (.flat rfl) (.cons (.flat rfl) (.cons (.flat rfl) (.cons (.flat (Ag k7)) (RC.app r (.cons Y (.cons q (.cons p (.cons i (.cons j .nil))))))))))))))⟩
end
section
variable {H:Type} {enc:TypeId × Value→H} {W:World} {base:Nat} {v:Value} {d:DataW H} {p:List MemPlace}
theorem Zha (hv:Value.okWide Tryz.prog W .any base 34 v) (h:DataW.Trod enc Tryz.prog W 0 (fun _=>true) true 34 v d p):∃ t:Nod,True∧R W Mem.start W v (Vq t):=by
 obtain ⟨cs,rfl⟩:=Zbl Tryz.underlying34 hv
 obtain ⟨n,b⟩:=h
 obtain ⟨t,a⟩:=ZeU n _ _ b
 have a:RC W cs.toList _:=a
 exact ⟨t,trivial,by rw [W8];simpa using a.agg (show Ones _ from .cons rfl (.cons rfl (.cons rfl (.cons rfl (.cons rfl (.cons rfl (.cons rfl (.cons rfl (.app t.type.ones (.cons rfl (.cons rfl (.cons rfl (.cons rfl (.cons rfl .nil))))))))))))))⟩
theorem Zf3 (hv:Value.okWide Tryz.prog W .any base 37 v) (h:DataW.Trod enc Tryz.prog W 0 (fun _=>true) true 37 v d p):∃ t:Stt,True∧R W Mem.start W v (VU t):=by
 obtain ⟨cs,rfl⟩:=Zbl Tryz.underlying37 hv
 obtain ⟨n,b⟩:=h
 obtain ⟨t,a⟩:=Y9 n _ _ b
 have a:RC W cs.toList _:=a
 exact ⟨t,trivial,by rw [WE];simpa using a.agg (show Ones _ from .cons rfl (.cons rfl (.cons rfl .nil)))⟩
end
set_option maxRecDepth 100000
noncomputable def Xj:Nat:=(World.holding Tryz.prog default ⟨#[],#[],[]⟩).heap.size
noncomputable def N8 (os:Os):World :=
 let w0:=World.holding Tryz.prog os ⟨#[.cells #[.string ⟨#[118,97,108,117,101,32,111,117,116,32,111,102,32,114,97,110,103,101]⟩] 430,.cells #[.string ⟨#[105,110,118,97,108,105,100,32,115,121,110,116,97,120]⟩] 430],#[],[]⟩
 let put (h:Array Obj) (g:Nat) (d:DataW Unit):Array Obj:=h.modify g fun
  | .cells _ t frozen => .cells (Zi0 d).toArray t frozen
  | o=>o
 let one (h:Array Obj) (g:Nat) (v:Value):Array Obj:=h.modify g fun
  | .cells _ t frozen => .cells #[v] t frozen
  | o=>o
 { w0 with heap:=one (one (put (put (put (put (put w0.heap 1 Rows.laid_unicode_utf8_first) 2 Rows.laid_unicode_utf8_acceptRanges) 3 Rows.laid_internal_strconv_uint64pow10) 4 Rows.laid_math_bits_deBruijn32tab) 5 Rows.laid_math_bits_deBruijn64tab)
   7 (.iface 428 (.pointer (some ⟨Xj,0,none⟩)))) 6 (.iface 428 (.pointer (some ⟨Xj+1,0,none⟩))) }
theorem UG (os:Os) (args:Array Value):laidMet Tryz.prog Rows.sagaChecksRow.laid ((N8 os).forCall (fun _ _=>0) ⟨#[],args,[]⟩).memory :=
 (LaidIn.of_run (l:=Rows.sagaChecksRow.laid) [4,5,3,2,7,6,1,Xj,Xj+1] 8 (by kernel_rfl) (by kernel_rfl) (by kernel_rfl) (by kernel_rfl)).met
theorem Zeq {W:World} (hL:laidMet Tryz.prog Rows.sagaChecksRow.laid W):Lib.Utf8Tabs 1 2 W∧Pow10 W :=
 ⟨utf8Tabs_of_readsT (U8Types.of196 Tryz.laysValid) ⟨by kernel_rfl,by kernel_rfl,by kernel_rfl,by kernel_rfl,by kernel_rfl,by kernel_rfl,by kernel_rfl⟩ (Lib.laidMet.reads hL (.tail _ (.tail _ (.tail _ (.tail _ (.tail _ (.tail _ (.head _)))))))) (Lib.laidMet.reads hL (.tail _ (.tail _ (.tail _ (.head _))))),
  Py (Lib.laidMet.reads hL (.tail _ (.tail _ (.head _))))⟩
theorem LP {W:World} {name:String} {d:DataW Unit} {g:Nat} {t:TypeId} {ms:Array (String × TypeId)} (h:Lib.VarReads Tryz.prog W name d) (hg:Tryz.prog.globalNamed name=some g) (ht:(Tryz.prog.globals[g]?).map (·.type)=some t) (hu:Tryz.prog.underlying t=some (.interface ms)) :
  ∃ ev,W.cell? ⟨g,0,none⟩=some ev∧(ev = .nilIface∨∃ te pe,ev = .iface te pe):=by
 obtain ⟨i,j,cs,fuel,p,b,f,e,a⟩:=h
 obtain rfl:=Option.some.inj (hg.symm.trans b)
 obtain rfl:=Option.some.inj (ht.symm.trans f)
 have c:=World.var?_cell b e 0
 obtain ⟨l⟩:=cs
 cases fuel with
 | zero=>simp [DataW.trod] at a
 | succ n =>
  unfold DataW.trod at a
  simp only [hu] at a
  split at a
  all_goals first
   | (rename_i q _;simp at q;done)
   | exact ⟨_,by simpa using c,.inl rfl⟩
   | exact ⟨_,by simpa using c,.inr ⟨_,_,rfl⟩⟩
   | simp_all
theorem Zc6 {W:World} (hL:laidMet Tryz.prog Rows.sagaChecksRow.laid W):ZgK W :=
 ⟨LP (Lib.laidMet.reads hL (.tail _ (.tail _ (.tail _ (.tail _ (.tail _ (.head _))))))) (by kernel_rfl) (by kernel_rfl) (t:=312) Tryz.underlying312,
  LP (Lib.laidMet.reads hL (.tail _ (.tail _ (.tail _ (.tail _ (.head _)))))) (by kernel_rfl) (by kernel_rfl) (t:=312) Tryz.underlying312⟩
theorem Zeg {W:World} (hS:W.ShapedOpen Tryz.prog):Vh W :=
 cell_of_shapedOpen_int (zero := #[.int .i64 0]) (t:=3) hS (of_decide_eq_true (by kernel_rfl)) (by kernel_rfl) rfl (by kernel_rfl) (by kernel_rfl) Tryz.underlying3
end Go.Proofs.YtcdnijfbfdnjlaaGreatDoor
