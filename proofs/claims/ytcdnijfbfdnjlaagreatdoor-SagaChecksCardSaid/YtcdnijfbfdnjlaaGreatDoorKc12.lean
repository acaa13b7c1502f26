/-
  Part 12 of the proof: rules and walks that the claim's last text uses.
-/
import Derived.Shelf.Vars
import Derived.Test.YtcdnijfbfdnjlaaGreatDoorKc11
set_option linter.unusedSimpArgs false
set_option linter.unusedVariables false
set_option maxRecDepth 100000
set_option maxHeartbeats 4000000
namespace Go.Proofs.YtcdnijfbfdnjlaaGreatDoor
open Go Go.RowKit Go.Ev
set_option maxRecDepth 100000
set_option maxHeartbeats 4000000
theorem ZkJ:It kX 99993 (CC (CC (CC (CC (CC (CC (CC (kC)))))))) kE7 kS7=some (.ret,kE7,kS7):=by kernel_rfl
theorem kQ0:(kC) = .seq (S1 (kC)) (CC (kC)):=by kernel_rfl
theorem kQ1:(CC (kC)) = .seq (S1 (CC (kC))) (CC (CC (kC))):=by kernel_rfl
theorem kQ2:(CC (CC (kC))) = .seq (S1 (CC (CC (kC)))) (CC (CC (CC (kC)))):=by kernel_rfl
theorem kQ3:(CC (CC (CC (kC)))) = .seq (S1 (CC (CC (CC (kC))))) (CC (CC (CC (CC (kC))))):=by kernel_rfl
theorem kQ4:(CC (CC (CC (CC (kC))))) = .seq (S1 (CC (CC (CC (CC (kC)))))) (CC (CC (CC (CC (CC (kC)))))):=by kernel_rfl
theorem kQ5:(CC (CC (CC (CC (CC (kC)))))) = .seq (S1 (CC (CC (CC (CC (CC (kC))))))) (CC (CC (CC (CC (CC (CC (kC))))))):=by kernel_rfl
theorem kQ6:(CC (CC (CC (CC (CC (CC (kC))))))) = .seq (S1 (CC (CC (CC (CC (CC (CC (kC)))))))) (CC (CC (CC (CC (CC (CC (CC (kC)))))))):=by kernel_rfl
theorem ZkM:It kX 100000 kC kE0 kS0=some (.ret,kE7,kS7):=(KG kQ0 kP0 (KG kQ1 kP1 (KG kQ2 kP2 (KG kQ3 kP3 (KG kQ4 kP4 (KG kQ5 kP5 (KG kQ6 kP6 ZkJ)))))))
theorem Zlm:Q7 Tryz.prog cfgL none 9 Tryz.f9 ⟨0,0,0⟩ ⟨[],[],[]⟩ kE7 kS7=some (.val (.bool true),⟨[],[],[]⟩):=by kernel_rfl
theorem ZiU:Hg Tryz.prog cfgL 60 none 9 [] ⟨[],[],[]⟩=some (.val (.bool true),⟨[],[],[]⟩) :=
 Zgo (fn:=Tryz.f9) (c:=kC) (by kernel_rfl) Tryz.func9 (by kernel_rfl) (of_decide_eq_true (by kernel_rfl)) ZkM (.inr rfl) Zlm
theorem Zbr (w0:World) (B:Aq) (Rw:Au) (L:Av) (hE:ZgV w0) (hM:US w0) (hP:Pow10 w0) (hT:Lib.Utf8Tabs 1 2 w0):ACalls Tryz.prog w0 9 [] ⟨B,Rw,L⟩ fun v s'=>v = .val (.bool true)∧s'=⟨B,Rw,L⟩ :=
 EL (Zal hM hP hT 60 9 [] ⟨[],[],[]⟩ _ _ ZiU).1 rfl fun M w c d b=>by
  have hv:c = #[]:=by
   have:=b.1
   apply Array.eq_empty_of_size_eq_zero;simpa using this
  subst hv
  have f:US w:=by obtain ⟨m,h⟩:=hM;exact ⟨m,Pm h d⟩
  have h:=Zal (w0:=w) f (hP.below d) (Utf8Tabs_below hT d) 60 9 [] ⟨[],[],[]⟩ _ _ ZiU
  refine (h.2 Mem.start w #[] (QH w) ⟨rfl,fun i e h2=>by simp at e⟩).mono ?_
  rintro en g ⟨v,M',a,st,e,⟨h2,_⟩,_,h4,h5⟩
  subst h2
  have:=h5.val_inv.1
  subst this
  exact ⟨e,h4.below⟩
def EG (n:Nat) (a0:Nod) (q:Stt):Option Bool :=
 (Fa n a0).bind fun b =>
 (EI n q).bind fun h =>
 (FT n b h).bind fun y =>
 (Gv n b h).bind fun y7 =>
 some (decide (y=y7))
theorem LM (w0:World) (hE:ZgV w0) (hM:US w0) (hP:Pow10 w0) (hT:Lib.Utf8Tabs 1 2 w0) (n:Nat) (B:Aq) (Rw:Au) (L:Av) (a0:Nod) (a1:Stt) (r:Bool) (h:EG n a0 a1=some r) :
  ACalls Tryz.prog w0 3 [.agg (.val (.string a0.name)::(Ak a0.kind::(Ak a0.schema::(Ak a0.result::(Ak a0.number::(Ak a0.time::(Ak a0.limit::(.val (.string a0.text)::((a0.type.cs)++(.list (a0.types.map Gx) .none::(.list (a0.exprs.map Ir) .none::(.list (a0.mapping.map BX) .none::(.list (a0.calls.map Ej) .none::([.list (a0.next.map C4) .none])))))))))))))),.agg (Ak a1.number::(Ak a1.time::([.list (a1.slots.map B2) .none])))] ⟨B,Rw,L⟩ fun x st=>x = .val (.bool r)∧st=⟨B,Rw,L⟩:=by
 rw [EG] at h
 refine hd [.tmp 4] Tryz.func3 Tryz.ntmps3 fun M0 W0 s l m a p k hs=>?_
 simp only [AM]
 refine rg [2,3] hs ?_
 obtain ⟨i,d,h⟩:=bind_some h
 obtain ⟨j,f,h⟩:=bind_some h
 apply Am;intro K2 c
 refine dk 4 3 1 [2,3] hs Pz ?_
 refine Az _ (MD w0 n _ _ _ a0 _ d) (hv hs) ?_
 refine nc hs ?_
 refine Az _ (Lh w0 n _ _ _ a1 _ f) (hv hs) ?_
 refine dn hs c ?_
 clear c
 obtain ⟨o,g,h⟩:=bind_some h
 obtain ⟨q,e,h⟩:=bind_some h
 apply Am;intro K5 b
 refine dk 11 4 1 [4] hs Pz ?_
 refine Az _ (Zbr w0 _ _ _ hE hM hP hT) (hv hs) ?_
 refine nc hs ?_
 refine Az _ (PM w0 hT n _ _ _ i j _ g) (hv hs) ?_
 refine nc hs ?_
 refine Az _ (QQ w0 hT n _ _ _ i j _ e) (hv hs) ?_
 refine dn hs b ?_
 clear b
 exact rt h hs a k
theorem Sl (n:Nat) (hn:1000000≤n) (a:Nod) (s:Stt):EG n a s=some true:=by
 obtain ⟨y,e1,d⟩:=W8 n (by omega) a
 obtain ⟨t,b,g⟩:=Xl n (by omega) s
 obtain ⟨c,e,f,_⟩:=Uh n hn y (by have:=d.1;omega) t g
 rw [EG,e1,Ae,b,Ae,e,Ae,f,Ae,Ag rfl]
end Go.Proofs.YtcdnijfbfdnjlaaGreatDoor
namespace Go.Proofs.YtcdnijfbfdnjlaaGreatDoor
open Go Go.Shelf Go.ChangeShapes Go.WideShapes Go.ChangeAt Go.RowKit Go.Lib Go.Ev
set_option maxRecDepth 100000
mutual
def Ex.wf:Ex→Prop
 | .mk o i t v a=>Bj o∧Bj i∧t.size≤maxLen∧v.length≤maxLen∧a.length≤maxLen∧(∀ x∈v,x.wf)∧Zbh a
def Zbh:List Ex→Prop
 | []=>True
 | v::r=>v.wf∧Zbh r
end
theorem Uu:∀ l,Zbh l↔∀ v∈l,v.wf
 | []=>by simp [Zbh]
 | v::r=>by simp [Zbh,Uu r]
theorem Ex.ones (v:Ex):∀ x∈v.cs,x.one=true:=by
 cases v;intro x hx
 simp only [Ex.cs,List.mem_cons,List.not_mem_nil,or_false] at hx
 rcases hx with rfl | rfl | rfl | rfl | rfl<;>rfl
section
variable {H:Type} {enc:TypeId × Value→H} {W:World}
theorem Sz:∀ (n:Nat) (cs:List Value) (x:DataW H × List MemPlace),Td enc W n 83 cs=some x→∃ v:Ex,v.wf∧RC W cs v.cs
 | 0,cs,x,h=>by simp [Td,DataW.trod] at h
 | n+1,cs,x,h=>by
  obtain ⟨xs,N,hn,rfl,y,z,a⟩:=DataW.trod_struct Tryz.underlying83 h
  cases hn
  have s:cs.length=5:=y.trans (by kernel_rfl)
  have k:xs.length=5:=z
  match cs,s,xs,k,a with
  | [c0,c1,c2,c3,c4],_,[y0,y1,y2,y3,y4],_,a =>
  have F:_=some y0:=a 0 _ rfl;have D:_=some y1:=a 1 _ rfl;have C:_=some y2:=a 2 _ rfl;have w:_=some y3:=a 3 _ rfl;have E:_=some y4:=a 4 _ rfl
  obtain ⟨o,ho,eo⟩:=CG F
  obtain ⟨i,G,ei⟩:=CG D
  obtain ⟨t,u,et,O⟩:=IJ C
  cases n with
  | zero=>simp [DataW.trod] at w
  | succ n =>
  obtain ⟨l,V,m,p,el,b,K⟩:=Es Dp Vl.wf (fun _=>0) Tryz.underlying46 (sz:=6) (by kernel_rfl) (by omega) (fun cs x h=>by
   obtain ⟨v,hv,g,J⟩:=KA n cs x h
   exact ⟨v,.agg cs.toArray,hv,by simp [Value.cells],g.agg v.ones,Nat.zero_le _⟩) w
  obtain ⟨fl,Q,d,r,ef,c,U⟩:=Es Ir Ex.wf (fun _=>0) Tryz.underlying27 (sz:=5) (by kernel_rfl) (by omega) (fun cs x h=>by
   obtain ⟨v,hv,g⟩:=Sz n cs x h
   exact ⟨v,.agg cs.toArray,hv,by simp [Value.cells],g.agg v.ones,Nat.zero_le _⟩) E
  have f:Tryz.prog.cellsOf 3=1:=by kernel_rfl
  have j:Tryz.prog.cellsOf 9=1:=by kernel_rfl
  have q:Tryz.prog.cellsOf 46=1:=by kernel_rfl
  have e:Tryz.prog.cellsOf 27=1:=by kernel_rfl
  simp only [List.getElem_toArray,List.getElem_cons_zero,List.getElem_cons_succ,f,j,q,e,List.drop_zero,List.take_succ_cons,List.take_zero,List.cons.injEq,and_true,List.drop_succ_cons] at eo ei et el ef
  subst eo ei et el ef
  refine ⟨.mk o i t l fl,?_,?_⟩
  ·unfold Ex.wf
   exact ⟨ho,G,u,p,r,m,(Uu fl).2 d⟩
  ·rw [Ex.cs,LW,ZaM]
   exact .cons (.flat rfl) (.cons (.flat rfl) (.cons (.flat (Ag u)) (.cons b (.cons c .nil))))
end
section
variable {H:Type} {enc:TypeId × Value→H} {W:World} {base:Nat} {v:Value} {d:DataW H} {p:List MemPlace}
abbrev Mp:=List (ByteArray × Ex)
def Mp.wf (m:Mp):Prop:=m.length≤maxLen∧∀ p∈m,p.1.size≤maxLen∧p.2.wf
theorem ZaG (n:Nat) (cs:List Value) (x:DataW H × List MemPlace) (hn:Td enc W n 30 cs=some x):∃ (t:Mp) (c:Value),t.wf∧cs=[c]∧R W Mem.start W c (.list (t.map BX) .none):=by
 cases n with
 | zero=>simp [Td,DataW.trod] at hn
 | succ n =>
 obtain ⟨xs,r,hn',rfl,i,hx,a⟩:=DataW.trod_struct Tryz.underlying30 hn
 cases hn'
 have j:cs.length=1:=i.trans (by kernel_rfl)
 have f:xs.length=1:=hx
 match cs,j,xs,f,a with
 | [c0],_,[w0],_,a =>
 have e:_=some w0:=a 0 _ rfl
 cases n with
 | zero=>simp [DataW.trod] at e
 | succ n =>
 obtain ⟨l,y,s,u,e1,d,_⟩:=Es BX (fun p=>p.1.size≤maxLen∧p.2.wf) (fun _=>0) Tryz.underlying28 (sz:=6) (by kernel_rfl) (by omega) (fun cs x h=>by
  cases n with
  | zero=>simp [DataW.trod] at h
  | succ n =>
  obtain ⟨o,r,hn,rfl,i,hx,a⟩:=DataW.trod_struct Tryz.underlying85 h
  cases hn
  have g:cs.length=6:=i.trans (by kernel_rfl)
  have m:o.length=2:=hx
  match o,m,a with
  | [w0,w1],_,a =>
  have e:_=some w0:=a 0 _ rfl;have q1:_=some w1:=a 1 _ rfl
  obtain ⟨nm,b,en,w⟩:=IJ e
  obtain ⟨v,hv,d⟩:=Sz n _ _ q1
  have q:Tryz.prog.cellsOf 83=5:=by kernel_rfl
  have k:Tryz.prog.cellsOf 9=1:=by kernel_rfl
  simp only [List.getElem_toArray,List.getElem_cons_zero,List.getElem_cons_succ,q,k] at en d
  match cs,g with
  | [c0,c1,c2,c3,c4,c5],_ =>
  simp only [List.drop_zero,List.take_succ_cons,List.take_zero,List.cons.injEq,and_true,List.drop_succ_cons] at en d
  subst en
  refine ⟨(nm,v),.agg #[.string nm,c1,c2,c3,c4,c5],⟨b,hv⟩,rfl,?_,Nat.zero_le _⟩
  exact RC.agg (cs:=[.string nm,c1,c2,c3,c4,c5]) (.cons (.flat (Ag b)) d) (fun x hx=>by
   rcases List.mem_cons.1 hx with rfl | hx
   ·rfl
   ·exact v.ones x hx)) e
 have k:Tryz.prog.cellsOf 28=1:=by kernel_rfl
 simp only [List.getElem_toArray,List.getElem_cons_zero,List.getElem_cons_succ,k,List.drop_zero,List.take_succ_cons,List.take_zero,List.cons.injEq,and_true] at e1
 subst e1
 exact ⟨l,_,⟨u,s⟩,rfl,d⟩
end
set_option maxRecDepth 100000
def Ones (l:List AV):Prop:=∀ x∈l,x.one=true
theorem Ones.nil:Ones []:=fun _ h=>nomatch h
theorem Ones.cons {x:AV} {l:List AV} (h:x.one=true) (k:Ones l):Ones (x::l):=fun y hy=>by
 rcases List.mem_cons.1 hy with rfl | hy
 ·exact h
 ·exact k y hy
theorem Ones.app {l m:List AV} (h:Ones l) (k:Ones m):Ones (l++m):=fun y hy=>by
 rcases List.mem_append.1 hy with hy | hy
 ·exact h y hy
 ·exact k y hy
section
variable {H:Type} {enc:TypeId × Value→H} {W:World}
theorem JR {α:Type} (f:α→AV) (g:α→List AV) (hfg:∀ y,f y = .agg (g y)) (h1:∀ y,Ones (g y)) {t e:TypeId} {sz:Nat} (ht:Tryz.prog.underlying t=some (.slice e)) (hc:Tryz.prog.cellsOf e=sz) (hsz:0<sz)
  (H0:∀ n cs x,Td enc W n e cs=some x→∃ y,RC W cs (g y)) {n:Nat} {cs:List Value} {x:DataW H × List MemPlace} (h:Td enc W n t cs=some x):∃ (l:List α) (v:Value),cs=[v]∧R W Mem.start W v (.list (l.map f) .none):=by
 cases n with
 | zero=>simp [Td,DataW.trod] at h
 | succ n =>
  obtain ⟨l,v,_,_,e,a,_⟩:=Es f (fun _=>True) (fun _=>0) ht hc hsz (fun cs x h=>by
   obtain ⟨y,a⟩:=H0 n cs x h
   exact ⟨y,.agg cs.toArray,trivial,by simp [Value.cells],by rw [hfg];exact a.agg (h1 y),Nat.zero_le _⟩) h
  exact ⟨l,v,e,a⟩
theorem RG {n:Nat} {cs:List Value} {x:DataW H × List MemPlace} (h:Td enc W n 32 cs=some x):∃ (l:List Int) (v:Value),cs=[v]∧R W Mem.start W v (.list (l.map C4) .none):=by
 cases n with
 | zero=>simp [Td,DataW.trod] at h
 | succ n =>
  obtain ⟨l,v,_,_,e,a,_⟩:=Es C4 (fun _=>True) (fun _=>0) Tryz.underlying32 (sz:=1) (by kernel_rfl) (by omega) (fun cs x h=>by
   obtain ⟨z,_,rfl⟩:=CG h
   exact ⟨z,.int .i64 z,trivial,rfl,.flat rfl,Nat.zero_le _⟩) h
  exact ⟨l,v,e,a⟩
theorem ZdV {n:Nat} {cs:List Value} {x:DataW H × List MemPlace} (h:Td enc W n 46 cs=some x):∃ (l:List Vl) (v:Value),cs=[v]∧R W Mem.start W v (.list (l.map Dp) .none) :=
 JR Dp Vl.cs (fun _=>rfl) Vl.ones Tryz.underlying46 (sz:=6) (by kernel_rfl) (by omega) (fun n cs x h=>by obtain ⟨v,_,a,_⟩:=KA n cs x h;exact ⟨v,a⟩) h
theorem Zdw {n:Nat} {cs:List Value} {x:DataW H × List MemPlace} (h:Td enc W n 23 cs=some x):∃ (l:List Ty) (v:Value),cs=[v]∧R W Mem.start W v (.list (l.map Gx) .none) :=
 JR Gx Ty.cs (fun _=>rfl) Ty.ones Tryz.underlying23 (sz:=7) (by kernel_rfl) (by omega) (fun n cs x h=>by obtain ⟨v,_,a,_⟩:=RU n cs x h;exact ⟨v,a⟩) h
theorem Zau {n:Nat} {cs:List Value} {x:DataW H × List MemPlace} (h:Td enc W n 27 cs=some x):∃ (l:List Ex) (v:Value),cs=[v]∧R W Mem.start W v (.list (l.map Ir) .none) :=
 JR Ir Ex.cs (fun _=>rfl) Ex.ones Tryz.underlying27 (sz:=5) (by kernel_rfl) (by omega) (fun n cs x h=>by obtain ⟨v,_,a⟩:=Sz n cs x h;exact ⟨v,a⟩) h
theorem YQ:∀ (n:Nat) (cs:List Value) (x:DataW H × List MemPlace),Td enc W n 45 cs=some x→∃ v:Int × List Int,RC W cs ([Ak v.1,.list (v.2.map C4) .none])
 | 0,cs,x,h=>by simp [Td,DataW.trod] at h
 | n+1,cs,x,h=>by
  obtain ⟨xs,p,hn,rfl,e,i,a⟩:=DataW.trod_struct Tryz.underlying45 h
  cases hn
  have b:cs.length=2:=e.trans (by kernel_rfl)
  have c:xs.length=2:=i
  match cs,b,xs,c,a with
  | [c0,c1],_,[y0,y1],_,a =>
  have d:_=some y0:=a 0 _ rfl;have j:_=some y1:=a 1 _ rfl
  obtain ⟨f,_,e0⟩:=CG d
  obtain ⟨g,o,e1,m⟩:=RG j
  have k:Tryz.prog.cellsOf 3=1:=by kernel_rfl
  have l:Tryz.prog.cellsOf 32=1:=by kernel_rfl
  simp only [List.getElem_toArray,List.getElem_cons_zero,List.getElem_cons_succ,k,l,List.drop_zero,List.take_succ_cons,List.take_zero,List.cons.injEq,and_true,List.drop_succ_cons] at e0 e1
  subst e0
  subst e1
  exact ⟨(f,g),(.cons (.flat rfl) (.cons m .nil))⟩
theorem Zgr:∀ (n:Nat) (cs:List Value) (x:DataW H × List MemPlace),Td enc W n 51 cs=some x→∃ v:Msg,RC W cs (Ak v.stamp.1 :: .list (v.stamp.2.map C4) .none::Ak v.mass :: .list (v.origins.map C4) .none::v.body.cs)
 | 0,cs,x,h=>by simp [Td,DataW.trod] at h
 | n+1,cs,x,h=>by
  obtain ⟨xs,y,hn,rfl,f,m,a⟩:=DataW.trod_struct Tryz.underlying51 h
  cases hn
  have b:cs.length=10:=f.trans (by kernel_rfl)
  have c:xs.length=4:=m
  match cs,b,xs,c,a with
  | [c0,c1,c2,c3,c4,c5,c6,c7,c8,c9],_,[y0,y1,y2,y3],_,a =>
  have w:_=some y0:=a 0 _ rfl;have s:_=some y1:=a 1 _ rfl;have r:_=some y2:=a 2 _ rfl;have q:_=some y3:=a 3 _ rfl
  obtain ⟨g,d⟩:=YQ _ _ _ w
  obtain ⟨i,_,e1⟩:=CG s
  obtain ⟨p,z,e2,l⟩:=RG r
  obtain ⟨o,_,e,_⟩:=KA _ _ _ q
  have t:Tryz.prog.cellsOf 45=2:=by kernel_rfl
  have j:Tryz.prog.cellsOf 3=1:=by kernel_rfl
  have u:Tryz.prog.cellsOf 32=1:=by kernel_rfl
  have k:Tryz.prog.cellsOf 49=6:=by kernel_rfl
  simp only [List.getElem_toArray,List.getElem_cons_zero,List.getElem_cons_succ,t,j,u,k,List.drop_zero,List.take_succ_cons,List.take_zero,List.cons.injEq,and_true,List.drop_succ_cons] at d e1 e2 e
  subst e1
  subst e2
  exact ⟨Msg.mk g i p o,(RC.app d (.cons (.flat rfl) (.cons l e)))⟩
theorem Zc7 {n:Nat} {cs:List Value} {x:DataW H × List MemPlace} (h:Td enc W n 58 cs=some x):∃ (l:List Msg) (v:Value),cs=[v]∧R W Mem.start W v (.list (l.map BZ) .none) :=
 JR BZ (fun v=>Ak v.stamp.1 :: .list (v.stamp.2.map C4) .none::Ak v.mass :: .list (v.origins.map C4) .none::v.body.cs) (fun _=>rfl) (fun v => .cons rfl (.cons rfl (.cons rfl (.cons rfl v.body.ones)))) Tryz.underlying58 (sz:=10) (by kernel_rfl) (by omega) Zgr h
theorem Zd6:∀ (n:Nat) (cs:List Value) (x:DataW H × List MemPlace),Td enc W n 60 cs=some x→∃ v:Slt,RC W cs (v.key.cs++[Ak v.number,Ak v.time,.list (v.items.map BZ) .none,.list (v.values.map Dp) .none])
 | 0,cs,x,h=>by simp [Td,DataW.trod] at h
 | n+1,cs,x,h=>by
  obtain ⟨xs,C,hn,rfl,e,m,a⟩:=DataW.trod_struct Tryz.underlying60 h
  cases hn
  have b:cs.length=10:=e.trans (by kernel_rfl)
  have c:xs.length=5:=m
  match cs,b,xs,c,a with
  | [c0,c1,c2,c3,c4,c5,c6,c7,c8,c9],_,[y0,y1,y2,y3,y4],_,a =>
  have y:_=some y0:=a 0 _ rfl;have s:_=some y1:=a 1 _ rfl;have r:_=some y2:=a 2 _ rfl;have q:_=some y3:=a 3 _ rfl;have t:_=some y4:=a 4 _ rfl
  obtain ⟨f,_,d,_⟩:=KA _ _ _ y
  obtain ⟨g,_,e1⟩:=CG s
  obtain ⟨p,_,e2⟩:=CG r
  obtain ⟨o,E,e3,l⟩:=Zc7 q
  obtain ⟨i,D,e4,z⟩:=ZdV t
  have u:Tryz.prog.cellsOf 49=6:=by kernel_rfl
  have j:Tryz.prog.cellsOf 3=1:=by kernel_rfl
  have w:Tryz.prog.cellsOf 58=1:=by kernel_rfl
  have k:Tryz.prog.cellsOf 46=1:=by kernel_rfl
  simp only [List.getElem_toArray,List.getElem_cons_zero,List.getElem_cons_succ,u,j,w,k,List.drop_zero,List.take_succ_cons,List.take_zero,List.cons.injEq,and_true,List.drop_succ_cons] at d e1 e2 e3 e4
  subst e1
  subst e2
  subst e3
  subst e4
  exact ⟨Slt.mk f g p o i,(RC.app d (.cons (.flat rfl) (.cons (.flat rfl) (.cons l (.cons z .nil)))))⟩
theorem Za1 {n:Nat} {cs:List Value} {x:DataW H × List MemPlace} (h:Td enc W n 35 cs=some x):∃ (l:List Slt) (v:Value),cs=[v]∧R W Mem.start W v (.list (l.map B2) .none) :=
 JR B2 (fun v=>v.key.cs++[Ak v.number,Ak v.time,.list (v.items.map BZ) .none,.list (v.values.map Dp) .none]) (fun _=>rfl) (fun v => .app v.key.ones (.cons rfl (.cons rfl (.cons rfl (.cons rfl .nil))))) Tryz.underlying35 (sz:=10) (by kernel_rfl) (by omega) Zd6 h
theorem Yw:∀ (n:Nat) (cs:List Value) (x:DataW H × List MemPlace),Td enc W n 37 cs=some x→∃ v:Stt,RC W cs ([Ak v.number,Ak v.time,.list (v.slots.map B2) .none])
 | 0,cs,x,h=>by simp [Td,DataW.trod] at h
 | n+1,cs,x,h=>by
  obtain ⟨xs,q,hn,rfl,f,k,a⟩:=DataW.trod_struct Tryz.underlying37 h
  cases hn
  have b:cs.length=3:=f.trans (by kernel_rfl)
  have c:xs.length=3:=k
  match cs,b,xs,c,a with
  | [c0,c1,c2],_,[y0,y1,y2],_,a =>
  have e:_=some y0:=a 0 _ rfl;have l:_=some y1:=a 1 _ rfl;have d:_=some y2:=a 2 _ rfl
  obtain ⟨g,_,e0⟩:=CG e
  obtain ⟨i,_,e1⟩:=CG l
  obtain ⟨m,r,e2,j⟩:=Za1 d
  have o:Tryz.prog.cellsOf 3=1:=by kernel_rfl
  have p:Tryz.prog.cellsOf 35=1:=by kernel_rfl
  simp only [List.getElem_toArray,List.getElem_cons_zero,List.getElem_cons_succ,o,p,List.drop_zero,List.take_succ_cons,List.take_zero,List.cons.injEq,and_true,List.drop_succ_cons] at e0 e1 e2
  subst e0
  subst e1
  subst e2
  exact ⟨Stt.mk g i m,(.cons (.flat rfl) (.cons (.flat rfl) (.cons j .nil)))⟩
theorem ZcJ:∀ (n:Nat) (cs:List Value) (x:DataW H × List MemPlace),Td enc W n 64 cs=some x→∃ v:ByteArray × List (ByteArray × Ex),RC W cs ([.val (.string v.1),.list (v.2.map BX) .none])
 | 0,cs,x,h=>by simp [Td,DataW.trod] at h
 | n+1,cs,x,h=>by
  obtain ⟨xs,q,hn,rfl,e,i,a⟩:=DataW.trod_struct Tryz.underlying64 h
  cases hn
  have b:cs.length=2:=e.trans (by kernel_rfl)
  have c:xs.length=2:=i
  match cs,b,xs,c,a with
  | [c0,c1],_,[y0,y1],_,a =>
  have d:_=some y0:=a 0 _ rfl;have k:_=some y1:=a 1 _ rfl
  obtain ⟨f,j,e0,_⟩:=IJ d
  obtain ⟨g,p,_,e1,o⟩:=ZaG _ _ _ k
  have l:Tryz.prog.cellsOf 9=1:=by kernel_rfl
  have m:Tryz.prog.cellsOf 30=1:=by kernel_rfl
  simp only [List.getElem_toArray,List.getElem_cons_zero,List.getElem_cons_succ,l,m,List.drop_zero,List.take_succ_cons,List.take_zero,List.cons.injEq,and_true,List.drop_succ_cons] at e0 e1
  subst e0
  subst e1
  exact ⟨(f,g),(.cons (.flat (Ag j)) (.cons o .nil))⟩
theorem Yv {n:Nat} {cs:List Value} {x:DataW H × List MemPlace} (h:Td enc W n 31 cs=some x):∃ (l:List (ByteArray × List (ByteArray × Ex))) (v:Value),cs=[v]∧R W Mem.start W v (.list (l.map Ej) .none) :=
 JR Ej (fun v=>[.val (.string v.1),.list (v.2.map BX) .none]) (fun _=>rfl) (fun v => .cons rfl (.cons rfl .nil)) Tryz.underlying31 (sz:=2) (by kernel_rfl) (by omega) ZcJ h
theorem Zd9:∀ (n:Nat) (cs:List Value) (x:DataW H × List MemPlace),Td enc W n 34 cs=some x→∃ v:Nod,RC W cs (.val (.string v.name)::Ak v.kind::Ak v.schema::Ak v.result::Ak v.number::Ak v.time::Ak v.limit :: .val (.string v.text)::(v.type.cs++[.list (v.types.map Gx) .none,.list (v.exprs.map Ir) .none,.list (v.mapping.map BX) .none,.list (v.calls.map Ej) .none,.list (v.next.map C4) .none]))
 | 0,cs,x,h=>by simp [Td,DataW.trod] at h
 | n+1,cs,x,h=>by
  obtain ⟨xs,n',hn,rfl,w,N,a⟩:=DataW.trod_struct Tryz.underlying34 h
  cases hn
  have b:cs.length=20:=w.trans (by kernel_rfl)
  have g:xs.length=14:=N
  match cs,b,xs,g,a with
  | [c0,c1,c2,c3,c4,c5,c6,c7,c8,c9,c10,c11,c12,c13,c14,c15,c16,c17,c18,c19],_,[y0,y1,y2,y3,y4,y5,y6,y7,y8,y9,y10,y11,y12,y13],_,a =>
  have f0:_=some y0:=a 0 _ rfl;have f1:_=some y1:=a 1 _ rfl;have Z:_=some y2:=a 2 _ rfl;have V:_=some y3:=a 3 _ rfl;have f4:_=some y4:=a 4 _ rfl;have f5:_=some y5:=a 5 _ rfl;have f6:_=some y6:=a 6 _ rfl;have f7:_=some y7:=a 7 _ rfl;have O:_=some y8:=a 8 _ rfl;have f9:_=some y9:=a 9 _ rfl;have q:_=some y10:=a 10 _ rfl;have i:_=some y11:=a 11 _ rfl;have d:_=some y12:=a 12 _ rfl;have j:_=some y13:=a 13 _ rfl
  obtain ⟨y,k0,e0,_⟩:=IJ f0
  obtain ⟨z,_,e1⟩:=CG f1
  obtain ⟨U,_,e2⟩:=CG Z
  obtain ⟨Q,_,e3⟩:=CG V
  obtain ⟨C,_,e4⟩:=CG f4
  obtain ⟨v5,_,e5⟩:=CG f5
  obtain ⟨v6,_,e6⟩:=CG f6
  obtain ⟨u,Y,e7,_⟩:=IJ f7
  obtain ⟨v8,_,r,_⟩:=RU _ _ _ O
  obtain ⟨v9,u9,e9,D⟩:=Zdw f9
  obtain ⟨o,F,e10,p⟩:=Zau q
  obtain ⟨c,G,_,e11,f⟩:=ZaG _ _ _ i
  obtain ⟨k,s,e12,m⟩:=Yv d
  obtain ⟨e,aa,e13,l⟩:=RG j
  have z0:Tryz.prog.cellsOf 9=1:=by kernel_rfl
  have J:Tryz.prog.cellsOf 3=1:=by kernel_rfl
  have z2:Tryz.prog.cellsOf 26=7:=by kernel_rfl
  have K:Tryz.prog.cellsOf 23=1:=by kernel_rfl
  have z4:Tryz.prog.cellsOf 27=1:=by kernel_rfl
  have z5:Tryz.prog.cellsOf 30=1:=by kernel_rfl
  have t:Tryz.prog.cellsOf 31=1:=by kernel_rfl
  have E:Tryz.prog.cellsOf 32=1:=by kernel_rfl
  simp only [List.getElem_toArray,List.getElem_cons_zero,List.getElem_cons_succ,z0,J,z2,K,z4,z5,t,E,List.drop_zero,List.take_succ_cons,List.take_zero,List.cons.injEq,and_true,List.drop_succ_cons] at e0 e1 e2 e3 e4 e5 e6 e7 r e9 e10 e11 e12 e13
  subst e0
  subst e1
  subst e2
  subst e3
  subst e4
  subst e5
  subst e6
  subst e7
  subst e9
  subst e10
  subst e11
  subst e12
  subst e13
  exact ⟨Nod.mk y z U Q C v5 v6 u v8 v9 o c k e,(.cons (.flat (Ag k0)) (.cons (.flat rfl) (.cons (.flat rfl) (.cons (.flat rfl) (.cons (.flat rfl) (.cons (.flat rfl) (.cons (.flat rfl) (.cons (.flat (Ag Y)) (RC.app r (.cons D (.cons p (.cons f (.cons m (.cons l .nil))))))))))))))⟩
end
section
variable {H:Type} {enc:TypeId × Value→H} {W:World} {base:Nat} {v:Value} {d:DataW H} {p:List MemPlace}
theorem Zgh (hv:Value.okWide Tryz.prog W .any base 34 v) (h:DataW.Trod enc Tryz.prog W 0 (fun _=>true) true 34 v d p):∃ t:Nod,True∧R W Mem.start W v (U3 t):=by
 obtain ⟨cs,rfl⟩:=ZaD Tryz.underlying34 hv
 obtain ⟨n,b⟩:=h
 obtain ⟨t,a⟩:=Zd9 n _ _ b
 have a:RC W cs.toList _:=a
 exact ⟨t,trivial,by rw [WL];simpa using a.agg (show Ones _ from .cons rfl (.cons rfl (.cons rfl (.cons rfl (.cons rfl (.cons rfl (.cons rfl (.cons rfl (.app t.type.ones (.cons rfl (.cons rfl (.cons rfl (.cons rfl (.cons rfl .nil))))))))))))))⟩
theorem ZgO (hv:Value.okWide Tryz.prog W .any base 37 v) (h:DataW.Trod enc Tryz.prog W 0 (fun _=>true) true 37 v d p):∃ t:Stt,True∧R W Mem.start W v (VN t):=by
 obtain ⟨cs,rfl⟩:=ZaD Tryz.underlying37 hv
 obtain ⟨n,b⟩:=h
 obtain ⟨t,a⟩:=Yw n _ _ b
 have a:RC W cs.toList _:=a
 exact ⟨t,trivial,by rw [WM];simpa using a.agg (show Ones _ from .cons rfl (.cons rfl (.cons rfl .nil)))⟩
end
set_option maxRecDepth 100000
noncomputable def WP:Nat:=(World.holding Tryz.prog default ⟨#[],#[],[]⟩).heap.size
noncomputable def NG (os:Os):World :=
 let w0:=World.holding Tryz.prog os ⟨#[.cells #[.string ⟨#[118,97,108,117,101,32,111,117,116,32,111,102,32,114,97,110,103,101]⟩] 430,.cells #[.string ⟨#[105,110,118,97,108,105,100,32,115,121,110,116,97,120]⟩] 430],#[],[]⟩
 let put (h:Array Obj) (g:Nat) (d:DataW Unit):Array Obj:=h.modify g fun
  | .cells _ t frozen => .cells (Zi0 d).toArray t frozen
  | o=>o
 let one (h:Array Obj) (g:Nat) (v:Value):Array Obj:=h.modify g fun
  | .cells _ t frozen => .cells #[v] t frozen
  | o=>o
 { w0 with heap:=one (one (put (put (put (put (put w0.heap 1 Rows.laid_unicode_utf8_first) 2 Rows.laid_unicode_utf8_acceptRanges) 3 Rows.laid_internal_strconv_uint64pow10) 4 Rows.laid_math_bits_deBruijn32tab) 5 Rows.laid_math_bits_deBruijn64tab)
   7 (.iface 428 (.pointer (some ⟨WP,0,none⟩)))) 6 (.iface 428 (.pointer (some ⟨WP+1,0,none⟩))) }
theorem SO (os:Os) (args:Array Value):laidMet Tryz.prog Rows.sagaChecksRow.laid ((NG os).forCall (fun _ _=>0) ⟨#[],args,[]⟩).memory :=
 (LaidIn.of_run (l:=Rows.sagaChecksRow.laid) [4,5,3,2,7,6,1,WP,WP+1] 8 (by kernel_rfl) (by kernel_rfl) (by kernel_rfl) (by kernel_rfl)).met
theorem Zen {W:World} (hL:laidMet Tryz.prog Rows.sagaChecksRow.laid W):Lib.Utf8Tabs 1 2 W∧Pow10 W :=
 ⟨utf8Tabs_of_readsT (U8Types.of196 Tryz.laysValid) ⟨by kernel_rfl,by kernel_rfl,by kernel_rfl,by kernel_rfl,by kernel_rfl,by kernel_rfl,by kernel_rfl⟩ (Lib.laidMet.reads hL (.tail _ (.tail _ (.tail _ (.tail _ (.tail _ (.tail _ (.head _)))))))) (Lib.laidMet.reads hL (.tail _ (.tail _ (.tail _ (.head _))))),
  OD (Lib.laidMet.reads hL (.tail _ (.tail _ (.head _))))⟩
theorem Ly {W:World} {name:String} {d:DataW Unit} {g:Nat} {t:TypeId} {ms:Array (String × TypeId)} (h:Lib.VarReads Tryz.prog W name d) (hg:Tryz.prog.globalNamed name=some g) (ht:(Tryz.prog.globals[g]?).map (·.type)=some t) (hu:Tryz.prog.underlying t=some (.interface ms)) :
  ∃ ev,W.cell? ⟨g,0,none⟩=some ev∧(ev = .nilIface∨∃ te pe,ev = .iface te pe):=by
 obtain ⟨j,i,cs,fuel,p,c,f,e,a⟩:=h
 obtain rfl:=Option.some.inj (hg.symm.trans c)
 obtain rfl:=Option.some.inj (ht.symm.trans f)
 have b:=World.var?_cell c e 0
 obtain ⟨l⟩:=cs
 cases fuel with
 | zero=>simp [DataW.trod] at a
 | succ n =>
  unfold DataW.trod at a
  simp only [hu] at a
  split at a
  all_goals first
   | (rename_i q _;simp at q;done)
   | exact ⟨_,by simpa using b,.inl rfl⟩
   | exact ⟨_,by simpa using b,.inr ⟨_,_,rfl⟩⟩
   | simp_all
theorem ZdP {W:World} (hL:laidMet Tryz.prog Rows.sagaChecksRow.laid W):ZgV W :=
 ⟨Ly (Lib.laidMet.reads hL (.tail _ (.tail _ (.tail _ (.tail _ (.tail _ (.head _))))))) (by kernel_rfl) (by kernel_rfl) (t:=312) Tryz.underlying312,
  Ly (Lib.laidMet.reads hL (.tail _ (.tail _ (.tail _ (.tail _ (.head _)))))) (by kernel_rfl) (by kernel_rfl) (t:=312) Tryz.underlying312⟩
theorem Zc3 {W:World} (hS:W.ShapedOpen Tryz.prog):US W :=
 cell_of_shapedOpen_int (zero := #[.int .i64 0]) (t:=3) hS (of_decide_eq_true (by kernel_rfl)) (by kernel_rfl) rfl (by kernel_rfl) (by kernel_rfl) Tryz.underlying3
end Go.Proofs.YtcdnijfbfdnjlaaGreatDoor
