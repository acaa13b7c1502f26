/-
  Part 7 of the proof: rules and walks that the claim's last text uses.
-/
import Derived.BigQuiet
import Derived.Deep.LoopGhost
import Derived.Deep.QuietTactic
import Derived.Deep.RegionLaw
import Derived.Ground.Names2Prog
import Derived.Ground.NamesProg
import Derived.Ground.SlgfProg
import Derived.Ground.SlgnProg
import Derived.Ground.SlsfProg
import Derived.Laws.RangeAny
import Derived.Lib.OthersKept
import Derived.Lib.SliceRun
import Derived.Lib.Walk
import Derived.Shelf.LaysC
import Derived.Shelf.LaysM
import Derived.Shelf.RegionOpenPlain
import Derived.Shelf.SlBodiesN
import Derived.Shelf.Slices.Clone
import Derived.Shelf.SlicesE.Clone
import Derived.Shelf.SlicesE.Equal
import Derived.Shelf.SlicesE.IndexFunc
import Derived.Shelf.Small.Bits
import Derived.Shelf.Small.Strs
import Derived.Shelf.Small.Utf8
import Derived.Shelf.Strconv.Atoi
import Derived.Shelf.Strconv.AtoiAll
import Derived.Shelf.Strconv.AtoiErrFast
import Derived.Shelf.Strconv.AtoiFail
import Derived.Shelf.Strconv.AtoiInnerAll
import Derived.Shelf.Strconv.AtoiLong
import Derived.Shelf.Strconv.Clone
import Derived.Shelf.Strconv.Lower
import Derived.Shelf.Strconv.ParseInt10
import Derived.Shelf.Strconv.ParseIntEmpty
import Derived.Shelf.Strconv.ParseUint10
import Derived.Shelf.Strconv.ParseUint10Any
import Derived.Shelf.Strconv.ParseUint10Empty
import Derived.Shelf.Strconv.RangeError
import Derived.Shelf.Strconv.SyntaxError
import Derived.Shelf.Strconv.ToError
import Derived.Shelf.Strconv.ToErrorRange
import Derived.Shelf.Strings.AsciiSet
import Derived.Shelf.Strings.Cut
import Derived.Shelf.Strings.IndexAny
import Derived.Shelf.Strings.IndexAnyAll
import Derived.Shelf.Strings.Prefix
import Derived.Shelf.Strings.Repeat
import Derived.Shelf.Strings.Runes
import Derived.Shelf.Strings.Search1
import Derived.Shelf.Strings.Search2
import Derived.Shelf.Strings.Shaped
import Derived.Shelf.Unicode.Decode
import Derived.Shelf.Unicode.DecodeAny
import Derived.Shelf.Unicode.DecodeSlow
import Derived.Shelf.Utf8.AppendRunePlain
import Derived.Test.YtcdnijfbfdnjlaaGreatDoorProg
import Derived.WalkKit
import Derived.WalkMore
import Derived.WalkSmall
import Derived.Test.YtcdnijfbfdnjlaaGreatDoorKi6
set_option linter.unusedSimpArgs false
set_option linter.unusedVariables false
set_option maxRecDepth 100000
set_option maxHeartbeats 4000000
namespace Go.Ev
open Go Go.RowKit Go.Shelf Go.Lib Go.Proofs
theorem NY (P:Program) {w:World} {b:Nat} {cur:Array Value} {te:TypeId} (h:w.heap[b]? = some (.cells cur te (0,0))) (o:Nat) (vs:List Value) (hl:o+vs.length≤cur.size) (h1:∀ v∈vs,v.oneCell'=true) :
  w.setCells b o vs=w.setRow b (cur.toList.take o++vs++cur.toList.drop (o+vs.length)).toArray:=by
 have e1:=run_storeCells_at P b o te vs 0 cur w h (by simpa using hl) h1
 have a:=run_storeCells_cells (P:=P) b o vs 0 w (fun j c=>by rw [cell_of_row w b _ cur te _ h,Array.getElem?_eq_getElem (by omega)];rfl) (fun j c=>by simp [World.frozen?,h]) h1
 simp only [Nat.add_zero] at e1 a
 rw [e1] at a
 injection a with _ q
 exact q.symm
def Rn:List Bool→List AV→List AV
 | b::m,a::l=>(if b=true then a.pubA else a)::Rn m l
 | [],l=>l.map AV.pubA
 | _::_,[]=>[]
@[go_sem] theorem ZmW (m:List Bool) (a:AV) (l:List AV):Rn (true::m) (a::l)=a.pubA::Rn m l:=rfl
@[go_sem] theorem Zns (m:List Bool) (a:AV) (l:List AV):Rn (false::m) (a::l)=a::Rn m l:=rfl
@[go_sem] theorem Znf (l:List AV):Rn [] l=l.map AV.pubA:=rfl
@[go_sem] theorem ZmF (m:List Bool):Rn m []=[]:=by cases m<;>rfl
def HL:List Bool→List AV→List AV
 | b::m,a::l=>(if b=true then a.pubCell else a)::HL m l
 | [],l=>l.map AV.pubCell
 | _::_,[]=>[]
@[go_sem] theorem Zm1 (m:List Bool) (a:AV) (l:List AV):HL (true::m) (a::l)=a.pubCell::HL m l:=rfl
@[go_sem] theorem Znu (m:List Bool) (a:AV) (l:List AV):HL (false::m) (a::l)=a::HL m l:=rfl
@[go_sem] theorem ZmT (l:List AV):HL [] l=l.map AV.pubCell:=rfl
@[go_sem] theorem ZmO (m:List Bool):HL m []=[]:=by cases m<;>rfl
def pubS (m:List Bool):AV→AV
 | .agg cs => .agg (HL m cs)
 | x=>x
@[go_sem] theorem ZlI (m:List Bool) (cs:List AV):pubS m (.agg cs) = .agg (HL m cs):=rfl
theorem Q7:∀ (m:List Bool) (l:List AV),(HL m l).length=l.length∧∀ (i:Nat) (h1:i<(HL m l).length) (h2:i<l.length),(HL m l)[i]=l[i]∨(HL m l)[i]=l[i].pubCell
 | [],l=>⟨by simp [HL],fun i h1 h2 => .inr (by simp [HL])⟩
 | b::m,[]=>⟨rfl,fun i h1 h2=>absurd h2 (by simp)⟩
 | b::m,a::l=>by
  obtain ⟨h1,h2⟩:=Q7 m l
  refine ⟨by simp [HL,h1],fun i c d=>?_⟩
  cases i with
  | zero=>cases b with
   | true=>exact .inr rfl
   | false=>exact .inl rfl
  | succ i=>exact h2 i (by simpa [HL] using c) (by simpa using d)
theorem R.pubS {w0:World} {M:Mem} {w:World} (m:List Bool) {v:Value} {x:AV} (h:R w0 M w v x):R w0 M w v (pubS m x):=by
 cases h with
 | @agg us xs hl h1 h =>
  obtain ⟨e,f⟩:=Q7 m xs
  refine .agg (by rw [e];exact hl) (fun x g=>?_) (fun i a b=>?_)
  ·obtain ⟨i,d,rfl⟩:=List.mem_iff_getElem.1 g
   have c:i<xs.length:=by rw [←e];exact d
   rcases f i d c with q | q
   ·rw [q];exact h1 _ (List.getElem_mem _)
   ·rw [q,AV.one_pubCell];exact h1 _ (List.getElem_mem _)
  ·have c:i<xs.length:=by rw [←e];exact b
   rcases f i b c with q | q
   ·rw [q];exact h i a c
   ·rw [q];exact (h i a c).pubCell
 | nil ho=>exact .nil ho
 | emp ho=>exact .emp ho
 | list sz us hc hm hcell hu ho=>exact .list sz us hc hm hcell hu ho
 | flat hf=>exact .flat hf
 | tup hl h=>exact .tup hl h
 | elem u k hcell hu=>exact .elem u k hcell hu
 | box hl=>exact .box hl
 | clo hl h=>exact .clo hl h
 | yld hk=>exact .yld hk
 | mp hk=>exact .mp hk
 | tab h hk hn=>exact .tab h hk hn
 | vec d hv h=>exact .vec d hv h
 | vel d hv h=>exact .vel d hv h
def UY (P:Program) (e:Env) (st:St):ResultVar→AV
 | .tmp t=>Aq e (.tmp t)
 | .cell t ty=>(evOp P e true st (.load ty (.tmp t))).2.1
def ZhJ (mk:List Bool) (P:Program) (rs:List ResultVar) (Post:AV→St→Prop):AQ:=fun x e st =>
 match x with
 | .normal | .ret=>(∀ r∈rs,resOk P e st r)∧Post (pubS mk (NA (rs.map (UY P e st)))) st
 | _=>False
attribute [go_sem] UY ZhJ
section
variable {P:Program} {w0:World} {n:Nat} {M:Mem} {e:Env} {st:St} {a:Act} {w:World}
theorem Yz (mk:List Bool) (h:Rel w0 n M e st a w) {fn:Func} {rs:List ResultVar} (hfn:fn.results=rs.toArray) (hrs:∀ r∈rs,resOk P e st r) :
  ∃ v,(results fn a.tmps).run P w = .ok v w∧R w0 M w v (pubS mk (NA (rs.map (UY P e st)))):=by
 let f:ResultVar→Sem Value:=fun
  | .tmp t=>pure (a.tmps.getD t undef)
  | .cell b t=>do loadVar t (← asAddr (a.tmps.getD b undef))
 have c:∀ r∈rs,∃ v,(f r).run P w = .ok v w∧R w0 M w v (UY P e st r):=by
  intro r d
  have:=hrs r d
  cases r with
  | tmp t=>exact ⟨_,rfl,AP h (x := .tmp t) this⟩
  | cell b t =>
   obtain ⟨v,k,m⟩:=Qv h t (.tmp b) this
   exact ⟨v,k,m⟩
 classical
 let g:ResultVar→Value:=fun r=>if d:r∈rs then Classical.choose (c r d) else undef
 have j:∀ r∈rs,(f r).run P w = .ok (g r) w∧R w0 M w (g r) (UY P e st r):=by
  intro r d
  have:=Classical.choose_spec (c r d)
  have e:g r=Classical.choose (c r d):=by simp only [g,dif_pos d]
  rw [e];exact this
 have l:(fn.results.mapM f).run P w = .ok ((rs.map g).toArray) w:=by
  rw [hfn,Array.mapM_eq_mapM_toList]
  simp only [Sem.run_map,LL f g rs (fun r d=>(j r d).1),Result.andThen_ok]
 have i:(results fn a.tmps).run P w = .ok (if h:(rs.map g).toArray.size=1 then (rs.map g).toArray[0] else .tuple (rs.map g).toArray) w:=by
  unfold results
  simp only [Sem.run_bind]
  refine Eq.trans (congrArg (fun x=>Result.andThen x _) l) ?_
  simp only [Result.andThen_ok,Sem.run_pure]
 refine ⟨_,i,?_⟩
 exact R.pubS mk (RE rs g fun r d=>(j r d).2)
theorem XC (mk:List Bool) {f:FuncId} {fn:Func} {c:Code} {args:List AV} {rs:List ResultVar} {Post:AV→St→Prop} (hf:P.funcs[f]? = some fn) (hb:fn.body=some c) (hrs:fn.results=rs.toArray) (hn:fn.ntmps=n)
  (hen:IB P f) (ha:args.length≤n)
  (h:∀ (M0:Mem) (W0:World),M0.N=st.boxes.length→M0.NR=st.rows.length→M0.NL=st.loops.length→Calm st.boxes.length st.rows.length st.loops.length st→(∀ x∈args,Under st.boxes.length st.rows.length st.loops.length x) →
   Da P w0 n M0 W0 none c (ZhJ mk P rs Post) (Az 0 args) st):ACalls P w0 f args st Post:=by
 refine ⟨hen,fun M w a b d=>?_⟩
 have O:a.size=args.length:=d.1
 have H:∀ x∈args,Under st.boxes.length st.rows.length st.loops.length x:=by
  intro x E
  obtain ⟨i,z,rfl⟩:=List.mem_iff_getElem.1 E
  have:=(d.get (i:=i) (Array.getElem?_eq_getElem (by omega)) (List.getElem?_eq_getElem z)).under
  rwa [b.N,b.NR,b.loop.NL] at this
 have m:Rel w0 n M (Az 0 args) st { tmps:=a++Array.replicate (fn.ntmps-a.size) undef,defers:=[] } w:=by
  refine ⟨b,by simp;omega,fun s x hs=>?_⟩
  obtain ⟨i,j,y,q,rfl⟩:=Ni _ _ _ _ hs
  have z:i<args.length:=(Aj.1 q).1
  have hs':s=i:=by omega
  subst hs'
  simp only [entryOk,if_true]
  have e1:(a++Array.replicate (fn.ntmps-a.size) undef).getD s undef=a[s]'(by omega):=by
   simp [Array.getD_eq_getD_getElem?,Array.getElem?_append_left (show s<a.size by omega),Array.getElem?_eq_getElem (show s<a.size by omega)]
  rw [e1]
  exact d.get (Array.getElem?_eq_getElem (by omega)) q
 refine O9 (n:=0) (callsIn_of_wp_marks hf hb trivial (wpIn_mono (h M w b.N b.NR b.loop.NL b.calm H 0 M _ w ⟨m,.refl _ _ _,[],by simp⟩) ?_))
 rintro ex p D ⟨M',o,k,j,l⟩
 have e:∀ (t:∀ r∈rs,resOk P o k r) (C:Post (pubS mk (NA (rs.map (UY P o k)))) k),
   LeavesInM (FW none) 0 P fn p.tmps (Comes' w0 M w Post) p.defers .returning D:=by
  intro t C
  obtain ⟨Ds,J,K,G⟩:=j.marks
  rw [K]
  refine Kr Ds M' D J G b.base_le j.rel.st j.ext fun F u Q k3=>?_
  have g:Rel w0 n M' o k p F:=⟨u,j.rel.size,fun s x hs=>by
   have:=j.rel.env s x hs
   unfold entryOk at *
   split
   ·rename_i c;rw [Ah c] at this;exact k3 _ _ this
   ·rename_i c;rw [Ai c] at this;exact this⟩
  obtain ⟨v,q1,q2⟩:=Yz mk g hrs t
  exact ⟨v,q1,v,M',_,k,rfl,C,Q,u,q2⟩
 cases ex with
 | normal=>exact e l.1 l.2
 | ret=>exact e l.1 l.2
 | _=>exact l.elim
end
end Go.Ev
namespace Go.Ev
open Go Go.RowKit
section
variable {P:Program} {w0:World} {n:Nat}
noncomputable def Fresh (P:Program) (w0:World) (M:Mem) (w:World) (b:Nat) (t:TypeId):Prop :=
 ∃ iz v,P.info? t=some iz∧iz.zero=some v∧w.heap[b]? = some (.cells v.cells t (0,0))∧M.foreign b∧M.top b=0∧w0.heap.size≤b
theorem Fresh.mono {M M':Mem} {w w':World} {b:Nat} {t:TypeId} (h:Fresh P w0 M w b t) (hx:Ext w0 M w M' w'):Fresh P w0 M' w' b t:=by
 obtain ⟨d,v,c,f,a,g,e,i⟩:=h
 obtain ⟨a1,a2,a3⟩:=hx.keep b (Array.getElem?_eq_some_iff.1 a).1 g
 exact ⟨d,v,c,f,a1.trans a,a2,a3.trans e,i⟩
theorem Fresh.lt {M:Mem} {w:World} {b:Nat} {t:TypeId} (h:Fresh P w0 M w b t):b<w.heap.size:=by
 obtain ⟨d,v,c,f,a,g,e,i⟩:=h
 exact (Array.getElem?_eq_some_iff.1 a).1
theorem RelSt.foreign_new {M:Mem} {w:World} {st:St} (h:RelSt w0 M st w) {b:Nat} (hb:w.heap.size≤b):M.foreign b :=
 ⟨fun l e=>by have:=h.box_lt e;omega,fun i d=>by have:=h.row_lt d;omega,fun k c=>by
  have a:k<st.loops.length:=by rw [←h.loop.NL];exact c
  have:=(h.loop.record k _ (List.getElem?_eq_getElem a)).2.lt
  omega⟩
theorem Zmp {M M1:Mem} {w w1:World} {e:Env} {st:St} {a:Act} {b s:Nat} {t:TypeId} {z:List AV} (h:Rel w0 n M e st a w) (hx:Ext w0 M1 w1 M w) (F:Fresh P w0 M w b t) (hb:w1.heap.size≤b) (hz:AZ P t=some z) (hs:s<n) (ht:a.tmps.getD s undef = .pointer (some ⟨b,0,none⟩)) :
  Rel w0 n (M.newBox b) (Du e (some s) true (.box st.boxes.length 0)) { st with boxes:=st.boxes++[z] } a w∧Ext w0 M1 w1 (M.newBox b) w∧∀ b' t',b'≠b→Fresh P w0 M w b' t'→Fresh P w0 (M.newBox b) w b' t':=by
 obtain ⟨iz,v,f1,f2,H,f4,f5,f6⟩:=F
 obtain ⟨i',K,hi,hv,hc,ab,rfl⟩:=C0 hz
 rw [f1] at hi
 cases hi
 rw [f2] at hv
 cases hv
 have aa:=(Array.getElem?_eq_some_iff.1 H).1
 have d:∀ l,l<M.N→(M.newBox b).bx l=M.bx l:=fun l hl=>by simp [Mem.newBox];omega
 have hnew:(M.newBox b).bx M.N=b:=by simp [Mem.newBox]
 have y:(M.newBox b).N=M.N+1:=rfl
 have ag:∀ {v:Value} {x:AV},R w0 M w v x→R w0 (M.newBox b) w v x:=fun J=>R.agree (nb:=M.N) (nr:=M.NR) (nl:=M.NL) d (by rw [y];omega) rfl rfl rfl rfl rfl rfl rfl rfl J J.under
 have o:∀ {v:Value} {x:Bool × AV},entryOk w0 M w v x→entryOk w0 (M.newBox b) w v x:=fun {v x} hE=>by
  unfold entryOk at hE ⊢
  split
  ·rename_i c;rw [Ah c] at hE;exact ag hE
  ·rename_i c;rw [Ai c] at hE;exact hE
 have r:R w0 (M.newBox b) w v (Gm v):=I4 hc
 have p:∀ c,c≠b→M.foreign c→(M.newBox b).foreign c:=fun c hc q=>⟨fun l hl=>by
  by_cases e1:l=M.N
  ·subst e1;rw [hnew];exact fun q=>hc q.symm
  ·rw [d l (by omega)];exact q.1 l (by omega),q.2⟩
 refine ⟨⟨⟨h.st.below,by simp [y,h.st.N],h.st.NR,h.st.top,fun l m hl g q=>?_,fun l c hl=>?_,fun id x u=>?_,h.st.rowinj,⟨h.st.loop.NL,h.st.loop.inj,fun k V j=>?_⟩⟩,h.size,fun Q x hs'=>?_⟩,
  ⟨by rw [y];have:=hx.N;omega,fun l hl=>(d l (Nat.lt_of_lt_of_le hl hx.N)).trans (hx.bx l hl),hx.NR,hx.rows,hx.cell,hx.size,hx.NL,hx.lb,hx.lnew,hx.objs,fun c q1 q2=>?_⟩,fun b' t' f Z=>?_⟩
 ·rw [y] at hl g
  by_cases e1:l=M.N
  ·by_cases e2:m=M.N
   ·omega
   ·subst e1
    rw [hnew,d m (by omega)] at q
    exact absurd q.symm (f4.1 m (by omega))
  ·by_cases e2:m=M.N
   ·subst e2
    rw [hnew,d l (by omega)] at q
    exact absurd q (f4.1 l (by omega))
   ·rw [d l (by omega),d m (by omega)] at q
    exact h.st.inj l m (by omega) (by omega) q
 ·by_cases e1:l=M.N
  ·subst e1
   simp only [h.st.N,List.getElem?_concat_length,Option.some.injEq] at hl
   subst hl
   rw [hnew]
   obtain ⟨k1,k2⟩:=r.cells
   exact ⟨f6,f5,v.cells,t,H,k1,r.cellsOne (fun vs q=>by have:=GZ hc;rw [q] at this;cases this),k2⟩
  ·have g:l<M.N:=by
    have:=(Aj.1 hl).1
    have:=h.st.N
    simp at *
    omega
   rw [List.getElem?_append_left (by rw [←h.st.N];exact g)] at hl
   obtain ⟨a1,a2,Y,G,a3,a4,a5,a6⟩:=h.st.box l c hl
   rw [d l g]
   exact ⟨a1,a2,Y,G,a3,a4,a5,fun i E D=>ag (a6 i E D)⟩
 ·have j:=h.st.row id x u
  have hidN:id<M.NR:=by rw [h.st.NR];exact (Aj.1 u).1
  have f:∀ l,l<(M.newBox b).N→(M.newBox b).bx l≠M.blk id:=fun l hl=>by
   by_cases e1:l=M.N
   ·subst e1;rw [hnew];exact fun q=>f4.2.1 id hidN q.symm
   ·rw [d l (by omega)];exact j.ne l (by omega)
  cases x with
  | grow n sz=>obtain ⟨a1,a2,a3,a4,a5,a6⟩:=j;exact ⟨a1,a2,a3,a4,f,a6⟩
  | vec v sz cs =>
   obtain ⟨a1,a2,a3,a4,a5,a6,a7,c,ty,a8,U,b1,O,b3⟩:=j
   exact ⟨a1,a2,a3,a4,f,a6,a7,c,ty,a8,U,b1,O,fun i E D=>ag (b3 i E D)⟩
  | dead v=>obtain ⟨a1,a2,a3,a4⟩:=j;exact ⟨a1,a2,f,a4⟩
 ·obtain ⟨a1,a2⟩:=h.st.loop.record k V j
  exact ⟨a1,a2.map (fun _ q _=>q) fun s x v _ hE=>o hE⟩
 ·simp only [Du,look] at hs'
  split at hs'
  ·rename_i q
   cases hs'
   subst q
   show R w0 (M.newBox b) w _ _
   rw [ht]
   have:=R.box (w0:=w0) (M:=M.newBox b) (w:=w) (l:=st.boxes.length) (off:=0) (by rw [y,h.st.N];omega)
   rw [←h.st.N,hnew] at this
   rw [←h.st.N]
   exact this
  ·exact o (h.env Q x hs')
 ·obtain ⟨a1,a2,a3⟩:=hx.keep c q1 q2
  exact ⟨a1,p c (by omega) a2,a3⟩
 ·obtain ⟨C,K,g1,g2,g3,g4,g5,g6⟩:=Z
  exact ⟨C,K,g1,g2,g3,p b' f g4,g5,g6⟩
noncomputable def J3 (P:Program) (n:Nat) (l:List Oper):List Nat→Env→St→Option (Env × St)
 | [],e,st=>some (e,st)
 | i::is,e,st=>match l[i]? with
  | some o=>match o.op,o.dst,o.guard with
   | .alloc t,some s,none=>match AZ P t with
    | some z=>if s<n then J3 P n l is (Du e (some s) true (.box st.boxes.length 0)) { st with boxes:=st.boxes++[z] } else none
    | none=>none
   | _,_,_=>none
  | none=>none
theorem Zc8 {l:List Oper} {M1:Mem} {w w1:World} {a:Act} {bl:Nat→Nat}:∀ (is:List Nat) (M:Mem) (e:Env) (st:St) (e2:Env) (st2:St),is.Nodup→J3 P n l is e st=some (e2,st2)→Rel w0 n M e st a w→Ext w0 M1 w1 M w →
  (∀ i∈is,∀ o s t,l[i]? = some o→o.dst=some s→o.op = .alloc t→a.tmps.getD s undef = .pointer (some ⟨bl i,0,none⟩)∧Fresh P w0 M w (bl i) t∧w1.heap.size≤bl i)→(∀ i∈is,∀ j∈is,bl i=bl j→i=j) →
  ∃ M2,Rel w0 n M2 e2 st2 a w∧Ext w0 M1 w1 M2 w
 | [],M,e,st,e2,st2,_,h,hr,hx,_,_=>by
  cases h
  exact ⟨M,hr,hx⟩
 | i::is,M,e,st,e2,st2,hnd,h,hr,hx,hF,hinj=>by
  simp only [J3] at h
  split at h
  rotate_left
  ·cases h
  rename_i o ho
  split at h
  rotate_left
  ·cases h
  rename_i t s q1 q2 q3
  split at h
  rotate_left
  ·cases h
  rename_i z hz
  split at h
  rotate_left
  ·cases h
  rename_i hsn
  obtain ⟨D,y,x⟩:=hF i (List.mem_cons_self ..) o s t ho q2 q1
  obtain ⟨p,C,m⟩:=Zmp hr hx y x hz hsn D
  have b:=List.nodup_cons.1 hnd
  refine Zc8 is _ _ _ _ _ b.2 h p C (fun j c o' f g g1 g2 g3=>?_) (fun j c k d=>hinj j (List.mem_cons_of_mem _ c) k (List.mem_cons_of_mem _ d))
  obtain ⟨r,u,v⟩:=hF j (List.mem_cons_of_mem _ c) o' f g g1 g2 g3
  refine ⟨r,m _ _ (fun q=>?_) u,v⟩
  have:=hinj j (List.mem_cons_of_mem _ c) i (List.mem_cons_self ..) q
  exact b.1 (this▸c)
structure DInvA (P:Program) (w0:World) (n:Nat) (l:List Oper) (h:Nat) (ef:List Nat) (e:Env) (st:St) (C:Nat→Bool) (V:Nat→AV) (M1:Mem) (w1:World) (ds:List Deferred) (listed:Array Bool) (a:Act) (w:World) (M:Mem) (bl:Nat→Nat):Prop where
 size:listed.size=l.length
 tail:∀ t,h≤t→t<l.length→listed.getD t true=false
 closed:∀ j oj,l[j]? = some oj→listed.getD j false=true→∀ e∈oj.after,Region.binds .any e=true→listed.getD e.on false=true
 rel:RelSt w0 M st w
 tmps:a.tmps.size=n
 defers:a.defers=ds
 ext:Ext w0 M1 w1 M w
 old:∀ s x,(∀ i o,i<h→l[i]? = some o→o.dst≠some s)→look e s=some x→entryOk w0 M w (a.tmps.getD s undef) x
 new:∀ i o s,i<h→i ∉ ef→l[i]? = some o→o.dst=some s→listed.getD i false=true→entryOk w0 M w (a.tmps.getD s undef) (C i,V i)
 al:∀ i∈ef,listed.getD i false=true→∀ o s t,l[i]? = some o→o.dst=some s→o.op = .alloc t→a.tmps.getD s undef = .pointer (some ⟨bl i,0,none⟩)∧Fresh P w0 M w (bl i) t∧w1.heap.size≤bl i
 inj:∀ i∈ef,∀ j∈ef,listed.getD i false=true→listed.getD j false=true→bl i=bl j→i=j
noncomputable def NE (P:Program) (o:Oper):Bool :=
 match o.op,o.dst,o.guard with
 | .alloc t,some _,none=>(match P.info? t with | some i=>i.zero.isSome | none=>false)
 | _,_,_=>false
theorem UI {o:Oper} (h:NE P o=true):∃ t s iz v,o.op = .alloc t∧o.dst=some s∧o.guard=none∧P.info? t=some iz∧iz.zero=some v:=by
 obtain ⟨dst,op,c,b,a,guard⟩:=o
 unfold NE at h
 split at h
 ·rename_i t s q1 q2 q3
  split at h
  ·rename_i iz hi
   obtain ⟨v,hv⟩:=Option.isSome_iff_exists.1 h
   exact ⟨t,s,iz,v,q1,q2,q3,hi,hv⟩
  ·cases h
 ·cases h
noncomputable def Y6 (P:Program) (n:Nat) (l:List Oper) (h:Nat) (ef:List Nat) (e:Env):Bool :=
 ef.all fun i=>Nat.blt i h&&(match l[i]? with
  | some o=>NE P o&&(match o.dst with
   | some s=>Nat.blt s n&&(look e s).isNone&&(l.take h).all fun p => !(looks l p).contains s
   | none=>false)
  | none=>false)
theorem EF {l:List Oper} {h:Nat} {ef:List Nat} {e:Env} (hA:Y6 P n l h ef e=true) {i:Nat} (hi:i∈ef) :
  i<h∧∃ o t s iz v,l[i]? = some o∧o.op = .alloc t∧o.dst=some s∧o.guard=none∧P.info? t=some iz∧iz.zero=some v∧s<n∧look e s=none∧∀ j p,j<h→l[j]? = some p→s ∉ looks l p:=by
 have a:=List.all_eq_true.1 hA i hi
 rw [Bool.and_eq_true] at a
 obtain ⟨a,h2⟩:=a
 refine ⟨ED a,?_⟩
 split at h2
 rotate_left
 ·cases h2
 rename_i o ho
 rw [Bool.and_eq_true] at h2
 obtain ⟨t,s,iz,v,q1,q2,q3,m,f⟩:=UI h2.1
 have b:=h2.2
 rw [q2] at b
 simp only [Bool.and_eq_true] at b
 obtain ⟨⟨u,r⟩,q⟩:=b
 refine ⟨o,t,s,iz,v,ho,q1,q2,q3,m,f,ED u,Option.isNone_iff_eq_none.1 r,fun j p d k g=>?_⟩
 have:=List.all_eq_true.1 q p (List.mem_of_getElem? (by rw [List.getElem?_take_of_lt d];exact k))
 have c:(looks l p).contains s=true:=by simpa using g
 rw [c] at this
 cases this
theorem TT {ef:List Nat} {l:List Oper} {i:Nat} {o:Oper} (hi:i ∉ ef) (ho:l[i]? = some o):(Bj ef 0 l)[i]? = some o:=by
 rw [L9,ho]
 simp [hi]
theorem Zab {l:List Oper} {h:Nat} {ef:List Nat} {e:Env} {st:St} {E:Nat→Env} {C:Nat→Bool} {V:Nat→AV} {M1:Mem} {w1:World} {ds:List Deferred} {ro:Option Nat} {m:Nat} {Q:Exit→Act→World→Prop} {e2:Env} {st2:St}
  (T:Trail P w0 n l ((Bj ef 0 l).take h) e st E C V) (hB:Lh l h=true) (hA:Y6 P n l h ef e=true) (hnd:ef.Nodup) (had:J3 P n l ef (E h) st=some (e2,st2))
  (hend:∀ a w M,Rel w0 n M e2 st2 a w→Ext w0 M1 w1 M w→a.defers=ds→wpListIn (FW ro) m P l.toArray Q (l.drop h) a w) :
  ∀ fuel listed a w M bl,fuel=listed.toList.count false→DInvA P w0 n l h ef e st C V M1 w1 ds listed a w M bl→wpAnyIn (FW ro) m P .any l.toArray Q fuel listed a w:=by
 simp only [Lh,Bool.and_eq_true,decide_eq_true_eq] at hB
 obtain ⟨⟨⟨bh,hH⟩,hT⟩,hS⟩:=hB
 have bd:((Bj ef 0 l).take h).length=h:=by rw [List.length_take,EH];omega
 have z:∀ j,j<h→((Bj ef 0 l).take h)[j]? = (Bj ef 0 l)[j]? := fun j hj=>List.getElem?_take_of_lt hj
 have aq:∀ {j:Nat} {o:Oper},((Bj ef 0 l).take h)[j]? = some o→j<h:=fun {j o} hj=>by
  have:=(Aj.1 hj).1;omega
 have aw:∀ (i j:Nat) (o p:Oper) (s:Nat),((Bj ef 0 l).take h)[i]? = some o→((Bj ef 0 l).take h)[j]? = some p→o.dst=some s→p.dst=some s→i=j:=by
  intro i j o p s hi hj hs ar
  have a1:=aq hi
  have a2:=aq hj
  rw [z _ a1] at hi
  rw [z _ a2] at hj
  obtain ⟨b1,b2⟩:=GQ hi hs
  obtain ⟨c1,c2⟩:=GQ hj ar
  exact ((Ht hH a1 b2).2 j p s a2 c2 ar).1 hs
 have F:∀ s j,j≤h→_:=fun s j hj=>Ij T aw s j (by omega)
 have ak:∀ (listed:Array Bool) (a:Act) (w:World) (M:Mem) (bl:Nat→Nat) (fuel:Nat),fuel=listed.toList.count false→DInvA P w0 n l h ef e st C V M1 w1 ds listed a w M bl→(∀ j,j<h→listed.getD j false=true) →
   wpAnyIn (FW ro) m P .any l.toArray Q fuel listed a w:=by
  intro listed a w M bl fuel hf b u
  have hl:listed=Array.replicate h true++Array.replicate (l.length-h) false:=by
   apply Array.ext
   ·simp [b.size];omega
   ·intro i O h2
    by_cases c:i<h
    ·have:=u i c
     simp only [Array.getD_eq_getD_getElem?,Array.getElem?_eq_getElem O,Option.getD_some] at this
     rw [this,Array.getElem_append_left (by simpa using c)]
     simp
    ·have:=b.tail i (by omega) (by rw [←b.size];exact O)
     simp only [Array.getD_eq_getD_getElem?,Array.getElem?_eq_getElem O,Option.getD_some] at this
     rw [this,Array.getElem_append_right (by simpa using c)]
     simp
  have a5:fuel=(l.drop h).length:=by
   rw [hf,hl]
   simp [List.count_append,List.count_replicate]
  have ab:Rel w0 n M (E h) st a w:=by
   refine ⟨b.rel,b.tmps,fun s x hs=>?_⟩
   by_cases c:∃ j p,j<h∧j ∉ ef∧l[j]? = some p∧p.dst=some s
   ·obtain ⟨j,p,hj,D,hp,hd⟩:=c
    have:=(F s h (Nat.le_refl _)).2 j p hj (by rw [z _ hj];exact TT D hp) hd
    rw [this] at hs
    cases hs
    exact b.new j p s hj D hp hd (u j hj)
   ·have:=(F s h (Nat.le_refl _)).1 (fun j p hj hp hd=>by
     rw [z _ hj] at hp
     obtain ⟨b1,b2⟩:=GQ hp hd
     exact c ⟨j,p,hj,b1,b2,hd⟩)
    rw [this] at hs
    refine b.old s x (fun j p hj hp hd=>?_) hs
    by_cases cj:j∈ef
    ·obtain ⟨_,o,t,s',iz,v,q1,q2,q3,q4,q5,q6,q7,q8,q9⟩:=EF hA cj
     rw [hp] at q1
     cases q1
     rw [hd] at q3
     cases q3
     rw [q8] at hs
     cases hs
    ·exact c ⟨j,p,hj,cj,hp,hd⟩
  obtain ⟨M2,a4,bb⟩:=Zc8 (bl:=bl) ef M (E h) st e2 st2 hnd had ab b.ext (fun i hi=>b.al i hi (u i (EF hA hi).1)) (fun i hi j hj q=>b.inj i hi j hj (u i (EF hA hi).1) (u j (EF hA hj).1) q)
  rw [a5]
  refine IW (l.drop h) h listed a w (fun j=>by simp [List.getElem?_drop]) ?_ (hend a w M2 a4 bb b.defers)
  rw [hl,List.length_drop]
  exact hS
 have ai:∀ (listed:Array Bool) (t:Nat) (o:Oper),(∀ j oj,l[j]? = some oj→listed.getD j false=true→∀ e∈oj.after,Region.binds .any e=true→listed.getD e.on false=true) →
   l[t]? = some o→h≤t→(∀ e∈o.after,Region.binds .any e=true→listed.getD e.on false=true)→∀ d j,j+d+1=t→listed.getD j false=true:=by
  intro listed t o bc ho ht J d
  induction d using Nat.strongRecOn with
  | _ d ih =>
   intro j hj
   have bg:t<l.length:=(Aj.1 ho).1
   have O:=List.all_eq_true.1 (List.all_eq_true.1 hT (t-h) (List.mem_range.2 (by omega))) j (List.mem_range.2 (by omega))
   obtain ⟨q,hq,h2⟩:=List.any_eq_true.1 O
   have bi:q≤t:=by have:=List.mem_range.1 hq;omega
   simp only [Bool.and_eq_true,decide_eq_true_eq] at h2
   obtain ⟨bf,h3⟩:=h2
   cases hoq:l[q]? with
   | none=>simp [hoq] at h3
   | some oq =>
    simp only [hoq] at h3
    obtain ⟨ed,af,ag,ah⟩:=I2 h3
    by_cases c:q=t
    ·subst c
     rw [ho] at hoq;cases hoq
     exact ah▸J ed af ag
    ·have:=ih (t-q-1) (by omega) q (by omega)
     exact ah▸bc q oq hoq this ed af ag
 intro fuel
 induction fuel with
 | zero =>
  intro listed a w M bl hf b
  refine ak listed a w M bl 0 hf b (fun j hj=>?_)
  cases hq:listed.getD j false with
  | true=>rfl
  | false =>
   exfalso
   have U:j<listed.size:=by rw [b.size];omega
   have:false∈listed.toList:=by
    have e1:listed[j]=false:=by simpa [U] using hq
    rw [←e1];simp
   have:=List.count_pos_iff.2 this
   omega
 | succ fuel ih =>
  intro listed a w M bl hf b
  by_cases u:∀ j,j<h→listed.getD j false=true
  ·exact ak listed a w M bl _ hf b u
  ·obtain ⟨k,ay,ap,az⟩:=KZ u
   have a7:k<listed.size:=by rw [b.size];omega
   have a8:l[k]? = some l[k]:=List.getElem?_eq_getElem (by omega)
   have aj:k∈Region.ready .any l.toArray listed:=by
    refine mem_ready.2 ⟨by simpa [a7] using ap,l[k],by simp,fun ed he hb=>az _ ((Ht hH ay a8).1 ed he hb)⟩
   refine ⟨fun h0=>absurd aj (by rw [h0];simp),fun i hi=>?_⟩
   obtain ⟨a9,o,ho,J⟩:=mem_ready.1 hi
   have y:l[i]? = some o:=by simpa using ho
   have bk:i<l.length:=(Aj.1 y).1
   have ae:i<h:=by
    refine Nat.lt_of_not_le fun a6=>?_
    have:=ai listed i o b.closed y a6 J (i-k-1) k (by omega)
    rw [ap] at this;cases this
   have G:=Ht hH ae y
   have g:i<listed.size:=by rw [b.size];omega
   have am:fuel=(listed.setIfInBounds i true).toList.count false:=by
    have av:listed[i]=false:=by simpa [g] using a9
    have be:0<listed.toList.count false:=List.count_pos_iff.2 (by rw [←av];simp)
    rw [Array.toList_setIfInBounds,List.count_set (by simpa using g)]
    simp only [Array.getElem_toList,av]
    rw [Ah (show (false == false)=true from rfl),Ai (show ¬ (true == false)=true by decide)]
    omega
   have ad:∀ t,h≤t→t<l.length→(listed.setIfInBounds i true).getD t true=false:=fun t O h2=>by
    rw [Bg g,Aa];exact b.tail t O h2
   have N:∀ j oj,l[j]? = some oj→(listed.setIfInBounds i true).getD j false=true→∀ e∈oj.after,Region.binds .any e=true→(listed.setIfInBounds i true).getD e.on false=true:=fun j oj hj hl ed he hb=>by
    rw [Bg g] at hl ⊢
    split
    ·rfl
    ·by_cases c:i=j
     ·subst c
      rw [y] at hj;cases hj
      exact J ed he hb
     ·rw [Ai c] at hl
      exact b.closed j oj hj hl ed he hb
   unfold wpOpIn
   simp only [ho]
   by_cases hie:i∈ef
   ·obtain ⟨_,o',t,s0,iz,v,q1,q2,q3,q4,q5,q6,q7,q8,q9⟩:=EF hA hie
    rw [y] at q1
    cases q1
    have hw:Region.wanted o (yielded l.toArray a.tmps)=true:=by simp [Region.wanted,q4]
    rw [hw,Ah rfl]
    refine ⟨fun f _=>KF ro f,?_⟩
    have hs:Oper.semAt (FW ro).round a.eval o=execOp a.eval o:=by
     cases ro with
     | none=>rfl
     | some r=>exact Oper.semAt_some r a.eval o (fun c hh=>by rw [q2] at hh;cases hh)
    have au:(execOp a.eval o).run P w = .ok (.value (.pointer (some ⟨w.heap.size,0,none⟩))) (w.alloc (.cells v.cells t)):=by
     simp [execOp,q2,Instr.alloc,zeroValue,typeInfo,q5,q6,newVar,newRow]
    rw [hs,au]
    obtain ⟨z1,z2⟩:=b.rel.newTop v.cells t 0
    have Y:∀ s,(a.put o.dst (.pointer (some ⟨w.heap.size,0,none⟩))).tmps.getD s undef=if s0=s then .pointer (some ⟨w.heap.size,0,none⟩) else a.tmps.getD s undef:=fun s=>by
     rw [EM a o.dst _ s (by rw [b.tmps,q3];exact q7),q3]
     by_cases c:s0=s
     ·subst c;simp
     ·rw [Ai (fun q=>c (Option.some.inj q)),Ai c]
    have H:∀ j p s,j<h→j≠i→l[j]? = some p→p.dst=some s→s0≠s:=fun j p s hj K hp hd q=>K ((G.2 j p s hj hp hd).1 (by rw [q3,q])).symm
    refine ih _ _ _ (M.newTop w.heap.size 0) (fun j=>if j=i then w.heap.size else bl j) am ⟨by simp [b.size],ad,N,z1,by rw [JC];exact b.tmps,by rw [Ea];exact b.defers,b.ext.trans z2,fun s x O h2=>?_,fun j p s hj D hp hd hl=>?_,fun j hj hl p s t' hp hd hop=>?_,fun j hj j' U hl aa Z=>?_⟩
    ·rw [Y,Ai (fun q=>O i o ae y (by rw [q3,q]))]
     exact (b.old s x O h2).mono z2
    ·have K:j≠i:=fun q=>D (q▸hie)
     rw [Bg g,Ai (Ne.symm K)] at hl
     rw [Y,Ai (H j p s hj K hp hd)]
     exact (b.new j p s hj D hp hd hl).mono z2
    ·by_cases c:j=i
     ·subst c
      rw [y] at hp
      cases hp
      rw [q3] at hd
      cases hd
      rw [q2] at hop
      cases hop
      rw [Y,Ah rfl]
      simp only [if_true]
      exact ⟨trivial,⟨iz,v,q5,q6,World.alloc_heap_new w _,b.rel.foreign_new (Nat.le_refl _),by simp [Mem.newTop],b.rel.base_le⟩,b.ext.size⟩
     ·have a0:=(EF hA hj).1
      rw [Bg g,Ai (Ne.symm c)] at hl
      obtain ⟨m1,m2,m3⟩:=b.al j hj hl p s t' hp hd hop
      rw [Y,Ai (H j p s a0 c hp hd)]
      simp only [Ai c]
      exact ⟨m1,m2.mono z2,m3⟩
    ·have ao:∀ k∈ef,k≠i→(listed.setIfInBounds i true).getD k false=true→bl k<w.heap.size:=fun k hk K hl=>by
      rw [Bg g,Ai (Ne.symm K)] at hl
      obtain ⟨_,o2,t2,s2,bj,v2,p1,p2,p3,_⟩:=EF hA hk
      exact (b.al k hk hl o2 s2 t2 p1 p3 p2).2.1.lt
     by_cases c:j=i
     ·by_cases c':j'=i
      ·omega
      ·have:=ao j' U c' aa
       rw [Ah c,Ai c'] at Z
       omega
     ·by_cases c':j'=i
      ·have:=ao j hj c hl
       rw [Ai c,Ah c'] at Z
       omega
      ·rw [Ai c,Ai c'] at Z
       rw [Bg g,Ai (Ne.symm c)] at hl
       rw [Bg g,Ai (Ne.symm c')] at aa
       exact b.inj j hj j' U hl aa Z
   ·obtain ⟨t1,t2,t3,t4,t5⟩:=T.step i o (by rw [z _ ae];exact TT hie y)
    have ab:Rel w0 n M (AK true l o (E i)) st a w:=by
     refine ⟨b.rel,b.tmps,fun s x hs=>?_⟩
     simp only [AK,if_true] at hs
     have hm:=Ie _ _ _ _ hs
     have hl:=GI _ _ _ _ hs
     by_cases c:∃ j p,j<h∧j ∉ ef∧l[j]? = some p∧p.dst=some s
     ·obtain ⟨j,p,hj,D,hp,hd⟩:=c
      obtain ⟨a3,hw⟩:=(G.2 j p s hj hp hd).2 hm
      obtain ⟨ed,af,ag,ah⟩:=I2 hw
      have ax:listed.getD j false=true:=ah▸J ed af ag
      have:=(F s i (by omega)).2 j p a3 (by rw [z _ hj];exact TT D hp) hd
      rw [this] at hl
      cases hl
      exact b.new j p s hj D hp hd ax
     ·have:=(F s i (by omega)).1 (fun j p hj hp hd=>by
       rw [z _ (by omega)] at hp
       obtain ⟨b1,b2⟩:=GQ hp hd
       exact c ⟨j,p,by omega,b1,b2,hd⟩)
      rw [this] at hl
      refine b.old s x (fun j p hj hp hd=>?_) hl
      by_cases cj:j∈ef
      ·obtain ⟨_,o',t,s',iz,v,q1,q2,q3,q4,q5,q6,q7,q8,q9⟩:=EF hA cj
       rw [hp] at q1
       cases q1
       rw [hd] at q3
       cases q3
       exact q9 i o ae y hm
      ·exact c ⟨j,p,hj,cj,hp,hd⟩
    refine Lo ab ro m t2 (by rw [t4];exact t5) Q _ fun v w' M' hx ba hv=>?_
    rw [t4] at hv
    have keep:∀ s x,o.dst≠some s→entryOk w0 M w (a.tmps.getD s undef) x→entryOk w0 M' w' ((a.put o.dst v).tmps.getD s undef) x:=by
     intro s x K O
     rw [EM a o.dst v s (by rw [b.tmps];exact t3),Ai K]
     exact O.mono hx
    refine ih _ _ _ M' bl am ⟨by simp [b.size],ad,N,ba,by rw [JC];exact b.tmps,by rw [Ea];exact b.defers,b.ext.trans hx,fun s x O h2=>?_,fun j p s hj D hp hd hl=>?_,fun j hj hl p s t' hp hd hop=>?_,fun j hj j' U hl aa Z=>?_⟩
    ·exact keep s x (O i o ae y) (b.old s x O h2)
    ·by_cases c:i=j
     ·subst c
      rw [y] at hp;cases hp
      rw [EM a o.dst v s (by rw [b.tmps];exact t3),Ah hd]
      exact hv
     ·rw [Bg g,Ai c] at hl
      exact keep s _ (fun hs=>c ((G.2 j p s hj hp hd).1 hs)) (b.new j p s hj D hp hd hl)
    ·have c:i≠j:=fun q=>hie (q▸hj)
     rw [Bg g,Ai c] at hl
     obtain ⟨m1,m2,m3⟩:=b.al j hj hl p s t' hp hd hop
     rw [EM a o.dst v s (by rw [b.tmps];exact t3),Ai (fun hs=>c ((G.2 j p s (EF hA hj).1 hp hd).1 hs))]
     exact ⟨m1,m2.mono hx,m3⟩
    ·rw [Bg g,Ai (fun q:i=j=>hie (q▸hj))] at hl
     rw [Bg g,Ai (fun q:i=j'=>hie (q▸U))] at aa
     exact b.inj j hj j' U hl aa Z
theorem Zar {M0:Mem} {W0:World} {ro:Option Nat} {Q:AQ} {e:Env} {st:St} (hm:P.follows .mixedOrders=true) (h:Nat) (ef:List Nat) (c1 c2:Nat) {id:Nat} {l:List Oper} (hB:Lh l h=true) (hA:Y6 P n l h ef e=true) (hnd:ef.Nodup)
  (hev:MC P w0 n true l (fun e1 s1=>∃ e2 s2,J3 P n l ef e1 s1=some (e2,s2)∧MC P w0 n false l (fun e2 s2=>Q .normal e2 s2) c2 (l.drop h) e2 s2) c1 ((Bj ef 0 l).take h) e st):Da P w0 n M0 W0 ro (.region id l.toArray true) Q e st:=by
 intro m M a w f
 obtain ⟨E,C,V,T,e2,s2,g,z⟩:=LN _ _ _ hev
 have D:h≤l.length:=by
  simp only [Lh,Bool.and_eq_true,decide_eq_true_eq] at hB;exact hB.1.1.1
 have i:((Bj ef 0 l).take h).length=h:=by rw [List.length_take,EH];omega
 rw [i] at g
 obtain ⟨y,r⟩:=f.rel.st.drew
 have o:∀ {b:Bool} {j:Nat},(Array.replicate l.length false).getD j false=true→b=true:=fun {b j} d=>by
  exfalso
  by_cases c:j<l.length
  ·simp [Array.getD_eq_getD_getElem?,c] at d
  ·simp [Array.getD_eq_getD_getElem?,c] at d
 refine wpIn_region_any hm (Zab T hB hA hnd g (M1:=M) (w1:=w) (ds:=a.defers) (fun a1 w1 M1 p k q=>?_) _ _ a _ M (fun _=>0) (by simp) ?_)
 ·refine Ig ro m false l _ _ c2 _ _ s2 a1 w1 M1 p z fun e2 s2 a2 J F G H u q2=>⟨F,_,_,⟨H,f.ext.trans (k.trans u),?_⟩,G⟩
  rw [q2,q]
  exact f.marks.later (k.trans u) f.rel.st
 ·refine ⟨by simp,fun t _ v=>by simp [Array.getD_eq_getD_getElem?,v],fun j _ _ d=>?_,y,f.rel.size,rfl,r,fun s x _ hs=>(f.rel.env s x hs).mono r,fun j _ _ _ _ _ _ d=>?_,fun j _ d=>?_,fun j _ _ _ d=>?_⟩
  all_goals (exfalso;have:=o (b:=false) d;cases this)
end
section
variable {P:Program} {w0:World} {n:Nat}
theorem Zdz {M0:Mem} {W0:World} {ro:Option Nat} {Q:AQ} {e:Env} {st:St} (hm:P.follows .mixedOrders=true) (ef:List Nat) {id:Nat} {l:List Oper} (hB:Hr l ef=true) (F:List Nat→St→Prop) (k:Nat) {e1:Env}
  (hN:∀ t,(∀ i o,i ∉ ef→l[i]? = some o→o.dst≠some t)→look e1 t=look e t) (hF:∀ dn s,F dn s→∀ i o,i ∉ ef→(∀ j∈dn,I0 (DF l []) j i=false)→l[i]? = some o→ZdX P w0 n l e1 s o)
  (hG:GoodD P w0 n l ef F (fun ev s=>Q .normal ev s) k [] e1 st):Da P w0 n M0 W0 ro (.region id l.toArray true) Q e st:=by
 intro m M a w hr
 obtain ⟨d1,d2⟩:=hr.rel.st.drew
 refine wpIn_region_any hm (O3 (s0:=st) (e:=e) (e1:=e1) (M1:=M) (w1:=w) (ds:=a.defers) (el:=[]) hB (by simp [OG]) hN (fun dn s h i o f g _ p=>hF dn s h i o f g p) (fun ev s M' u r q b d hd=>?_) _ _ a _ M k [] e1 st ?_ hG ?_)
 ·refine ⟨M',_,_,⟨b,hr.ext.trans d,?_⟩,q⟩
  rw [hd]
  exact hr.marks.later d hr.rel.st
 ·simp
 ·have hnl:∀ j,(Array.replicate l.toArray.size false).getD j false=false:=fun j=>by
   by_cases c:j<l.length
   ·simp [Array.getD_eq_getD_getElem?,c]
   ·simp [Array.getD_eq_getD_getElem?,c]
  exact ⟨by simp,fun _=>rfl,fun j _ _ hl=>(by rw [hnl] at hl;cases hl),fun i _=>(by rw [hnl];simp),fun _ h=>(nomatch h),d1,hr.rel.size,rfl,d2,fun _ _=>rfl,fun _ _ ⟨_,h,_⟩=>(nomatch h),
   fun _ _ _ ⟨i,_,_,_,_,h⟩=>(by rw [hnl] at h;cases h),fun t x _ hs=>(hr.rel.env t x hs).mono d2⟩
theorem WY {F:Fl} {all:List Oper} {gl:TypeId→Nat→Option AV} {call:AV→List AV→St→Option (AV × St)}:∀ (os:List Oper) (e:Env) (st:St) (e':Env) (st':St),Gh P n F true all gl call os e st=some (e',st')→st'=st∧∃ p,e'=p++e
 | [],e,st,e',st',h=>by cases h;exact ⟨rfl,[],rfl⟩
 | o::os,e,st,e',st',h=>by
  have ih:=fun c v (h:Gh P n F true all gl call os (Du e o.dst c v) st=some (e',st'))=>WY os _ _ _ _ h
  have fin:∀ c v,Gh P n F true all gl call os (Du e o.dst c v) st=some (e',st')→st'=st∧∃ p,e'=p++e:=fun c v h=>by
   obtain ⟨b,p,a⟩:=ih c v h
   refine ⟨b,?_⟩
   cases hd:o.dst with
   | none=>rw [hd] at a;exact ⟨p,a⟩
   | some d=>rw [hd] at a;exact ⟨p++[(d,c,v)],by rw [a];simp [Du]⟩
  rw [Gh] at h
  by_cases h0:guardOk all (AK true all o e) o.guard∧dstOk n o.dst
  rotate_left
  ·rw [Ai h0] at h;cases h
  rw [Ah h0] at h
  split at h
  ·split at h
   ·split at h
    ·split at h
     ·split at h
      ·exact fin _ _ h
      ·rename_i q;exact absurd rfl q
     ·cases h
    ·cases h
   ·exact fin _ _ h
  ·split at h
   ·rename_i q;cases q
   ·cases h
  ·split at h
   ·split at h
    ·exact fin _ _ h
    ·cases h
   ·split at h
    ·rename_i q;cases q.2
    ·cases h
theorem Y5 {F:Fl} {all:List Oper} {gl:TypeId→Nat→Option AV} {call:AV→List AV→St→Option (AV × St)} (os:List Oper) (e:Env) (st:St) (e':Env) (st':St) (h:RU P n F true all gl call os e st=some (e',st')):st'=st∧∃ p,e'=p++e :=
 WY os e st e' st' (P0 _ _ _ _ h)
noncomputable def Zgz (e1:Env):Env→Bool
 | []=>true
 | (k,c,v)::p=>(match look e1 k with | some (c',v')=>c == c'&&QM 60 v v' | none=>false)&&Zgz e1 p
theorem SQ {e1:Env}:∀ (p:Env),Zgz e1 p=true→PreOk e1 (p++e1)
 | [],_ => .nil
 | (k,c,v)::p,h=>by
  simp only [Zgz,Bool.and_eq_true] at h
  obtain ⟨h1,a⟩:=h
  split at h1
  ·rename_i c' v' hl
   simp only [Bool.and_eq_true] at h1
   have e1:=eq_of_beq h1.1
   have e2:=PW 60 _ _ h1.2
   subst e1 e2
   exact .cons hl (SQ p a)
  ·cases h1
noncomputable def ZcN (l:List Oper) (ms:List Nat) (ef dn:List Nat):List Nat:=(List.range l.length).filter fun i => !ef.contains i&&dn.any fun j=>I0 ms j i
noncomputable def PS (P:Program) (n:Nat) (F:Fl) (gl:TypeId→Nat→Option AV) (call0:AV→List AV→St→Option (AV × St)) (l:List Oper) (ms ef dn:List Nat) (e1:Env) (s:St):Bool :=
 match dn with
 | []=>true
 | _=>match RU P n F true l gl call0 (Bj (ef++ZcN l ms ef dn) 0 l) e1 s with
  | some (e',_)=>Zgz e1 (e'.take (e'.length-e1.length))
  | none=>false
noncomputable def WF (P:Program) (l:List Oper) (call:AV→List AV→St→Option (AV × St)) (F:Fl) (o:Oper) (ev:Env) (s:St):Option (AV × St) :=
 match o.op with
 | .call ⟨.value f,args,_⟩=>YP true l o ev fun w=>C4 w f fun fv=>SS w (BX w 0) args.toList fun vs=>call fv vs s
 | op=>YP true l o ev fun w=>Wa P F w s op fun v s=>some (v,s)
noncomputable def Le (P:Program) (n:Nat) (F:Fl) (gl:TypeId→Nat→Option AV) (call0 call:AV→List AV→St→Option (AV × St)) (l:List Oper) (ms ef:List Nat) (e1:Env):List Nat→List Nat→Env→St→Option (Env × St)
 | [],dn,ev,s=>if PS P n F gl call0 l ms ef dn e1 s&&(LO l ef dn).isEmpty then some (ev,s) else none
 | i::is,dn,ev,s=>if PS P n F gl call0 l ms ef dn e1 s&&decide (LO l ef dn=[i]) && !(ef.all fun j=>dn.contains j) then match l[i]? with
   | some o=>if o.guard.isNone=true∧dstOk n o.dst then match WF P l call F o ev s with
     | some (v,s')=>Le P n F gl call0 call l ms ef e1 is (i::dn) (Du ev o.dst true v) s'
     | none=>none
    else none
   | none=>none
  else none
noncomputable def Zc7 (P:Program) (n:Nat) (F:Fl) (gl:TypeId→Nat→Option AV) (call0 call:AV→List AV→St→Option (AV × St)) (l:List Oper) (ef:List Nat) (e:Env) (st:St):Option (Env × St) :=
 if Hr l ef=true then match RU P n F true l gl call0 (Bj ef 0 l) e st with
  | some (e1,_)=>Le P n F gl call0 call l (DF l []) ef e1 ef [] e1 st
  | none=>none
 else none
variable {F:Fl} {gl:TypeId→Nat→Option AV} {call0 call:AV→List AV→St→Option (AV × St)} {l:List Oper} {ef:List Nat} {e1:Env}
noncomputable def ZcT (P:Program) (n:Nat) (F:Fl) (gl:TypeId→Nat→Option AV) (call0:AV→List AV→St→Option (AV × St)) (l:List Oper) (ef:List Nat) (e1:Env) (st:St) (dn:List Nat) (s:St):Prop :=
 (dn=[]→s=st)∧PS P n F gl call0 l (DF l []) ef dn e1 s=true
theorem Zdb (hcall:∀ fv args st v st',call fv args st=some (v,st')→Hu P w0 fv args st fun r s=>r=v∧s=st') {o:Oper} {ev:Env} {s:St} {v:AV} {s':St} (h:WF P l call F o ev s=some (v,s')):CJ P w0 (AK true l o ev) s o v s':=by
 obtain ⟨i,op,n,d,c,a⟩:=o
 unfold WF at h
 split at h
 ·rename_i f args ts q
  simp only at q
  subst q
  rw [LM] at h
  obtain ⟨e,g⟩:=AY h
  obtain ⟨k,j⟩:=JY _ _ g
  exact ⟨e,k,hcall _ _ _ _ _ j⟩
 ·rename_i hne
  rw [LM] at h
  obtain ⟨m,b,h⟩:=LR h
  ·have h:=Option.some.inj h
   rw [NN (fun q=>by
    simp only at q hne
    cases op with
    | call cc =>
     obtain ⟨cl,args,ts⟩:=cc
     cases cl with
     | value f=>exact hne _ _ _ rfl
     | _=>cases q
    | _=>cases q)]
   exact ⟨b,congrArg Prod.fst h,congrArg Prod.snd h⟩
theorem Pm (hcall:∀ fv args st v st',call fv args st=some (v,st')→Hu P w0 fv args st fun r s=>r=v∧s=st') {st:St} {e2:Env} {s2:St} {T:Env→St→Prop} (hT:T e2 s2) :
  ∀ (is dn:List Nat) (ev:Env) (s:St),(dn=[]→s=st)→Le P n F gl call0 call l (DF l []) ef e1 is dn ev s=some (e2,s2)→GoodD P w0 n l ef (ZcT P n F gl call0 l ef e1 st) T (is.length+1) dn ev s
 | [],dn,ev,s,h0,h=>by
  simp only [Le] at h
  split at h
  ·rename_i hc
   rw [Bool.and_eq_true] at hc
   cases h
   refine ⟨⟨h0,hc.1⟩,fun _=>hT,fun i a hd hr=>?_⟩
   have:i∈LO l ef dn:=List.mem_filter.2 ⟨a,by rw [hd];simpa using hr⟩
   rw [List.isEmpty_iff.1 hc.2] at this
   cases this
  ·cases h
 | i::is,dn,ev,s,h0,h=>by
  simp only [Le] at h
  split at h
  rotate_left
  ·cases h
  rename_i hc
  simp only [Bool.and_eq_true,decide_eq_true_eq,Bool.not_eq_true'] at hc
  obtain ⟨⟨b,d⟩,c⟩:=hc
  split at h
  rotate_left
  ·cases h
  rename_i o ho
  split at h
  rotate_left
  ·cases h
  rename_i hg
  split at h
  rotate_left
  ·cases h
  rename_i v s' hs
  refine ⟨⟨h0,b⟩,fun q=>(by rw [c] at q;cases q),fun j hj hd hr=>?_⟩
  have:j∈LO l ef dn:=List.mem_filter.2 ⟨hj,by rw [hd];simpa using hr⟩
  rw [d,List.mem_singleton] at this
  subst this
  refine ⟨o,ho,Option.isNone_iff_eq_none.1 hg.1,hg.2,fun r t=>r=v∧t=s',.inr ⟨v,s',Zdb hcall hs,fun _ _ q=>q⟩,?_⟩
  rintro _ _ ⟨rfl,rfl⟩
  exact Pm hcall hT is _ _ _ (fun q=>by cases q) h
theorem ZbT {M0:Mem} {W0:World} {ro:Option Nat} {Q:AQ} {e:Env} {st:St} (hm:P.follows .mixedOrders=true) (hL:∀ fv args st v st',call0 fv args st=some (v,st')→st'=st) (hcall0:∀ fv args st v st',call0 fv args st=some (v,st')→Hu P w0 fv args st fun r s=>r=v∧s=st')
  (hcall:∀ fv args st v st',call fv args st=some (v,st')→Hu P w0 fv args st fun r s=>r=v∧s=st') (hgl:∀ t g x,gl t g=some x→KE P w0 t g x) {id:Nat} {e2:Env} {s2:St} (h:Zc7 P n F gl call0 call l ef e st=some (e2,s2)) (hQ:Q .normal e2 s2):Da P w0 n M0 W0 ro (.region id l.toArray true) Q e st:=by
 unfold Zc7 at h
 split at h
 rotate_left
 ·cases h
 rename_i hB
 split at h
 rotate_left
 ·cases h
 rename_i e1 s1 h1
 have d:=Oj (P:=P) (w0:=w0) (n:=n) (e1:=e1) (s:=st) hB ⟨Ly (Bj ef 0 l)+1,HB (K:=fun e' s'=>e'=e1∧s'=st) (fun _=>hL) hcall0 hgl _ _ _ _ _ h1 ⟨rfl,(Y5 _ _ _ _ _ h1).1⟩⟩
 refine Zdz hm ef hB (ZcT P n F gl call0 l ef e1 st) _ d.1 (fun dn s m i o a b ho=>?_) (Pm (T:=fun ev s=>Q .normal ev s) hcall hQ ef [] e1 st (fun _=>rfl) h)
 obtain ⟨y,f2⟩:=m
 unfold PS at f2
 split at f2
 ·rw [y rfl]
  exact d.2 i o a ho
 ·split at f2
  ·rename_i e' s' q
   obtain ⟨u,p,c⟩:=Y5 _ _ _ _ _ q
   have f:e'.take (e'.length-e1.length)=p:=by rw [c];simp
   rw [f] at f2
   refine Uk (el:=ZcN l (DF l []) ef dn) hB ⟨Ly (Bj (ef++ZcN l (DF l []) ef dn) 0 l)+1,HB (K:=fun e' s'=>s'=s∧PreOk e1 e') (fun _=>hL) hcall0 hgl _ _ _ _ _ q ⟨u,by rw [c];exact SQ p f2⟩⟩ i o a (fun w=>?_) ho
   have:=(List.mem_filter.1 w).2
   simp only [Bool.and_eq_true,List.any_eq_true] at this
   obtain ⟨_,j,k,ha⟩:=this
   rw [b j k] at ha
   cases ha
  ·cases f2
end
section
structure Cfg where
 gl:TypeId→Nat→Option AV
 ext:FuncId→List AV→Option AV
 exs:Fl→FuncId→List AV→St→Option (AV × St)
 isX:FuncId→Bool
 kp:FuncId→Bool
 im:FuncId→Bool
 imx:FuncId→FuncId→Bool
 q:Nat
 m:Nat
noncomputable def Cfg.at (C:Cfg) (f:FuncId) (m:Nat):Cfg:={ C with im:=fun g=>C.im g||C.imx f g,m:=m }
noncomputable def Cfg.m0 (C:Cfg):Cfg:={ C with m:=0 }
noncomputable def Y4 (l:List Operand) (m:Nat):Nat:=List.rec (motive:=fun _=>Nat→Nat) (fun m=>m) (fun x _ ih m=>match x with | .tmp t=>ih (Nat.lor m (Nat.shiftLeft 1 t)) | _=>ih m) l m
noncomputable def Zlp (ops:List Oper):Nat:=List.rec (motive:=fun _=>Nat→Nat→Nat) (fun m s=>m) (fun o _ ih m s=>ih (Nat.lor m (Nat.lor (Nat.xor (Nat.land (Y4 o.op.operands.toList 0) s) (Y4 o.op.operands.toList 0)) 0)) (match o.dst with | some d=>Nat.lor s (Nat.shiftLeft 1 d) | none=>s)) ops 0 0
noncomputable def Uw:Code→Nat
 | .region _ ops _=>Zlp ops.toList
 | .seq a b=>Nat.lor (Uw a) (Uw b)
 | .cond o a b=>Nat.lor (Y4 [o] 0) (Nat.lor (Uw a) (Uw b))
 | .block _ a=>Uw a
 | .loop a=>Uw a
 | .rangeFunc g ps asg body=>Nat.lor (Y4 [g] 0) (Nat.lor (Uw asg) (Uw body))
 | _=>0
noncomputable def JD (fn:Func) (c:Code):Nat:=List.rec (motive:=fun _=>Nat→Nat) (fun m=>m) (fun r _ ih m=>match r with | .tmp t=>ih (Nat.lor m (Nat.shiftLeft 1 t)) | .cell t _=>ih (Nat.lor m (Nat.shiftLeft 1 t))) fn.results.toList (Uw c)
noncomputable def Yo:Nat→AV→List Nat
 | 0,_=>[]
 | k+1,.agg xs=>xs.flatMap (Yo k)
 | k+1,.tup xs=>xs.flatMap (Yo k)
 | k+1,.list xs _=>xs.flatMap (Yo k)
 | k+1,.elem x _=>Yo k x
 | k+1,.clo _ xs=>xs.flatMap (Yo k)
 | _+1,.vec i _ _ _=>[i]
 | _+1,_=>[]
theorem Q9 {F:Fl} {f:AV→AV} {s:St} (hf:Fits F s):Pre F s (ID F.b F.r f s) :=
 ⟨⟨J0 _ _ _,J0 _ _ _,rfl⟩,by simpa [ID,FA] using hf.1,by simpa [ID,FA] using hf.2.1,hf.2.2⟩
noncomputable def Z7 {β:Type} (g:AV→AV) (n:Nat):AV→(AV→β)→β :=
 Nat.rec (motive:=fun _=>AV→(AV→β)→β) (fun x k=>k x) (fun _ ih x k=>match x with
  | .agg xs=>JM ih xs fun xs=>k (.agg xs)
  | .tup xs=>JM ih xs fun xs=>k (.tup xs)
  | .list (x::xs) o=>ih x fun x=>JM ih xs fun xs=>k (.list (x::xs) o)
  | .list [] o=>fA 60 (g (.list [] o)) k
  | .elem x i=>ih x fun x=>k (.elem x i)
  | .clo f xs=>JM ih xs fun xs=>k (.clo f xs)
  | .vec a b c d=>fA 60 (g (.vec a b c d)) k
  | x=>k x) n
theorem U0 {β:Type} (g:AV→AV):∀ (n:Nat) (x:AV) (k:AV→β),Z7 g n x k=k (deep g n x)
 | 0,x,k=>rfl
 | n+1,x,k=>by
  have ih:∀ (x:AV) (k:AV→β),Z7 g n x k=k (deep g n x):=fun x k=>U0 g n x k
  have e:∀ (l:List AV) (k:List AV→β),JM (Z7 g n) l k=k (l.map (deep g n)):=fun l k=>J1 ih l k
  cases x with
  | agg xs=>show JM (Z7 g n) xs (fun xs=>k (.agg xs))=_;rw [e];rfl
  | tup xs=>show JM (Z7 g n) xs (fun xs=>k (.tup xs))=_;rw [e];rfl
  | list xs o =>
   cases xs with
   | nil=>show fA 60 (g (.list [] o)) k=_;rw [Og];rfl
   | cons x xs =>
    show Z7 g n x (fun x=>JM (Z7 g n) xs fun xs=>k (.list (x::xs) o))=_
    rw [ih,e];rfl
  | elem x i=>show Z7 g n x (fun x=>k (.elem x i))=_;rw [ih];rfl
  | clo f xs=>show JM (Z7 g n) xs (fun xs=>k (.clo f xs))=_;rw [e];rfl
  | vec a b c d=>show fA 60 (g (.vec a b c d)) k=_;rw [Og];rfl
  | _=>rfl
noncomputable def ZlX {β:Type} (g:AV→AV) (x:Nat × Bool × AV) (k:Nat × Bool × AV→β):β :=
 Prod.rec (motive:=fun _=>β) (fun s p=>Prod.rec (motive:=fun _=>β) (fun c v=>Bool.rec (motive:=fun _=>β) (k (s,c,deep g 60 v)) (Z7 g 60 v fun v=>k (s,c,v)) c) p) x
noncomputable def dEK {β:Type} (g:AV→AV) (e:Env) (k:Env→β):β:=JM (ZlX g) e k
theorem T8 {β:Type} (g:AV→AV) (e:Env) (k:Env→β):dEK g e k=k (Pg (deep g 60) e):=by
 have a:∀ (x:Nat × Bool × AV) (k:Nat × Bool × AV→β),ZlX g x k=k (x.1,x.2.1,deep g 60 x.2.2):=by
  rintro ⟨s,c,v⟩ k
  cases c
  ·rfl
  ·exact U0 g 60 v fun v=>k (s,true,v)
 have b:∀ e:Env,e.map (fun x=>(x.1,x.2.1,deep g 60 x.2.2))=Pg (deep g 60) e:=by
  intro e
  induction e with
  | nil=>rfl
  | cons x e ih=>obtain ⟨s,c,v⟩:=x;rw [List.map_cons,ih];rfl
 rw [dEK,J1 a,b]
noncomputable def Zcs {α β:Type} (f:α→(α→β)→β) (n:Nat) (l:List α) (k:List α→β):β :=
 List.rec (motive:=fun _=>Nat→(List α→β)→β) (fun _ k=>k []) (fun x xs ih n k=>Nat.rec (motive:=fun _=>β) (JM f (x::xs) k) (fun m _=>ih m fun r=>k (x::r)) n) l n k
theorem QG {α β:Type} {f:α→(α→β)→β} {g:α→α} (hf:∀ x k,f x k=k (g x)):∀ (l:List α) (n:Nat) (k:List α→β),Zcs f n l k=k (Fa n g l)
 | [],0,k=>rfl
 | [],n+1,k=>rfl
 | x::xs,0,k=>J1 hf (x::xs) k
 | x::xs,n+1,k=>QG hf xs n fun r=>k (x::r)
noncomputable def Zl5 {β:Type} (g:AV→AV) (r:RowA) (k:RowA→β):β:=match r with
 | .vec v sz cs=>fN v fun v=>fN sz fun sz=>JM (Z7 g 60) cs fun cs=>k (.vec v sz cs)
 | .dead v=>fN v fun v=>k (.dead v)
 | r=>k r
theorem ZgQ {β:Type} (g:AV→AV) (r:RowA) (k:RowA→β):Zl5 g r k=k (YW (deep g 60) r):=by
 cases r with
 | vec v sz cs=>show fN v (fun v=>fN sz fun sz=>JM (Z7 g 60) cs fun cs=>k (.vec v sz cs))=_;rw [Dm,Dm,J1 (U0 g 60)];rfl
 | dead v=>exact Dm v fun v=>k (.dead v)
 | grow a b=>rfl
noncomputable def ZgS {β:Type} (b r:Nat) (g:AV→AV) (bx:Ao) (rw:Au) (lp:As) (k:St→β):β :=
 Zcs (fun cs k=>JM (Z7 g 60) cs k) b bx fun bx=>Zcs (Zl5 g) r rw fun rw=>JM Zk lp fun lp=>k ⟨bx,rw,lp⟩
theorem P5 {β:Type} (b r:Nat) (g:AV→AV) (bx:Ao) (rw_:Au) (lp:As) (k:St→β):ZgS b r g bx rw_ lp k=k (ID b r (deep g 60) ⟨bx,rw_,lp⟩):=by
 rw [ZgS,QG (g:=fun cs=>cs.map (deep g 60)) (fun cs k=>J1 (U0 g 60) cs k),QG (ZgQ g),E2 P7];rfl
noncomputable def I5 (F:Fl) (ids:Env→St→List Nat):Nat→Env→St→Env × St
 | 0,e,st=>(e,st)
 | k+1,e,st=>match (ids e st).filter (Nat.ble F.r) with
  | []=>(e,st)
  | id::_=>match st.rows[id]? with
   | some (.vec ver sz cs)=>if Nat.ble F.r id=true then dEK (XD id ver sz cs) e fun e=>ZgS F.b F.r (XD id ver sz cs) st.boxes (st.rows.set id (.dead (ver+1))) st.loops fun st=>I5 F ids k e st else (e,st)
   | _=>(e,st)
theorem Kx (w0:World) (F:Fl) (ids:Env→St→List Nat):∀ (k:Nat) (e:Env) (st:St),ConvE w0 e st (I5 F ids k e st).1 (I5 F ids k e st).2
 | 0,e,st => .refl _ _ _
 | k+1,e,st=>by
  unfold I5
  split
  ·exact .refl _ _ _
  ·split
   ·rename_i h
    split
    ·rw [T8,P5]
     exact (WP w0 F.b F.r 60 e st _ _ _ _ h).trans (Kx w0 F ids k _ _)
    ·exact .refl _ _ _
   ·exact .refl _ _ _
theorem Lu {F:Fl} (ids:Env→St→List Nat):∀ (k:Nat) (e:Env) (st:St),Fits F st→Pre F st (I5 F ids k e st).2
 | 0,e,st,hf => .refl hf
 | k+1,e,st,hf=>by
  unfold I5
  split
  ·exact .refl hf
  ·split
   ·split
    ·rename_i hi
     rw [T8,P5]
     exact (Pre.row _ hf (Nat.le_of_ble_eq_true hi)).andThen fun a=>(Q9 a).andThen fun b=>Lu ids k _ _ b
    ·exact .refl hf
   ·exact .refl hf
noncomputable def NJ (F:Fl):Nat→Nat→Env→St→Env × St
 | 0,_,e,st=>(e,st)
 | k+1,i,e,st=>match st.rows[i]? with
  | some (.grow 0 sz)=>if Nat.blt 0 sz=true∧Nat.ble F.r i=true then dEK (QU i) e (fun e=>ZgS F.b F.r (QU i) st.boxes (st.rows.set i (.vec 0 sz [])) st.loops fun st=>NJ F k (i+1) e st) else NJ F k (i+1) e st
  | some _=>NJ F k (i+1) e st
  | none=>(e,st)
theorem Ku (w0:World) (F:Fl):∀ (k i:Nat) (e:Env) (st:St),ConvE w0 e st (NJ F k i e st).1 (NJ F k i e st).2
 | 0,i,e,st => .refl _ _ _
 | k+1,i,e,st=>by
  unfold NJ
  split
  ·rename_i sz h
   split
   ·rename_i hs
    rw [T8,P5]
    exact (ZA w0 F.b F.r 60 e st i sz h (ED hs.1)).trans (Ku w0 F k _ _ _)
   ·exact Ku w0 F k _ _ _
  ·exact Ku w0 F k _ _ _
  ·exact .refl _ _ _
theorem LW {F:Fl}:∀ (k i:Nat) (e:Env) (st:St),Fits F st→Pre F st (NJ F k i e st).2
 | 0,i,e,st,hf => .refl hf
 | k+1,i,e,st,hf=>by
  unfold NJ
  split
  ·rename_i sz h
   split
   ·rename_i hs
    rw [T8,P5]
    exact (Pre.row _ hf (Nat.le_of_ble_eq_true hs.2)).andThen fun a=>(Q9 a).andThen fun b=>LW k _ _ _ b
   ·exact LW k _ _ _ hf
  ·exact LW k _ _ _ hf
  ·exact .refl hf
noncomputable def ZlZ:Op→Bool
 | .call ⟨.builtin .append,_,_⟩=>true
 | _=>false
noncomputable def Ziz:Op→Bool
 | .makeSlice _ _ _=>true
 | _=>false
noncomputable def Wm (isX:FuncId→Bool):List Oper→List Nat
 | []=>[]
 | o::os=>match o.op with
  | .call ⟨.value (.func f),args,_⟩=>if isX f=true then He args.toList++Wm isX os else Wm isX os
  | _=>Wm isX os
noncomputable def Zfr:Op→Bool
 | .move _ | .assign _ | .load _ (.tmp _) | .nilCheck _ | .slice _ _ _ _ _ | .fieldAddr _ _ _ | .field _ _ _ | .indexAddr _ _ _ | .extract _ _=>true
 | _=>false
noncomputable def We (P:Program) (F:Fl) (st:St):List Oper→Env→Env
 | [],e=>e
 | o::os,e=>match Zfr o.op with
  | true=>match Wa P F e st o.op fun v _=>some v with
   | some v=>ZL e o.dst true v fun e=>We P F st os e
   | none=>We P F st os e
  | false=>We P F st os e
noncomputable def ZnI (P:Program) (F:Fl) (isX:FuncId→Bool) (ops:List Oper) (e:Env) (st:St):List Nat :=
 (Wm isX ops).flatMap fun t=>Yo 60 (Aq (We P F st ops e) (.tmp t))
noncomputable def ZjW (d:Option Nat) (os:List Oper):Bool :=
 match d with
 | some s=>os.any fun o=>match o.op with | .call ⟨_,args,_⟩=>(He args.toList).any (Nat.beq s) | _=>false
 | none=>false
noncomputable def Kt:List Oper→Env→Env
 | [],e=>e
 | o::os,e=>match o.op with
  | .buildSlice t _ _=>if ZjW o.dst os=true then Kt os e else Kt os ((1000000+t,false,.junk)::e)
  | _=>Kt os e
noncomputable def G6 (F:Fl) (all:List Oper) (le:Env):List Oper→Env→St→Env × St
 | [],e,st=>(e,st)
 | o::os,e,st=>match o.op with
  | .call ⟨.builtin .append,args,_⟩=>match args.toList with
   | [.tmp s,_]=>match all.find? (fun p=>match p.dst with | some d=>Nat.beq d s | none=>false) with
    | some p=>match p.op with
     | .load _ (.tmp a)=>match Aq le (.tmp a) with
      | .box l i=>if Nat.ble F.b l=true then G6 F all le os e (Qj st l i) else G6 F all le os e st
      | _=>G6 F all le os e st
     | .move (.tmp u)=>G6 F all le os (YS u e) st
     | _=>G6 F all le os e st
    | none=>G6 F all le os (YS s e) st
   | _=>G6 F all le os e st
  | _=>G6 F all le os e st
theorem DW (w0:World) (F:Fl) (all:List Oper) (le:Env):∀ (os:List Oper) (e:Env) (st:St),ConvE w0 e st (G6 F all le os e st).1 (G6 F all le os e st).2
 | [],e,st => .refl _ _ _
 | o::os,e,st=>by
  unfold G6
  split
  ·split
   ·split
    ·split
     ·split
      ·split
       ·exact (VW w0 e st _ _).trans (DW w0 F all le os _ _)
       ·exact DW w0 F all le os _ _
      ·exact DW w0 F all le os _ _
     ·exact (QF w0 e st _).trans (DW w0 F all le os _ _)
     ·exact DW w0 F all le os _ _
    ·exact (QF w0 e st _).trans (DW w0 F all le os _ _)
   ·exact DW w0 F all le os _ _
  ·exact DW w0 F all le os _ _
theorem Yt {F:Fl} {st:St} {l i:Nat} (hf:Fits F st) (hl:F.b≤l):Pre F st (Qj st l i):=by
 unfold Qj
 split
 ·split
  ·exact .box _ hf hl
  ·exact .refl hf
 ·exact .refl hf
theorem EB {F:Fl} (all:List Oper) (le:Env):∀ (os:List Oper) (e:Env) (st:St),Fits F st→Pre F st (G6 F all le os e st).2
 | [],e,st,hf => .refl hf
 | o::os,e,st,hf=>by
  unfold G6
  split
  ·split
   ·split
    ·split
     ·split
      ·split
       ·rename_i hl
        have p:=Yt (i:=by assumption) hf (Nat.le_of_ble_eq_true hl)
        exact p.trans (EB all le os _ _ p.2)
       ·exact EB all le os _ _ hf
      ·exact EB all le os _ _ hf
     ·exact EB all le os _ _ hf
     ·exact EB all le os _ _ hf
    ·exact EB all le os _ _ hf
   ·exact EB all le os _ _ hf
  ·exact EB all le os _ _ hf
noncomputable def ZdU (x:Env × St):Env × St:=match x with | (e,s)=>fE e fun e=>Wn s fun s=>(e,s)
theorem Tc (x:Env × St):ZdU x=x:=by
 obtain ⟨e,s⟩:=x
 show (fE e fun e=>Wn s fun s=>(e,s))=_
 rw [O7,LJ]
noncomputable def TX (P:Program) (F:Fl) (ops:List Oper) (e:Env) (st:St):Env × St:=if ops.any (fun o=>ZlZ o.op)=true then ZdU (G6 F ops (We P F st ops e) ops e st) else (e,st)
noncomputable def XJ (P:Program) (F:Fl) (C:Cfg) (ops:List Oper) (x:Env × St):Env × St:=if (Wm C.isX ops).isEmpty=true then x else I5 F (ZnI P F C.isX ops) 20 x.1 x.2
noncomputable def QL (F:Fl) (ops:List Oper) (n0:Nat) (e:Env) (st:St):Env × St:=if ops.any (fun o=>Ziz o.op)=true then NJ F (st.rows.length-n0) n0 e st else (e,st)
noncomputable def PI (m s:Nat):Bool:=Nat.beq (Nat.land (Nat.shiftRight m s) 1) 1
noncomputable def XA (m:Nat) (s:Nat):Bool:=Bool.rec (motive:=fun _=>Bool) (PI m s) (Nat.blt s 1000000) (Nat.beq m 0)
noncomputable def Wb (m:Nat):Env→Env
 | []=>[]
 | x::e=>if XA m x.1=true then x::Wb m e else Wb m e
theorem ZaL (m:Nat) (e:Env):∀ (s:Nat),look (Wb m e) s=if XA m s=true then look e s else none:=by
 induction e with
 | nil=>intro s;split<;>rfl
 | cons x e ih =>
  obtain ⟨k,c,v⟩:=x
  intro s
  rw [Wb]
  by_cases hk:XA m k=true
  ·rw [Ah hk,look]
   by_cases q:k=s
   ·subst q;rw [Ah rfl,Ah hk,look,Ah rfl]
   ·rw [Ai q,ih s,look,Ai q]
  ·rw [Ai hk,ih s]
   by_cases hs:XA m s=true
   ·rw [Ah hs,Ah hs,look,Ai (fun q:k=s=>hk (q▸hs))]
   ·rw [Ai hs,Ai hs]
theorem ZbD (m:Nat) (e:Env):TZ (Wb m e) e:=fun s x h=>by
 rw [ZaL] at h
 split at h
 ·exact h
 ·cases h
noncomputable def Zgf {β:Type} (m:Nat) (e:Env) (k:Env→β):β :=
 List.rec (motive:=fun _=>(Env→β)→β) (fun k=>k []) (fun x _ ih k=>Prod.rec (motive:=fun _=>β) (fun s p=>Bool.rec (motive:=fun _=>β) (ih k) (ih fun e=>k ((s,p)::e)) (XA m s)) x) e k
theorem Ud {β:Type} (m:Nat):∀ (e:Env) (k:Env→β),Zgf m e k=k (Wb m e)
 | [],k=>rfl
 | (s,c,v)::e,k=>by
  show (Bool.rec (motive:=fun _=>β) (Zgf m e k) (Zgf m e fun e=>k ((s,c,v)::e)) (XA m s):β)=_
  rw [Wb]
  cases hq:XA m s with
  | true=>rw [Ah rfl];exact Ud m e _
  | false=>rw [Ai (by decide)];exact Ud m e _
noncomputable def Zjz:Op→Bool
 | .buildSlice _ _ _=>true
 | .load _ (.global _)=>true
 | .call ⟨.value _,_,_⟩=>true
 | _=>false
noncomputable def Ys (ops:List Oper):Bool:=Nat.ble 3 ops.length||ops.any fun o=>Zjz o.op
noncomputable def P2 (m:Nat) (ops:List Oper) (e:Env):Env:=if Ys ops=true then Wb m e else e
theorem Uy (w0:World) (m:Nat) (ops:List Oper) (e:Env) (st:St):ConvE w0 e st (P2 m ops e) st:=by
 unfold P2
 split
 ·exact fun n M a w h=>⟨M,.refl _ _ _,h.sub (ZbD m e)⟩
 ·exact .refl _ _ _
theorem ZU (w0:World) (P:Program) (F:Fl) (ops:List Oper) (e:Env) (st:St):ConvE w0 e st (TX P F ops e st).1 (TX P F ops e st).2:=by
 unfold TX
 split
 ·rw [Tc];exact DW w0 F _ _ _ e st
 ·exact .refl _ _ _
theorem Z2 (w0:World) (P:Program) (F:Fl) (C:Cfg) (ops:List Oper) (x:Env × St):ConvE w0 x.1 x.2 (XJ P F C ops x).1 (XJ P F C ops x).2:=by
 unfold XJ
 split
 ·exact .refl _ _ _
 ·exact Kx w0 F _ _ _ _
theorem X4 (w0:World) (F:Fl) (ops:List Oper) (n0:Nat) (e:Env) (st:St):ConvE w0 e st (QL F ops n0 e st).1 (QL F ops n0 e st).2:=by
 unfold QL
 split
 ·exact Ku w0 F _ _ _ _
 ·exact .refl _ _ _
theorem Zde {P:Program} {F:Fl} {ops:List Oper} {e:Env} {st:St} (hf:Fits F st):Pre F st (TX P F ops e st).2:=by
 unfold TX
 split
 ·rw [Tc];exact EB _ _ _ _ _ hf
 ·exact .refl hf
theorem ZcB {P:Program} {F:Fl} {C:Cfg} {ops:List Oper} {x:Env × St} (hf:Fits F x.2):Pre F x.2 (XJ P F C ops x).2:=by
 unfold XJ
 split
 ·exact .refl hf
 ·exact Lu _ _ _ _ hf
theorem ZQ {F:Fl} {ops:List Oper} {n0:Nat} {e:Env} {st:St} (hf:Fits F st):Pre F st (QL F ops n0 e st).2:=by
 unfold QL
 split
 ·exact LW _ _ _ _ hf
 ·exact .refl hf
noncomputable def XT (m:Nat):Env→Nat→Env
 | [],_=>[]
 | x::e,seen=>if PI m x.1=true∧seen.testBit x.1=false then x::XT m e (seen ||| 2 ^ x.1) else XT m e seen
theorem OD (m:Nat):∀ (e:Env) (seen s:Nat) (x:Bool × AV),look (XT m e seen) s=some x→seen.testBit s=false∧PI m s=true∧look e s=some x
 | [],seen,s,x,h=>by cases h
 | (k,c,v)::e,seen,s,x,h=>by
  rw [XT] at h
  split at h
  ·rename_i hk
   rw [look] at h
   split at h
   ·rename_i q
    have q:k=s:=q
    subst q
    refine ⟨hk.2,hk.1,?_⟩
    rw [look,Ah rfl]
    exact h
   ·rename_i q
    have q:k≠s:=q
    obtain ⟨h1,h2,a⟩:=OD m e _ s x h
    rw [Nat.testBit_or,Bool.or_eq_false_iff] at h1
    refine ⟨h1.1,h2,?_⟩
    rw [look,Ai q];exact a
  ·rename_i hk
   obtain ⟨h1,h2,a⟩:=OD m e _ s x h
   refine ⟨h1,h2,?_⟩
   by_cases q:k=s
   ·subst q;exact absurd ⟨h2,h1⟩ hk
   ·rw [look,Ai q];exact a
noncomputable def Vm (m:Nat) (e:Env):Env:=if Nat.beq m 0=true then e else XT m e 0
theorem Z3 (m:Nat) (e:Env):TZ (Vm m e) e:=by
 unfold Vm
 split
 ·exact fun _ _ h=>h
 ·exact fun s x h=>(OD m e 0 s x h).2.2
abbrev Hm:=AV→List AV→St→Option (AV × St)
noncomputable def Zct (C:Cfg):Op→Bool
 | .call ⟨.value (.func f),_,_⟩=>C.im f
 | _=>false
noncomputable def Np (C:Cfg) (l:List Oper) (e:Env):Env:=if l.any (fun o=>Zct C o.op)=true then MM C.gl l ((1000000+0,false,.junk)::e) else MM C.gl l e
noncomputable def Zjm:Op→Bool
 | .call ⟨.value (.tmp _),_,_⟩=>true
 | _=>false
noncomputable def LH (P:Program) (C:Cfg) (al tc:Bool):List Oper→Nat
 | []=>0
 | o::os=>if (Zhy o.op && !(al&&NE P o))||Zct C o.op||(tc&&Zjm o.op) then 0 else LH P C al tc os+1
noncomputable def Oi (P:Program) (l:List Oper) (h:Nat):List Nat:=(List.range h).filter fun i=>match l[i]? with | some o=>NE P o | none=>false
noncomputable def Zdh (l:List Oper) (ef:List Nat):List Nat:=ef.filterMap fun i=>(l[i]?).bind (·.dst)
noncomputable def YG (ss:List Nat) (e:Env):Env:=if ss.isEmpty then e else DD ((Zdc e []).filter fun s => !ss.any (Nat.beq s)) e
theorem ZR (ss:List Nat) (e:Env):TZ (YG ss e) e:=by
 unfold YG
 split
 ·exact fun _ _ h=>h
 ·exact EW _ _
noncomputable def ZcQ (P:Program) (n:Nat) (C:Cfg) (l:List Oper) (h:Nat) (ef:List Nat) (e:Env):Bool:=Lh l h&&Y6 P n l h ef (Kt l (Np C l (YG (Zdh l ef) e)))
noncomputable def QH (P:Program) (n:Nat) (F:Fl) (C:Cfg) (call0 call:Hm) (l:List Oper) (h:Nat) (ef:List Nat) (e:Env) (st:St):Option (Env × St) :=
 if ZcQ P n C l h ef e=true then
  fE (Kt l (Np C l (YG (Zdh l ef) e))) fun e0=>match RU P n F true l C.gl call0 ((Bj ef 0 l).take h) e0 st with
  | some (e1,s1)=>match J3 P n l ef e1 s1 with
   | some (e2,s2)=>fE e2 fun e2=>Wn s2 fun s2=>RU P n F false l C.gl call (l.drop h) e2 s2
   | none=>none
  | none=>none
 else none
noncomputable def Zjv (C:Cfg) (l:List Oper):Nat→List Oper→List Nat→List Nat
 | _,[],_=>[]
 | i,o::os,ds=>if Zhy o.op||Zct C o.op||(looks l o).any (fun s=>ds.any (Nat.beq s)) then i::Zjv C l (i+1) os (match o.dst with | some d=>d::ds | none=>ds) else Zjv C l (i+1) os ds
noncomputable def asks (C:Cfg):Op→Bool
 | .buildSlice _ _ _=>true
 | .load _ (.global _)=>true
 | .call ⟨.value (.func f),_,_⟩=>C.im f
 | _=>false
noncomputable def mkE (C:Cfg) (l:List Oper) (e:Env):Env:=Bool.rec (motive:=fun _=>Env) e (Kt l (Np C l e)) (l.any fun o=>asks C o.op)
theorem ZjF (C:Cfg) (l:List Oper) (e:Env):mkE C l e=e∨mkE C l e=Kt l (Np C l e):=by
 unfold mkE
 cases l.any fun o=>asks C o.op
 ·exact .inl rfl
 ·exact .inr rfl
noncomputable def ZT (P:Program) (n:Nat) (F:Fl) (C:Cfg) (call0 call:Hm) (l:List Oper) (draw:Bool) (e:Env) (st:St):Option (Env × St) :=
 match draw with
 | false=>match Zb7 P n l with
  | some (mt,xs,rest)=>RU P n F false l C.gl call rest (Du e (some mt) true (.tab xs)) st
  | none=>RU P n F false l C.gl call l (mkE C l e) st
 | true =>
  if ZcQ P n C l (LH P C true true l) (Oi P l (LH P C true true l)) e=true then QH P n F C call0 call l (LH P C true true l) (Oi P l (LH P C true true l)) e st
  else if ZcQ P n C l (LH P C true false l) (Oi P l (LH P C true false l)) e=true then QH P n F C call0 call l (LH P C true false l) (Oi P l (LH P C true false l)) e st
  else if ZcQ P n C l (LH P C false false l) [] e=true then QH P n F C call0 call l (LH P C false false l) [] e st
  else Zc7 P n F C.gl call0 call l (Zjv C l 0 l []) (Np C l e) st
noncomputable def Pn {β:Type} (x:Env × St) (k:Env→St→β):β:=match x with | (e,s)=>k e s
theorem K0 {β:Type} (x:Env × St) (k:Env→St→β):Pn x k=k x.1 x.2:=rfl
noncomputable def ZgW {β:Type} (m:Nat) (ops:List Oper) (e:Env) (k:Env→β):β:=Bool.rec (motive:=fun _=>β) (k e) (Zgf m e k) (Ys ops)
theorem Y1 {β:Type} (m:Nat) (ops:List Oper) (e:Env) (k:Env→β):ZgW m ops e k=k (P2 m ops e):=by
 unfold ZgW P2
 cases hq:Ys ops with
 | true=>rw [Ah rfl];exact Ud m e k
 | false=>rw [Ai (by decide)]
noncomputable def ZdK {β:Type} (m:Nat) (e:Env) (seen:Nat) (k:Env→β):β :=
 List.rec (motive:=fun _=>Nat→(Env→β)→β) (fun _ k=>k []) (fun x _ ih seen k=>Prod.rec (motive:=fun _=>β) (fun s p=>Bool.rec (motive:=fun _=>β) (ih seen k) (fN (Nat.lor seen (Nat.pow 2 s)) fun seen=>ih seen fun e=>k ((s,p)::e)) (PI m s && !Nat.testBit seen s)) x) e seen k
theorem U6 {β:Type} (m:Nat):∀ (e:Env) (seen:Nat) (k:Env→β),ZdK m e seen k=k (XT m e seen)
 | [],seen,k=>rfl
 | (s,p)::e,seen,k=>by
  show (Bool.rec (motive:=fun _=>β) (ZdK m e seen k) (fN (Nat.lor seen (Nat.pow 2 s)) fun seen=>ZdK m e seen fun e=>k ((s,p)::e)) (PI m s && !Nat.testBit seen s):β)=_
  rw [XT]
  by_cases hq:PI m s=true∧seen.testBit s=false
  ·rw [Ah hq,hq.1,hq.2]
   show fN (Nat.lor seen (Nat.pow 2 s)) (fun seen=>ZdK m e seen fun e=>k ((s,p)::e))=_
   rw [Dm]
   exact U6 m e _ _
  ·rw [Ai hq]
   have:(PI m s && !Nat.testBit seen s)=false:=by
    cases h1:PI m s with
    | false=>rfl
    | true=>cases h2:Nat.testBit seen s with
     | true=>rfl
     | false=>exact absurd ⟨h1,h2⟩ hq
   rw [this]
   exact U6 m e _ _
noncomputable def Y8 {β:Type} (m:Nat) (e:Env) (k:Env→β):β:=Bool.rec (motive:=fun _=>β) (ZdK m e 0 k) (k e) (Nat.beq m 0)
theorem Wy {β:Type} (m:Nat) (e:Env) (k:Env→β):Y8 m e k=k (Vm m e):=by
 unfold Y8 Vm
 cases hq:Nat.beq m 0 with
 | true=>rw [Ah rfl]
 | false=>rw [Ai (by decide)];exact U6 m e 0 k
noncomputable def Zba:LoopState→Bool
 | .busy=>true
 | _=>false
noncomputable def Zfz:LoopState→Bool
 | .ready=>true
 | _=>false
noncomputable def GR (P:Program) (n:Nat) (rf:Bool) (F:Fl) (C:Cfg) (call0 call:Hm):Nat→Code→Env→St→Option (Exit × Env × St)
 | 0,_,_,_=>none
 | k+1,c,e,st=>match c with
  | .skip=>some (.normal,e,st)
  | .region _ ops draw=>Pn (TX P F ops.toList e st) fun e1 s1=>Pn (XJ P F C ops.toList (e1,s1)) fun e2 s2=>match ZT P n F C call0 call ops.toList draw e2 s2 with
   | some (e',s')=>ZgW C.m ops.toList e' fun e'=>Pn (QL F ops.toList st.rows.length e' s') fun e' s'=>some (.normal,e',s')
   | none=>none
  | .seq a b=>match GR P n rf F C call0 call k a e st with
   | some (.normal,e',s')=>GR P n rf F C call0 call k b e' s'
   | r=>r
  | .cond o a b=>C4 e o fun v=>match v with
    | .val (.bool true)=>GR P n rf F C call0 call k a e st
    | .val (.bool false)=>GR P n rf F C call0 call k b e st
    | _=>none
  | .block id b=>match GR P n rf F C call0 call k b e st with
   | some (.exit i,e',s')=>if i=id then some (.normal,e',s') else some (.exit i,e',s')
   | r=>r
  | .loop b=>match Y8 C.m e fun e=>GR P n rf F C call0 call k b e st with
   | some (.normal,e',s')=>GR P n rf F C call0 call k (.loop b) e' s'
   | r=>r
  | .rangeFunc g ps asg body=>if rf=true∧argOk e true g then match Aq e g with
    | .clo gf caps=>match Wn (st.push ⟨e,n,ps,asg,body,.ready,none,none⟩) fun s0=>JO st.loops fun nl=>call (.clo gf caps) [.yld nl] s0 with
     | some (_,s3)=>match s3.loops[st.loops.length]? with
      | some la=>if la.keys.isNone=true∧Zba la.st=false then match la.pend with
        | none=>Wn { s3 with loops:=s3.loops.set st.loops.length (Ub la .exhausted la.pend) } fun s4=>some (.normal,e,s4)
        | some .ret=>Wn { s3 with loops:=s3.loops.set st.loops.length (Ub la .exhausted la.pend) } fun s4=>some (.ret,e,s4)
        | some (.exit id)=>Wn { s3 with loops:=s3.loops.set st.loops.length (Ub la .exhausted la.pend) } fun s4=>some (.exit id,e,s4)
        | _=>none
       else none
      | none=>none
     | none=>none
    | _=>none
   else none
  | .exit id=>some (.exit id,e,st)
  | .ret=>some (.ret,e,st)
  | _=>none
structure SX where
 P:Program
 n:Nat
 rf:Bool
 F:Fl
 C:Cfg
 call0:Hm
 call:Hm
abbrev QR:=Option (Exit × Env × St)
abbrev QK:=SX→(Code→Env→St→QR)→Env→St→QR
noncomputable def Zml:QK:=fun X ih e st=>some (.normal,e,st)
noncomputable def Zoq (e:Env) (s:St):QR:=some (.normal,e,s)
noncomputable def Zli (F:Fl) (ops:List Oper) (nr:Nat) (s:St) (e:Env):QR:=Pn (QL F ops nr e s) Zoq
noncomputable def ZhO (F:Fl) (m:Nat) (ops:List Oper) (nr:Nat) (x:Option (Env × St)):QR:=match x with
 | some (e,s)=>ZgW m ops e (Zli F ops nr s)
 | none=>none
noncomputable def Zhv (P:Program) (n:Nat) (F:Fl) (C:Cfg) (call0 call:Hm) (ops:List Oper) (draw:Bool) (nr:Nat) (e:Env) (s:St):QR:=ZhO F C.m ops nr (ZT P n F C call0 call ops draw e s)
noncomputable def Zcp (P:Program) (n:Nat) (F:Fl) (C:Cfg) (call0 call:Hm) (ops:List Oper) (draw:Bool) (nr:Nat) (e:Env) (s:St):QR:=Pn (XJ P F C ops (e,s)) (Zhv P n F C call0 call ops draw nr)
noncomputable def Znz (ops:List Oper) (draw:Bool) (e:Env) (st:St) (P:Program) (n:Nat) (rf:Bool) (F:Fl) (C:Cfg) (call0 call:Hm):QR:=Pn (TX P F ops e st) (Zcp P n F C call0 call ops draw st.rows.length)
noncomputable def ZfP (id:Nat) (ops:Array Oper) (draw:Bool):QK:=fun X ih e st=>SX.rec (motive:=fun _=>QR) (Znz ops.toList draw e st) X
noncomputable def Zco (k:Env→St→QR) (x:QR):QR:=match x with
 | some (.normal,e,s)=>k e s
 | r=>r
noncomputable def ZnC (a b:Code):QK:=fun X ih e st=>Zco (ih b) (ih a e st)
noncomputable def ZnJ (x y:QR) (v:AV):QR:=match v with
 | .val (.bool true)=>x
 | .val (.bool false)=>y
 | _=>none
noncomputable def Zk5 (o:Operand) (a b:Code):QK:=fun X ih e st=>C4 e o (ZnJ (ih a e st) (ih b e st))
noncomputable def Zoc (id:Nat) (x:QR):QR:=match x with
 | some (.exit i,e,s)=>if i=id then some (.normal,e,s) else some (.exit i,e,s)
 | r=>r
noncomputable def Zit (id:Nat) (b:Code):QK:=fun X ih e st=>Zoc id (ih b e st)
noncomputable def ZkX (b:Code):QK:=fun X ih e st=>Zco (ih (.loop b)) (Y8 X.C.m e fun e=>ih b e st)
noncomputable def Zi9 (g:Operand) (ps:Array Tmp) (asg body:Code):QK:=fun X ih e st =>
 if X.rf=true∧argOk e true g then match Aq e g with
    | .clo gf caps=>match Wn (st.push ⟨e,X.n,ps,asg,body,.ready,none,none⟩) fun s0=>JO st.loops fun nl=>X.call (.clo gf caps) [.yld nl] s0 with
     | some (_,s3)=>match s3.loops[st.loops.length]? with
      | some la=>if la.keys.isNone=true∧Zba la.st=false then match la.pend with
        | none=>Wn { s3 with loops:=s3.loops.set st.loops.length (Ub la .exhausted la.pend) } fun s4=>some (.normal,e,s4)
        | some .ret=>Wn { s3 with loops:=s3.loops.set st.loops.length (Ub la .exhausted la.pend) } fun s4=>some (.ret,e,s4)
        | some (.exit id)=>Wn { s3 with loops:=s3.loops.set st.loops.length (Ub la .exhausted la.pend) } fun s4=>some (.exit id,e,s4)
        | _=>none
       else none
      | none=>none
     | none=>none
    | _=>none
   else none
noncomputable def Zl7 (id:Nat):QK:=fun X ih e st=>some (.exit id,e,st)
noncomputable def ZnB:QK:=fun X ih e st=>some (.ret,e,st)
noncomputable def Zs:QK:=fun X ih e st=>none
noncomputable def ZhR (c:Code):QK:=Code.casesOn (motive:=fun _=>QK) c Zml ZfP ZnC Zk5 Zit ZkX Zi9 Zl7 (fun _=>Zs) (fun _=>Zs) (fun _=>Zs) ZnB (fun _=>Zs)
noncomputable def KA (X:SX) (k:Nat):Code→Env→St→QR:=Nat.rec (motive:=fun _=>Code→Env→St→QR) (fun _ _ _=>none) (fun _ ih c e st=>ZhR c X ih e st) k
theorem Zd (X:SX):∀ (k:Nat) (c:Code) (e:Env) (st:St),KA X k c e st=GR X.P X.n X.rf X.F X.C X.call0 X.call k c e st
 | 0,c,e,st=>rfl
 | k+1,c,e,st=>by
  have ih:KA X k=GR X.P X.n X.rf X.F X.C X.call0 X.call k:=by funext c e st;exact Zd X k c e st
  show ZhR c X (KA X k) e st=_
  rw [ih]
  cases c with
  | skip=>rfl
  | region id ops draw =>
   simp only [GR,K0]
   obtain ⟨P,n,rf,F,C,call0,call⟩:=X
   show Pn (TX P F ops.toList e st) (Zcp P n F C call0 call ops.toList draw st.rows.length)=_
   rw [K0]
   unfold Zcp
   rw [K0]
   unfold Zhv ZhO
   rfl
  | seq a b =>
   simp only [GR]
   show Zco _ (GR _ _ _ _ _ _ _ k a e st)=_
   unfold Zco
   rfl
  | cond o a b=>rfl
  | block id b=>rfl
  | loop b=>rfl
  | rangeFunc g ps asg body=>rfl
  | exit id=>rfl
  | ret=>rfl
  | _=>rfl
noncomputable def SD (P:Program) (n:Nat) (rf:Bool) (F:Fl) (C:Cfg) (call0 call:Hm) (k:Nat) (c:Code) (e:Env) (st:St):QR:=KA ⟨P,n,rf,F,C,call0,call⟩ k c e st
theorem NG (P:Program) (n:Nat) (rf:Bool) (F:Fl) (C:Cfg) (call0 call:Hm) (k:Nat) (c:Code) (e:Env) (st:St):SD P n rf F C call0 call k c e st=GR P n rf F C call0 call k c e st:=Zd _ _ _ _ _
section
variable {P:Program} {w0:World} {n:Nat} {F:Fl} {C:Cfg} {call0 call:Hm} {M0:Mem} {W0:World} {ro:Option Nat}
theorem Ik (hn:n≤1000000) {Q:AQ} {c:Code} {st:St}:∀ (os:List Oper) (e:Env),Da P w0 n M0 W0 ro c Q (Kt os e) st→Da P w0 n M0 W0 ro c Q e st
 | [],e,h=>h
 | o::os,e,h=>by
  unfold Kt at h
  split at h
  ·split at h
   ·exact Ik hn os _ h
   ·exact QD _ hn (Ik hn os _ h)
  ·exact Ik hn os _ h
theorem Nz (hn:n≤1000000) {Q:AQ} {c:Code} {st:St} (l:List Oper) (e:Env) (h:Da P w0 n M0 W0 ro c Q (Np C l e) st):Da P w0 n M0 W0 ro c Q e st:=by
 unfold Np at h
 split at h
 ·exact QD _ hn (IV hn l _ h)
 ·exact IV hn l _ h
noncomputable def Ob (F:Fl) (call:Hm):Prop:=∀ fv args st v st',Fits F st→call fv args st=some (v,st')→Pre F st st'
noncomputable def HeadC (call:Hm):Prop:=∀ fv args st v st',call fv args st=some (v,st')→st'=st
theorem HeadC.keep {call:Hm} (h:HeadC call) (F:Fl):Ob F call:=fun _ _ _ _ _ a q => .of a (h _ _ _ _ _ q)
theorem Q0 {l:List Oper}:∀ (is:List Nat) (e:Env) (st:St) (e2:Env) (s2:St),Fits F st→J3 P n l is e st=some (e2,s2)→Pre F st s2
 | [],e,st,e2,s2,hf,h=>by cases h;exact .refl hf
 | i::is,e,st,e2,s2,hf,h=>by
  simp only [J3] at h
  split at h
  ·split at h
   ·split at h
    ·split at h
     ·exact (Pre.boxes _ hf).andThen fun a=>Q0 is _ _ _ _ a h
     ·cases h
    ·cases h
   ·cases h
  ·cases h
theorem OZ (h0:HeadC call0) (h1:Ob F call) {l:List Oper} {hh:Nat} {ef:List Nat} {e:Env} {st:St} {e2:Env} {st':St} (hf:Fits F st) (h:QH P n F C call0 call l hh ef e st=some (e2,st')):Pre F st st':=by
 unfold QH at h
 split at h
 ·rw [O7] at h
  split at h
  ·rename_i e1 s1 q
   have q1:=NS (h0.keep F) _ _ _ _ _ hf q
   split at h
   ·rename_i had
    rw [O7,LJ] at h
    have q2:=q1.trans (Q0 _ _ _ _ _ q1.2 had)
    exact q2.trans (NS h1 _ _ _ _ _ q2.2 h)
   ·cases h
  ·cases h
 ·cases h
theorem ZM (h1:Ob F call) {l:List Oper} {o:Oper} {ev:Env} {s:St} {v:AV} {s':St} (hf:Fits F s) (h:WF P l call F o ev s=some (v,s')):Pre F s s':=by
 unfold WF at h
 split at h
 ·rw [LM] at h
  obtain ⟨_,a⟩:=AY h
  obtain ⟨_,c⟩:=JY _ _ a
  exact h1 _ _ _ _ _ hf c
 ·rw [LM] at h
  obtain ⟨b,_,h⟩:=LR h
  have h:=Option.some.inj h
  have a:(evOp P (AK true l o ev) true s o.op).2.2=s':=congrArg Prod.snd h
  rw [←a]
  exact VS hf b
theorem QN (h1:Ob F call) {l:List Oper} {gl:TypeId→Nat→Option AV} {ms ef:List Nat} {e1:Env} {e2:Env} {s2:St}:∀ (is dn:List Nat) (ev:Env) (s:St),Fits F s→Le P n F gl call0 call l ms ef e1 is dn ev s=some (e2,s2)→Pre F s s2
 | [],dn,ev,s,hf,h=>by
  simp only [Le] at h
  split at h
  ·cases h;exact .refl hf
  ·cases h
 | i::is,dn,ev,s,hf,h=>by
  simp only [Le] at h
  split at h
  ·split at h
   ·split at h
    ·split at h
     ·rename_i hs
      have q:Pre F s _:=ZM h1 hf hs
      exact q.trans (QN h1 is _ _ _ q.2 h)
     ·cases h
    ·cases h
   ·cases h
  ·cases h
theorem Zdu (h1:Ob F call) {l:List Oper} {gl:TypeId→Nat→Option AV} {ef:List Nat} {e:Env} {st:St} {e2:Env} {st':St} (hf:Fits F st) (h:Zc7 P n F gl call0 call l ef e st=some (e2,st')):Pre F st st':=by
 unfold Zc7 at h
 split at h
 ·split at h
  ·exact QN h1 _ _ _ _ hf h
  ·cases h
 ·cases h
theorem Zd0 (h0:HeadC call0) (h1:Ob F call) {l:List Oper} {draw:Bool} {e:Env} {st:St} {e2:Env} {st':St} (hf:Fits F st) (h:ZT P n F C call0 call l draw e st=some (e2,st')):Pre F st st':=by
 unfold ZT at h
 split at h
 ·split at h
  ·exact NS h1 _ _ _ _ _ hf h
  ·exact NS h1 _ _ _ _ _ hf h
 ·split at h
  ·exact OZ h0 h1 hf h
  ·split at h
   ·exact OZ h0 h1 hf h
   ·split at h
    ·exact OZ h0 h1 hf h
    ·exact Zdu h1 hf h
theorem Lp (h0:HeadC call0) (h1:Ob F call) {rf:Bool}:∀ (k:Nat) (c:Code) (e:Env) (st:St) (x:Exit) (e':Env) (st':St),Fits F st→GR P n rf F C call0 call k c e st=some (x,e',st')→Pre F st st'
 | 0,_,_,_,_,_,_,_,h=>by cases h
 | k+1,c,e,st,x,e',st',hf,h=>by
  have ih:=Lp h0 h1 (rf:=rf) k
  cases c with
  | skip=>cases h;exact .refl hf
  | region id ops draw =>
   simp only [GR,K0] at h
   split at h
   rotate_left
   ·cases h
   rename_i e2 s2 h2
   rw [Y1] at h
   cases h
   have f:Pre F st (TX P F ops.toList e st).2:=Zde hf
   have d:=f.trans (ZcB (P:=P) (C:=C) (ops:=ops.toList) f.2)
   have p2:=d.trans (Zd0 h0 h1 d.2 h2)
   exact p2.trans (ZQ p2.2)
  | seq a b =>
   simp only [GR] at h
   split at h
   ·rename_i e1 s1 q
    have q1:=ih _ _ _ _ _ _ hf q
    exact q1.trans (ih _ _ _ _ _ _ q1.2 h)
   ·exact ih _ _ _ _ _ _ hf h
  | cond o a b =>
   simp only [GR] at h
   obtain ⟨_,h⟩:=AY h
   split at h
   ·exact ih _ _ _ _ _ _ hf h
   ·exact ih _ _ _ _ _ _ hf h
   ·cases h
  | block id b =>
   simp only [GR] at h
   split at h
   ·rename_i i e1 s1 q
    have q1:=ih _ _ _ _ _ _ hf q
    split at h
    ·cases h;exact q1
    ·cases h;exact q1
   ·exact ih _ _ _ _ _ _ hf h
  | loop b =>
   simp only [GR,Wy] at h
   split at h
   ·rename_i e1 s1 q
    have q1:=ih _ _ _ _ _ _ hf q
    exact q1.trans (ih _ _ _ _ _ _ q1.2 h)
   ·exact ih _ _ _ _ _ _ hf h
  | rangeFunc g ps asg body =>
   simp only [GR,LJ,G1,PV] at h
   split at h
   rotate_left
   ·cases h
   split at h
   rotate_left
   ·cases h
   split at h
   rotate_left
   ·cases h
   rename_i v s3 q
   have f:Pre F st (st.push ⟨e,n,ps,asg,body,.ready,none,none⟩) := .loops _ hf
   have d:=h1 _ _ _ _ _ f.2 q
   split at h
   rotate_left
   ·cases h
   split at h
   rotate_left
   ·cases h
   have p2:=fun j=>(f.trans d).trans (Pre.loop j d.2 hf.2.2)
   split at h<;>first | (cases h;exact p2 _) | cases h
  | exit id=>cases h;exact .refl hf
  | ret=>cases h;exact .refl hf
  | _=>cases h
noncomputable def Nh (P:Program) (w0:World) (call:Hm):Prop:=∀ fv args st v st',call fv args st=some (v,st')→Hu P w0 fv args st fun r s=>r=v∧s=st'
theorem Yn (hm:P.follows .mixedOrders=true) (hn:n≤1000000) (hH:HeadC call0) (hcall0:Nh P w0 call0) (hcall:Nh P w0 call) (hgl:∀ t g x,C.gl t g=some x→KE P w0 t g x)
  (l:List Oper) (draw:Bool) (id:Nat) (e:Env) (st:St) (e2:Env) (st':St) (h:ZT P n F C call0 call l draw e st=some (e2,st')):Da P w0 n M0 W0 ro (.region id l.toArray draw) (fun x e1 s1=>x = .normal∧e1=e2∧s1=st') e st:=by
 have f:∀ (d:Nat) (ef:List Nat),ef.Nodup→QH P n F C call0 call l d ef e st=some (e2,st')→Da P w0 n M0 W0 ro (.region id l.toArray true) (fun x e1 s1=>x = .normal∧e1=e2∧s1=st') e st:=by
  intro d ef k h1
  unfold QH at h1
  split at h1
  rotate_left
  ·cases h1
  rename_i hB
  unfold ZcQ at hB
  rw [Bool.and_eq_true] at hB
  rw [O7] at h1
  split at h1
  rotate_left
  ·cases h1
  rename_i e3 s3 h3
  split at h1
  rotate_left
  ·cases h1
  rename_i e4 s4 had
  rw [O7,LJ] at h1
  have sub:∀ {e0:Env},TZ e0 e→Da P w0 n M0 W0 ro (.region id l.toArray true) (fun x e1 s1=>x = .normal∧e1=e2∧s1=st') e0 st→Da P w0 n M0 W0 ro (.region id l.toArray true) (fun x e1 s1=>x = .normal∧e1=e2∧s1=st') e st :=
   fun hs h m M a w o=>h m M a w ⟨o.rel.sub hs,o.ext,o.marks⟩
  refine sub (ZR (Zdh l ef) e) (Nz (C:=C) hn l _ (Ik hn l _ (Zar hm d ef (Ly ((Bj ef 0 l).take d)+1) (Ly (l.drop d)+1) hB.1 hB.2 k ?_)))
  refine HB (K:=fun e1 s1=>∃ b s2',J3 P n l ef e1 s1=some (b,s2')∧MC P w0 n false l (fun b p=>Exit.normal=Exit.normal∧b=e2∧p=st') (Ly (l.drop d)+1) (l.drop d) b s2') (fun _=>hH) hcall0 hgl _ _ _ _ _ h3 ?_
  exact ⟨e4,s4,had,HB (K:=fun c i=>Exit.normal=Exit.normal∧c=e2∧i=st') (fun q=>by cases q) hcall hgl _ _ _ _ _ h1 ⟨rfl,rfl,rfl⟩⟩
 have j:∀ h,(Oi P l h).Nodup:=fun h=>List.filter_sublist.nodup List.nodup_range
 unfold ZT at h
 split at h
 ·split at h
  ·rename_i mt xs rest hl
   refine Zfx hl (Ly rest+1) ?_
   exact HB (K:=fun c i=>Exit.normal=Exit.normal∧c=e2∧i=st') (fun q=>by cases q) hcall hgl rest _ _ _ _ h ⟨rfl,rfl,rfl⟩
  ·have go:∀ c,mkE C l e=c→Da P w0 n M0 W0 ro (.region id l.toArray false) (fun x e1 s1=>x = .normal∧e1=e2∧s1=st') c st→Da P w0 n M0 W0 ro (.region id l.toArray false) (fun x e1 s1=>x = .normal∧e1=e2∧s1=st') e st:=by
    intro c q h
    rcases ZjF C l e with q' | q'
    ·rw [q'] at q;subst q;exact h
    ·rw [q'] at q;subst q;exact Nz (C:=C) hn l e (Ik hn l _ h)
   refine go _ rfl (Vj (Ly l+1) ?_)
   exact HB (K:=fun c i=>Exit.normal=Exit.normal∧c=e2∧i=st') (fun q=>by cases q) hcall hgl l _ _ _ _ h ⟨rfl,rfl,rfl⟩
 ·split at h
  ·exact f _ _ (j _) h
  ·split at h
   ·exact f _ _ (j _) h
   ·split at h
    ·exact f _ _ .nil h
    ·exact Nz (C:=C) hn l e (ZbT hm hH hcall0 hcall hgl h ⟨rfl,rfl,rfl⟩)
theorem J6 (hm:P.follows .mixedOrders=true) (hn:n≤1000000) (hH:HeadC call0) (hcall0:Nh P w0 call0) (hcall:Nh P w0 call) (hgl:∀ t g x,C.gl t g=some x→KE P w0 t g x) {rf:Bool} (hrf:rf=true→ro=none) :
  ∀ (k:Nat) (c:Code) (e:Env) (st:St) (x:Exit) (e':Env) (st':St) (Q:AQ),GR P n rf F C call0 call k c e st=some (x,e',st')→Q x e' st'→Da P w0 n M0 W0 ro c Q e st:=by
 intro k
 induction k using Nat.strongRecOn with
 | _ k ih =>
 intro c e st x e' st' Q h hq
 cases k with
 | zero=>cases h
 | succ k =>
 have ihk:=ih k (Nat.lt_succ_self k)
 cases c with
 | skip=>cases h;exact C7 hq
 | region id ops draw =>
  have y:ops=ops.toList.toArray:=by simp
  rw [y]
  simp only [GR,K0] at h
  split at h
  rotate_left
  ·cases h
  rename_i e2 s2 h2
  rw [Y1] at h
  cases h
  refine Qy (ZU w0 P F ops.toList e st) (Qy (Z2 w0 P F C ops.toList _) (MP (Yn hm hn hH hcall0 hcall hgl ops.toList draw id _ _ e2 s2 h2) ?_))
  rintro x e1 s1 ⟨rfl,rfl,rfl⟩
  exact ⟨_,_,(Uy w0 C.m ops.toList e1 s1).trans (X4 w0 F ops.toList st.rows.length _ s1),hq⟩
 | seq a b =>
  simp only [GR] at h
  refine Am fun K p=>?_
  split at h
  ·rename_i e1 s1 h1
   exact ihk a e st _ _ _ _ h1 (p _ _ (ihk b _ _ _ _ _ _ h hq))
  ·rename_i hne
   refine ihk a e st _ _ _ _ h ?_
   cases x with
   | normal=>exact absurd h (hne _ _)
   | _=>exact hq
 | cond o a b =>
  simp only [GR] at h
  obtain ⟨ho,h⟩:=AY h
  split at h
  ·rename_i hv
   exact BN true ho hv (fun _=>ihk a _ _ _ _ _ _ h hq) (fun q=>by cases q)
  ·rename_i hv
   exact BN false ho hv (fun q=>by cases q) (fun _=>ihk b _ _ _ _ _ _ h hq)
  ·cases h
 | block id b =>
  simp only [GR] at h
  refine Ar ?_
  split at h
  ·rename_i i e1 s1 h1
   split at h
   ·rename_i q
    cases h
    refine ihk b _ _ _ _ _ _ h1 ?_
    simp only [LC]
    rw [Ah q];exact hq
   ·rename_i q
    cases h
    refine ihk b _ _ _ _ _ _ h1 ?_
    simp only [LC]
    rw [Ai q];exact hq
  ·rename_i hne
   refine ihk b _ _ _ _ _ _ h ?_
   cases x with
   | exit i=>exact absurd h (hne _ _ _)
   | _=>exact hq
 | loop b =>
  refine Ax (fun m e s=>m≤k+1∧GR P n rf F C call0 call m (.loop b) e s=some (x,e',st')) (k+1) ⟨Nat.le_refl _,h⟩ ?_
  rintro m e1 s1 ⟨D,h1⟩ K p
  cases m with
  | zero=>cases h1
  | succ m =>
   simp only [GR,Wy] at h1
   have f:=ih m (by omega)
   refine fun z M a w u=>(?_:Da P w0 n M0 W0 ro b _ (Vm C.m e1) s1) z M a w ⟨u.rel.sub (Z3 C.m e1),u.ext,u.marks⟩
   split at h1
   ·rename_i e2 s2 h2
    exact f b _ _ _ _ _ _ h2 (p m _ _ (Nat.lt_succ_self m) ⟨by omega,h1⟩)
   ·rename_i hne
    refine f b _ _ _ _ _ _ h1 ?_
    cases x with
    | normal=>exact absurd h1 (hne _ _)
    | _=>exact hq
 | rangeFunc g ps asg body =>
  simp only [GR,LJ,G1,PV] at h
  split at h
  rotate_left
  ·cases h
  rename_i hg
  obtain rfl:=hrf hg.1
  split at h
  rotate_left
  ·cases h
  rename_i gf caps hgv
  split at h
  rotate_left
  ·cases h
  rename_i v s3 hc
  have hv:=hcall _ _ _ _ _ hc
  split at h
  rotate_left
  ·cases h
  rename_i la hla
  split at h
  rotate_left
  ·cases h
  rename_i hk
  have l:la.keys=none:=Option.isNone_iff_eq_none.1 hk.1
  have r:la.st ≠ .busy:=fun q=>by have:=hk.2;rw [q] at this;cases this
  have d:=fun hq j=>Xd (M0:=M0) (W0:=W0) (Q:=Q) hg.2 hgv (ACalls.mono hv fun _ _ q=>q.2) hla l r hq j
  split at h
  ·rename_i hp
   cases h
   refine d (fun ex q=>?_) ⟨.normal,by rw [hp];rfl⟩
   rw [hp] at q
   cases ex<;>first | exact hq | cases q
  ·rename_i hp
   cases h
   refine d (fun ex q=>?_) ⟨.ret,by rw [hp];rfl⟩
   rw [hp] at q
   cases ex<;>first | exact hq | cases q
  ·rename_i id hp
   cases h
   refine d (fun ex q=>?_) ⟨.exit id,by rw [hp];rfl⟩
   rw [hp] at q
   cases ex<;>first | (cases q;done) | (cases q;exact hq)
  ·cases h
 | exit id=>cases h;exact Iy hq
 | ret=>cases h;exact BB hq
 | _=>cases h
end
noncomputable def Zoo (P:Program) (e:Env) (st:St):ResultVar→AV
 | .tmp t=>Aq e (.tmp t)
 | .cell t ty=>(evOp P e true st (.load ty (.tmp t))).2.1
noncomputable def ZcZ (P:Program) (rs:List ResultVar) (e:Env) (st:St):List Nat:=rs.flatMap fun r=>Yo 60 (Zoo P e st r)
noncomputable def Zl3 (rs:List ResultVar):List Nat:=rs.map fun r=>match r with | .tmp t=>t | .cell t _=>t
noncomputable def Zjd (P:Program) (F:Fl) (rs:List ResultVar) (e:Env) (st:St):Bool := !((ZcZ P rs e st).filter (Nat.ble F.r)).isEmpty
noncomputable def KJ (P:Program) (F:Fl) (keep:Bool) (rs:List ResultVar) (e:Env) (st:St):Env × St:=if keep=true then (e,st) else fE (DD (Zl3 rs) e) fun e=>I5 F (ZcZ P rs) 40 e st
theorem ZK (w0:World) (P:Program) (F:Fl) (keep:Bool) (rs:List ResultVar) (e:Env) (st:St):ConvE w0 e st (KJ P F keep rs e st).1 (KJ P F keep rs e st).2:=by
 unfold KJ
 split
 ·exact .refl _ _ _
 ·rw [O7]
  exact ConvE.trans (fun n M a w h=>⟨M,.refl _ _ _,h.sub (EW _ e)⟩) (Kx w0 F _ _ _ _)
theorem Ve {P:Program} {F:Fl} {keep:Bool} {rs:List ResultVar} {e:Env} {st:St} (hf:Fits F st):Pre F st (KJ P F keep rs e st).2:=by
 unfold KJ
 split
 ·exact .refl hf
 ·rw [O7];exact Lu _ _ _ _ hf
noncomputable def Zf:List Bool:=List.replicate 40 false
noncomputable def Zf2 (st:St) (r:AV) (s:St):AV × St :=
 if Nat.ble st.boxes.length s.boxes.length&&Nat.ble st.rows.length s.rows.length&&Nat.ble st.loops.length s.loops.length&&G4 st.boxes.length st.rows.length st.loops.length 60 r&&Y3 st.boxes.length st.rows.length st.loops.length (s.cut st.boxes.length st.rows.length st.loops.length)
 then (r,s.cut st.boxes.length st.rows.length st.loops.length) else (r,s)
noncomputable def fQ {β:Type} (deepq:Bool) (v:AV) (k:AV→β):β:=match deepq with | true=>fA 60 v k | false=>fT v k
theorem Zbk {β:Type} (deepq:Bool) (v:AV) (k:AV→β):fQ deepq v k=k v:=by
 cases deepq
 ·exact Zk9 _ _
 ·exact Og 60 v k
noncomputable def Pv {α:Type} (a b:List α):Bool:=JO a fun n=>JO b fun m=>Nat.ble (Nat.add n 40) m
noncomputable def Ziy (g:Bool) (st:St) (r:AV) (s:St):AV × St:=match g with | true=>Zg5 st r s | false=>(r,s)
noncomputable def ZjG (g:Bool) (st:St) (r:AV) (s:St):AV × St:=match g with | true=>Zf2 st r s | false=>(r,s)
noncomputable def Zgr (deepq:Bool) (x:AV × St):Option (AV × St):=match x with | (v,s)=>fQ deepq v fun v=>Wn s fun s=>some (v,s)
theorem L8 (deepq:Bool) (x:AV × St):Zgr deepq x=some x:=by
 obtain ⟨v,s⟩:=x
 show (fQ deepq v fun v=>Wn s fun s=>some (v,s))=_
 rw [Zbk,LJ]
noncomputable def Xh (P:Program) (pu keep deepq:Bool) (st:St) (rs:List ResultVar) (x:Env × St):Option (AV × St) :=
 if ∀ r∈rs,resOk P x.1 x.2 r then match pu with
  | true=>fQ deepq (NA (rs.map (Sr P x.1 x.2))).pubA fun v=>if G4 st.boxes.length st.rows.length st.loops.length 60 v=true then some (v,st) else none
  | false=>match keep with
   | true=>Zgr deepq (ZjG (Pv st.boxes x.2.boxes||Pv st.rows x.2.rows) st (pubS Zf (NA (rs.map (UY P x.1 x.2)))) x.2)
   | false=>Zgr deepq (Ziy (Pv st.boxes x.2.boxes||Pv st.rows x.2.rows) st (NA (rs.map (Sr P x.1 x.2))) x.2)
 else none
theorem ZcL {F:Fl} {st s:St} {r:AV} (hf:Fits F st) (h:Pre F st s):Pre F st (Zg5 st r s).2:=by
 unfold Zg5
 split
 ·rename_i hq
  simp only [Bool.and_eq_true] at hq
  obtain ⟨⟨⟨⟨q1,q2⟩,q3⟩,a⟩,c⟩:=hq
  have q1:=Nat.le_of_ble_eq_true q1
  have q2:=Nat.le_of_ble_eq_true q2
  have q3:=Nat.le_of_ble_eq_true q3
  refine ⟨⟨?_,?_,?_⟩,?_,?_,?_⟩
  ·show (s.boxes.take st.boxes.length).take F.b=_
   rw [List.take_take,Nat.min_eq_left hf.1]
   exact h.1.1
  ·show (s.rows.take st.rows.length).take F.r=_
   rw [List.take_take,Nat.min_eq_left hf.2.1]
   exact h.1.2.1
  ·show (s.loops.take st.loops.length).take F.l=_
   rw [List.take_take,Nat.min_eq_left hf.2.2]
   exact h.1.2.2
  ·have:=hf.1;simp [St.cut];omega
  ·have:=hf.2.1;simp [St.cut];omega
  ·have:=hf.2.2;simp [St.cut];omega
 ·exact h
theorem ACalls.finPure {P:Program} {w0:World} {f:FuncId} {args:List AV} {st s0:St} {v0:AV} (h:ACalls P w0 f args st fun r s=>r=v0∧s=s0) (hp:Pre st.fl st s0) (hu:Under st.boxes.length st.rows.length st.loops.length v0.pubA):ACalls P w0 f args st fun r s=>r=v0.pubA∧s=st:=by
 refine ⟨h.1,fun M w d a e=>(h.2 M w d a e).mono ?_⟩
 rintro en o ⟨v,M',r,c,n,⟨rfl,rfl⟩,h3,h4,h5⟩
 have j:=hp.cut
 obtain ⟨k,i,g⟩:=hp.2
 have m:=h4.cut k i g (by rw [show c.cut st.fl.b st.fl.r st.fl.l=st from j];exact a.calm)
 rw [show c.cut st.fl.b st.fl.r st.fl.l=st from j] at m
 exact ⟨v,M'.cut st.boxes.length st.rows.length st.loops.length,r.pubA,st,n,⟨rfl,rfl⟩,h3.cut (by have:=a.N;omega) (by have:=a.NR;omega) (by have:=a.loop.NL;omega) (by rw [h4.loop.NL];exact g) (by rw [h4.N];exact k) (by rw [h4.NR];exact i),m,h5.pubA.cut (by rw [h4.loop.NL];exact g) hu⟩
theorem ZbE {F:Fl} {st s:St} {r:AV} (hf:Fits F st) (h:Pre F st s):Pre F st (Zf2 st r s).2:=by
 unfold Zf2
 split
 ·rename_i hq
  simp only [Bool.and_eq_true] at hq
  obtain ⟨⟨⟨⟨q1,q2⟩,q3⟩,a⟩,c⟩:=hq
  have q1:=Nat.le_of_ble_eq_true q1
  have q2:=Nat.le_of_ble_eq_true q2
  have q3:=Nat.le_of_ble_eq_true q3
  refine ⟨⟨?_,?_,?_⟩,?_,?_,?_⟩
  ·show (s.boxes.take st.boxes.length).take F.b=_
   rw [List.take_take,Nat.min_eq_left hf.1]
   exact h.1.1
  ·show (s.rows.take st.rows.length).take F.r=_
   rw [List.take_take,Nat.min_eq_left hf.2.1]
   exact h.1.2.1
  ·show (s.loops.take st.loops.length).take F.l=_
   rw [List.take_take,Nat.min_eq_left hf.2.2]
   exact h.1.2.2
  ·have:=hf.1;simp [St.cut];omega
  ·have:=hf.2.1;simp [St.cut];omega
  ·have:=hf.2.2;simp [St.cut];omega
 ·exact h
theorem Zcm {F:Fl} {st s:St} {r:AV} (g:Bool) (hf:Fits F st) (h:Pre F st s):Pre F st (Ziy g st r s).2:=by
 cases g
 ·exact h
 ·exact ZcL hf h
theorem Zc6 {F:Fl} {st s:St} {r:AV} (g:Bool) (hf:Fits F st) (h:Pre F st s):Pre F st (ZjG g st r s).2:=by
 cases g
 ·exact h
 ·exact ZbE hf h
theorem ACalls.finU {P:Program} {w0:World} {f:FuncId} {args:List AV} {st:St} {Post:AV→St→Prop} (h:ACalls P w0 f args st fun r s=>st.boxes.length≤s.boxes.length∧st.rows.length≤s.rows.length∧st.loops.length≤s.loops.length∧Calm st.boxes.length st.rows.length st.loops.length (s.cut st.boxes.length st.rows.length st.loops.length)∧Under st.boxes.length st.rows.length st.loops.length r∧Post r (s.cut st.boxes.length st.rows.length st.loops.length)):ACalls P w0 f args st Post:=by
 refine ⟨h.1,fun M w b a c=>(h.2 M w b a c).mono ?_⟩
 rintro en n ⟨v,M',r,k,j,⟨g,d,e,l,m,i⟩,h3,h4,h5⟩
 exact ⟨v,M'.cut st.boxes.length st.rows.length st.loops.length,r,_,j,i,h3.cut (by have:=a.N;omega) (by have:=a.NR;omega) (by have:=a.loop.NL;omega) (by rw [h4.loop.NL];exact e) (by rw [h4.N];exact g) (by rw [h4.NR];exact d),h4.cut g d e l,h5.cut (by have:=h4.loop.NL;omega) m⟩
abbrev Vz:=Option Fl→FuncId→List AV→St→Option (AV × St)
noncomputable def S5 (C:Cfg) (rx:Vz) (F:Fl):Hm:=fun fv args st=>match fv with
 | .clo f cs=>if C.im f=true then rx (some F) f (args++cs) st else rx none f (args++cs) st
 | _=>none
noncomputable def JU (rx:Vz):Hm:=fun fv args st=>match fv with
 | .clo f cs=>rx none f (args++cs) st
 | _=>none
noncomputable def X6 (P:Program) (C:Cfg) (rx:Vz) (F:Fl) (i:Nat) (x:List AV) (st:St):Option (AV × St) :=
 match st.loops[i]? with
 | some la=>if la.keys.isNone=true∧Zfz la.st=true∧la.pend.isNone=true∧x.length=la.ps.size∧(∀ p∈la.ps.toList,p<la.n)∧la.n≤1000000∧F.b≤st.boxes.length∧F.r≤st.rows.length then
   fEN (Pl la.e la.ps.toList x) fun e0=>match SD P la.n false ⟨F.b,F.r,i+1⟩ C (JU rx) (S5 C rx ⟨F.b,F.r,i+1⟩) C.q la.asg e0 st with
   | some (.normal,e1,s1)=>Wn { s1 with loops:=s1.loops.set i (Ub la .busy none) } fun s1=>match SD P la.n false ⟨F.b,F.r,i+1⟩ C (JU rx) (S5 C rx ⟨F.b,F.r,i+1⟩) C.q la.body e1 s1 with
    | some (ex,_,s2)=>match JZ ex with
     | some jump=>fB jump.isNone fun jn=>Wn { s2 with loops:=s2.loops.set i (Ub la (if jn then .ready else .done) jump) } fun s3=>some (.val (.bool jn),s3)
     | none=>none
    | none=>none
   | _=>none
  else none
 | none=>none
noncomputable def LF (P:Program) (C:Cfg) (rx:Vz) (F:Fl):Hm:=fun fv args st=>match fv with
 | .clo f cs=>if C.im f=true then rx (some F) f (args++cs) st else rx none f (args++cs) st
 | .yld i=>if Nat.ble F.l i=true then X6 P C.m0 rx F i args st else none
 | _=>none
noncomputable def flK {β:Type} (mo:Option Fl) (st:St) (k:Fl→β):β:=Option.rec (motive:=fun _=>β) (JO st.boxes fun b=>JO st.rows fun r=>JO st.loops fun l=>k ⟨b,r,l⟩) (fun F=>k F) mo
theorem UP {β:Type} (mo:Option Fl) (st:St) (k:Fl→β):flK mo st k=k (mo.getD st.fl):=by
 cases mo with
 | none=>show JO st.boxes (fun b=>JO st.rows fun r=>JO st.loops fun l=>k ⟨b,r,l⟩)=_;rw [G1,G1,G1];rfl
 | some F=>rfl
noncomputable def T9 (P:Program) (C:Cfg) (mo:Option Fl) (f:FuncId) (fn:Func) (F:Fl) (st:St) (e:Env) (s:St):Option (AV × St):=Xh P mo.isNone (mo.isSome&&C.kp f) (Zjd P F fn.results.toList e s) st fn.results.toList (KJ P F (mo.isSome&&C.kp f) fn.results.toList e s)
noncomputable def Vr (P:Program) (C:Cfg) (rx:Vz) (mo:Option Fl) (f:FuncId) (fn:Func) (c:Code) (args:List AV) (st:St) (F:Fl):Option (AV × St) :=
 fEN (Az 0 args) fun e0=>match SD P fn.ntmps true F (C.at f (JD fn c)) (JU rx) (LF P (C.at f (JD fn c)) rx F) C.q c e0 st with
  | some (.normal,e',s')=>T9 P C mo f fn F st e' s'
  | some (.ret,e',s')=>T9 P C mo f fn F st e' s'
  | _=>none
noncomputable def ZdW (x:Option (AV × St)) (k:Option (AV × St)):Option (AV × St):=match x with
 | some y=>Zgr false y
 | none=>k
noncomputable def ZkS (C:Cfg) (mo:Option Fl) (f:FuncId) (args:List AV) (st:St):Option (AV × St):=Option.rec (motive:=fun _=>Option (AV × St)) none (fun F=>C.exs F f args st) mo
noncomputable def I1 (P:Program) (C:Cfg):Nat→Vz
 | 0=>fun _ _ _ _=>none
 | k+1=>fun mo f args st=>match C.ext f args with
  | some v=>some (v,st)
  | none=>ZdW (ZkS C mo f args st) <| match P.funcs[f]? with
   | some fn=>match fn.body with
    | some c =>
     if fn.name ≠ "runtime.NumGoroutine" ∧ args.length≤fn.ntmps∧fn.ntmps≤1000000 then
      flK mo st (Vr P C (I1 P C k) mo f fn c args st)
     else none
    | none=>none
   | none=>none
structure RunOk (P:Program) (w0:World) (rx:Vz):Prop where
 ok:∀ mo f args st v st',rx mo f args st=some (v,st')→ACalls P w0 f args st fun r s=>r=v∧s=st'
 pre:∀ F f args st v st',Fits F st→rx (some F) f args st=some (v,st')→Pre F st st'
 hold:∀ f args st v st',rx none f args st=some (v,st')→st'=st
section
variable {P:Program} {w0:World} {C:Cfg} {rx:Vz}
theorem Vq (h:RunOk P w0 rx) (F:Fl):Nh P w0 (S5 C rx F):=by
 intro b args st v a q
 unfold S5 at q
 split at q
 ·split at q
  ·exact h.ok _ _ _ _ _ _ q
  ·exact h.ok _ _ _ _ _ _ q
 ·cases q
theorem Qb (h:RunOk P w0 rx) (F:Fl):Ob F (S5 C rx F):=by
 intro c args st v b a q
 unfold S5 at q
 split at q
 ·split at q
  ·exact h.pre _ _ _ _ _ _ a q
  ·exact .of a (h.hold _ _ _ _ _ q)
 ·cases q
theorem NX (h:RunOk P w0 rx):Nh P w0 (JU rx):=by
 intro b args st v a q
 unfold JU at q
 split at q
 ·exact h.ok _ _ _ _ _ _ q
 ·cases q
theorem FB (h:RunOk P w0 rx):HeadC (JU rx):=by
 intro b args st v a q
 unfold JU at q
 split at q
 ·exact h.hold _ _ _ _ _ q
 ·cases q
theorem Pi (hm:P.follows .mixedOrders=true) (hgl:∀ t g x,C.gl t g=some x→KE P w0 t g x) (h:RunOk P w0 rx) {F:Fl} {i:Nat} {x:List AV} {st:St} {v:AV} {st':St} (q:X6 P C rx F i x st=some (v,st')) :
  (Nb P w0 i x st fun r s=>r=v∧s=st')∧(F.l≤i→Fits F st→Pre F st st'):=by
 unfold X6 at q
 simp only [NG] at q
 split at q
 rotate_left
 ·cases q
 rename_i la hla
 have d:i<st.loops.length:=(Aj.1 hla).1
 split at q
 rotate_left
 ·cases q
 rename_i hc
 obtain ⟨z,c2,u,n,p,j,o,w⟩:=hc
 rw [QC] at q
 split at q
 rotate_left
 ·cases q
 rename_i e1 s1 h1
 rw [LJ,PV] at q
 split at q
 rotate_left
 ·cases q
 rename_i ex e2 s2 h2
 split at q
 rotate_left
 ·cases q
 rename_i jump hj
 rw [Jy,LJ,PV] at q
 cases q
 have c:=Lp (F:=⟨F.b,F.r,i+1⟩) (FB h) (Qb h _) _ _ _ _ _ _ _ ⟨o,w,d⟩ h1
 have a:i<s1.loops.length:=Nat.lt_of_lt_of_le (Nat.lt_succ_self i) c.2.2.2
 have e:Fits ⟨F.b,F.r,i+1⟩ { s1 with loops:=s1.loops.set i { la with st := .busy,pend:=none } }:=⟨c.2.1,c.2.2.1,by simp only [List.length_set];exact a⟩
 have f:=Lp (F:=⟨F.b,F.r,i+1⟩) (FB h) (Qb h _) _ _ _ _ _ _ _ e h2
 have y:la.st = .ready:=by
  cases hs:la.st<;>first | rfl | (rw [hs] at c2;cases c2)
 have hs1:s1.loops[i]? = some la:=(c.get (Nat.lt_succ_self i)).trans hla
 have hs2:s2.loops[i]? = some { la with st := .busy,pend:=none }:=by
  rw [f.get (Nat.lt_succ_self i)]
  exact List.getElem?_set_self a
 refine ⟨ZgH hla (Option.isNone_iff_eq_none.1 z) y (Option.isNone_iff_eq_none.1 u) n p (fun M0 W0 l=>J6 hm j (FB h) (NX h) (Vq h _) hgl (fun q=>by cases q) _ _ _ _ _ _ _ _ h1 ⟨rfl,rfl,rfl⟩) hs1
  (fun M0 W0 l=>J6 hm j (FB h) (NX h) (Vq h _) hgl (fun q=>by cases q) _ _ _ _ _ _ _ _ h2 ⟨rfl,rfl⟩) hs2 hj,fun f1 hf=>?_⟩
 have le:F.le ⟨F.b,F.r,i+1⟩:=⟨Nat.le_refl _,Nat.le_refl _,Nat.le_succ_of_le f1⟩
 have k:=c.mono le
 have D:Pre F s1 { s1 with loops:=s1.loops.set i { la with st := .busy,pend:=none } } := .loop _ k.2 f1
 have m:=f.mono le
 exact ((k.trans D).trans m).trans (.loop _ m.2 f1)
theorem Vh (hm:P.follows .mixedOrders=true) (hgl:∀ t g x,C.gl t g=some x→KE P w0 t g x) (h:RunOk P w0 rx) (F:Fl):Nh P w0 (LF P C rx F):=by
 intro b args st v a q
 unfold LF at q
 split at q
 ·split at q
  ·exact h.ok _ _ _ _ _ _ q
  ·exact h.ok _ _ _ _ _ _ q
 ·split at q
  ·exact (Pi (C:=C.m0) hm hgl h q).1
  ·cases q
 ·cases q
theorem Rq (hm:P.follows .mixedOrders=true) (hgl:∀ t g x,C.gl t g=some x→KE P w0 t g x) (h:RunOk P w0 rx) (F:Fl):Ob F (LF P C rx F):=by
 intro c args st v b a q
 unfold LF at q
 split at q
 ·split at q
  ·exact h.pre _ _ _ _ _ _ a q
  ·exact .of a (h.hold _ _ _ _ _ q)
 ·split at q
  ·rename_i hi
   exact (Pi (C:=C.m0) hm hgl h q).2 (Nat.le_of_ble_eq_true hi) a
  ·cases q
 ·cases q
theorem Zy (hm:P.follows .mixedOrders=true) (hgl:∀ t g x,C.gl t g=some x→KE P w0 t g x)
  (hext:∀ f args v st,C.ext f args=some v→ACalls P w0 f args st fun r s=>r=v∧s=st)
  (hexs:∀ F f args st v st',C.exs F f args st=some (v,st')→(ACalls P w0 f args st fun r s=>r=v∧s=st')∧(Fits F st→Pre F st st')):∀ k:Nat,RunOk P w0 (I1 P C k)
 | 0=>⟨fun _ _ _ _ _ _ h=>(nomatch h),fun _ _ _ _ _ _ _ h=>(nomatch h),fun _ _ _ _ _ h=>(nomatch h)⟩
 | k+1=>by
  have ih:=Zy hm hgl hext hexs k
  refine ⟨fun mo f args st v st' h=>?_,fun F f args st v st' hf h=>?_,fun f args st v st' h=>?_⟩
  ·rw [I1] at h;simp only [UP,Vr,T9,NG] at h
   split at h
   ·rename_i r hv
    cases h
    exact hext _ _ _ _ hv
   unfold ZdW at h
   split at h
   ·rename_i y hy
    rw [L8] at h
    cases h
    cases mo with
    | none=>cases hy
    | some F=>exact (hexs F _ _ _ _ _ hy).1
   split at h
   rotate_left
   ·cases h
   rename_i fn hf
   split at h
   rotate_left
   ·cases h
   rename_i c hb
   split at h
   rotate_left
   ·cases h
   rename_i hc
   obtain ⟨n,m,l⟩:=hc
   have fin:∀ (x:Exit) (e':Env) (s':St),(x = .normal∨x = .ret)→GR P fn.ntmps true (mo.getD st.fl) (C.at f (JD fn c)) (JU (I1 P C k)) (LF P (C.at f (JD fn c)) (I1 P C k) (mo.getD st.fl)) C.q c (Az 0 args) st=some (x,e',s')→Xh P mo.isNone (mo.isSome&&C.kp f) (Zjd P (mo.getD st.fl) fn.results.toList e' s') st fn.results.toList (KJ P (mo.getD st.fl) (mo.isSome&&C.kp f) fn.results.toList e' s')=some (v,st') →
     ACalls P w0 f args st fun r s=>r=v∧s=st':=by
    intro x e' s' E b hret
    have hcv:=ZK w0 P (mo.getD st.fl) (mo.isSome&&C.kp f) fn.results.toList e' s'
    have hpre:mo=none→Pre st.fl st (KJ P (mo.getD st.fl) (mo.isSome&&C.kp f) fn.results.toList e' s').2:=fun hmo=>by
     subst hmo
     have j:=Lp (FB ih) (Rq (C:=C.at f (JD fn c)) hm hgl ih st.fl) _ _ _ _ _ _ _ (Fits.self st) b
     exact j.trans (Ve j.2)
    generalize KJ P (mo.getD st.fl) (mo.isSome&&C.kp f) fn.results.toList e' s'=z at hret hcv hpre
    unfold Xh at hret
    split at hret
    rotate_left
    ·cases hret
    rename_i hres
    have base:∀ a:AV→St→Prop,a (NA (fn.results.toList.map (Sr P z.1 z.2))) z.2→ACalls P w0 f args st a:=fun a u =>
     DO (rs:=fn.results.toList) hf hb (by simp) rfl (enters_of hf hb n) m (fun M0 W0 _ _ _ _ _=>MP (Q':=fun o e1 i=>o=x∧e1=e'∧i=s') (J6 (C:=C.at f (JD fn c)) hm l (FB ih) (NX ih) (Vh (C:=C.at f (JD fn c)) hm hgl ih _) hgl (fun _=>rfl) C.q c _ _ _ _ _ _ b ⟨rfl,rfl,rfl⟩) (by
      rintro o e1 i ⟨rfl,rfl,rfl⟩
      refine ⟨z.1,z.2,hcv,?_⟩
      rcases E with rfl | rfl<;>exact ⟨hres,u⟩))
    cases mo with
    | none =>
     simp only [Option.isNone] at hret
     rw [Zbk] at hret
     split at hret
     ·rename_i hu
      cases hret
      exact ACalls.finPure (base _ ⟨rfl,rfl⟩) (hpre rfl) (Ew _ _ hu)
     ·cases hret
    | some F =>
     simp only [Option.isNone] at hret
     split at hret
     ·have d:∀ a:AV→St→Prop,a (pubS Zf (NA (fn.results.toList.map (UY P z.1 z.2)))) z.2→ACalls P w0 f args st a:=fun a u =>
       XC (mk:=Zf) (rs:=fn.results.toList) hf hb (by simp) rfl (enters_of hf hb n) m (fun M0 W0 _ _ _ _ _=>MP (Q':=fun o e1 i=>o=x∧e1=e'∧i=s') (J6 (C:=C.at f (JD fn c)) hm l (FB ih) (NX ih) (Vh (C:=C.at f (JD fn c)) hm hgl ih _) hgl (fun _=>rfl) C.q c _ _ _ _ _ _ b ⟨rfl,rfl,rfl⟩) (by
        rintro o e1 i ⟨rfl,rfl,rfl⟩
        refine ⟨z.1,z.2,hcv,?_⟩
        rcases E with rfl | rfl<;>exact ⟨hres,u⟩))
      rw [L8] at hret
      have hcut:=Option.some.inj hret
      unfold ZjG at hcut
      split at hcut
      rotate_left
      ·cases hcut
       exact d _ ⟨rfl,rfl⟩
      unfold Zf2 at hcut
      split at hcut
      ·rename_i hq
       simp only [Bool.and_eq_true] at hq
       obtain ⟨⟨⟨⟨q1,q2⟩,q3⟩,w⟩,p⟩:=hq
       cases hcut
       exact ACalls.finU (d _ ⟨Nat.le_of_ble_eq_true q1,Nat.le_of_ble_eq_true q2,Nat.le_of_ble_eq_true q3,RH p,Ew _ _ w,rfl,rfl⟩)
      ·cases hcut
       exact d _ ⟨rfl,rfl⟩
     rw [L8] at hret
     have hcut:=Option.some.inj hret
     unfold Ziy at hcut
     split at hcut
     rotate_left
     ·cases hcut
      exact base _ ⟨rfl,rfl⟩
     unfold Zg5 at hcut
     split at hcut
     ·rename_i hq
      simp only [Bool.and_eq_true] at hq
      obtain ⟨⟨⟨⟨q1,q2⟩,q3⟩,w⟩,p⟩:=hq
      cases hcut
      exact ACalls.finP (base _ ⟨Nat.le_of_ble_eq_true q1,Nat.le_of_ble_eq_true q2,Nat.le_of_ble_eq_true q3,RH p,Ew _ _ w,rfl,rfl⟩)
     ·cases hcut
      exact base _ ⟨rfl,rfl⟩
   rw [QC] at h
   split at h
   ·rename_i e' s' hr
    exact fin _ _ _ (.inl rfl) hr h
   ·rename_i e' s' hr
    exact fin _ _ _ (.inr rfl) hr h
   ·cases h
  ·rw [I1] at h;simp only [UP,Vr,T9,NG] at h
   split at h
   ·rename_i r hv
    cases h
    exact .refl hf
   unfold ZdW at h
   split at h
   ·rename_i y hy
    rw [L8] at h
    cases h
    exact (hexs F _ _ _ _ _ hy).2 hf
   split at h
   rotate_left
   ·cases h
   rename_i fn hfn
   split at h
   rotate_left
   ·cases h
   rename_i c hb
   split at h
   rotate_left
   ·cases h
   have fin:∀ (x:Exit) (e':Env) (s':St),GR P fn.ntmps true F (C.at f (JD fn c)) (JU (I1 P C k)) (LF P (C.at f (JD fn c)) (I1 P C k) F) C.q c (Az 0 args) st=some (x,e',s')→Xh P false (C.kp f) (Zjd P F fn.results.toList e' s') st fn.results.toList (KJ P F (C.kp f) fn.results.toList e' s')=some (v,st')→Pre F st st':=by
    intro x e' s' b hret
    have j:=Lp (FB ih) (Rq (C:=C.at f (JD fn c)) hm hgl ih F) _ _ _ _ _ _ _ hf b
    have D:=j.trans (Ve (P:=P) (keep:=C.kp f) (rs:=fn.results.toList) (e:=e') j.2)
    unfold Xh at hret
    split at hret
    ·simp only at hret
     split at hret
     ·rw [L8] at hret
      have:=Zc6 (r:=pubS Zf (NA (fn.results.toList.map (UY P (KJ P F (C.kp f) fn.results.toList e' s').1 (KJ P F (C.kp f) fn.results.toList e' s').2)))) (Pv st.boxes (KJ P F (C.kp f) fn.results.toList e' s').2.boxes||Pv st.rows (KJ P F (C.kp f) fn.results.toList e' s').2.rows) hf D
      rw [Option.some.inj hret] at this
      exact this
     rw [L8] at hret
     have:=Zcm (Pv st.boxes (KJ P F (C.kp f) fn.results.toList e' s').2.boxes||Pv st.rows (KJ P F (C.kp f) fn.results.toList e' s').2.rows) (r:=NA (fn.results.toList.map (Sr P (KJ P F (C.kp f) fn.results.toList e' s').1 (KJ P F (C.kp f) fn.results.toList e' s').2))) hf D
     rw [Option.some.inj hret] at this
     exact this
    ·cases hret
   rw [QC] at h
   split at h
   ·rename_i e' s' hr
    exact fin _ _ _ hr (by simpa using h)
   ·rename_i e' s' hr
    exact fin _ _ _ hr (by simpa using h)
   ·cases h
  ·rw [I1] at h;simp only [UP,Vr,T9,NG] at h
   split at h
   ·cases h;rfl
   unfold ZdW at h
   split at h
   ·rename_i y hy
    cases hy
   split at h
   rotate_left
   ·cases h
   split at h
   rotate_left
   ·cases h
   split at h
   rotate_left
   ·cases h
   have fin:∀ {keep dq:Bool} (rs:List ResultVar) (z:Env × St),Xh P true keep dq st rs z=some (v,st')→st'=st:=fun rs z hret=>by
    unfold Xh at hret
    split at hret
    ·simp only at hret
     rw [Zbk] at hret
     split at hret
     ·cases hret;rfl
     ·cases hret
    ·cases hret
   rw [QC] at h
   split at h
   ·exact fin _ _ h
   ·exact fin _ _ h
   ·cases h
theorem XG (hm:P.follows .mixedOrders=true) (hgl:∀ t g x,C.gl t g=some x→KE P w0 t g x)
  (hext:∀ f args v st,C.ext f args=some v→ACalls P w0 f args st fun r s=>r=v∧s=st)
  (hexs:∀ F f args st v st',C.exs F f args st=some (v,st')→(ACalls P w0 f args st fun r s=>r=v∧s=st')∧(Fits F st→Pre F st st')) (k:Nat) (mo:Option Fl) (f:FuncId) (args:List AV) (st:St) (v:AV) (st':St) (h:I1 P C k mo f args st=some (v,st')):ACalls P w0 f args st fun r s=>r=v∧s=st' :=
 (Zy hm hgl hext hexs k).ok _ _ _ _ _ _ h
end
end
end Go.Ev
namespace Go.Proofs
open Go.Shelf
def Tryz.lays119_ren:Go.Shelf.Ren:=⟨fun | 119=>317 | n=>n,fun | 21=>21 | 4=>4 | n=>n,fun | n=>n⟩
theorem Tryz.lays119:Go.Proofs.Lays.n119 Tryz.prog Tryz.lays119_ren:={
 mixed:=by kernel_rfl
 f119:=Tryz.func317.trans (congrArg some (by kernel_rfl))
 t4:=Tryz.underlying4
 a4:=Tryz.isAgg4
 z4:=Tryz.sizeOf4
 v4:=Tryz.zeroValue4
 t21:=Tryz.underlying21
 a21:=Tryz.isAgg21
 z21:=Tryz.sizeOf21
 v21:=Tryz.zeroValue21 }
theorem Tryz.utf8_ValidRune (r:Int) (w:World) :
  Calls Tryz.prog 317 #[.int .i32 r] w fun e w'=>e = .returned (.bool (Lib.validRune r))∧w'=w:=Any.utf8_ValidRune Tryz.lays119 r w
def Tryz.lays137_ren:Go.Shelf.Ren:=⟨fun | 137=>316 | 217=>351 | 266=>368 | n=>n,fun | 9=>9 | 5=>5 | 3=>3 | n=>n,fun | n=>n⟩
theorem Tryz.lays137:Go.Proofs.Lays.n137 Tryz.prog Tryz.lays137_ren:={
 mixed:=by kernel_rfl
 f137:=Tryz.func316.trans (congrArg some (by kernel_rfl))
 f217:=Tryz.func351.trans (congrArg some (by kernel_rfl))
 f266:=Tryz.func368.trans (congrArg some (by kernel_rfl))
 t3:=Tryz.underlying3
 a3:=Tryz.isAgg3
 z3:=Tryz.sizeOf3
 v3:=Tryz.zeroValue3
 t5:=Tryz.underlying5
 a5:=Tryz.isAgg5
 z5:=Tryz.sizeOf5
 v5:=Tryz.zeroValue5
 t9:=Tryz.underlying9
 a9:=Tryz.isAgg9
 z9:=Tryz.sizeOf9
 v9:=Tryz.zeroValue9 }
open Go.RowKit in
theorem Tryz.strings_IndexByte (s:ByteArray) (c:Int) (w:World) :
  Calls Tryz.prog 316 #[.string s,.int .u8 c] w fun e w'=>e = .returned (.int .i64 (Lib.indexByte s.data.toList c.toNat.toUInt8))∧w'=w:=Any.strings_IndexByte Tryz.lays137 s c w
def Tryz.lays145_ren:Go.Shelf.Ren:=⟨fun | 145=>237 | 220=>280 | 219=>320 | 217=>351 | 225=>319 | 224=>318 | 267=>352 | 266=>368 | 314=>369 | n=>n,fun | 9=>9 | 4=>4 | 59=>309 | 3=>3 | 5=>5 | 46=>177 | 146=>425 | 51=>221 | n=>n,fun | 1=>0 | n=>n⟩
theorem Tryz.lays145:Go.Proofs.Lays.n145 Tryz.prog Tryz.lays145_ren:={
 mixed:=by kernel_rfl
 f145:=Tryz.func237.trans (congrArg some (by kernel_rfl))
 f217:=Tryz.func351.trans (congrArg some (by kernel_rfl))
 f219:=Tryz.func320.trans (congrArg some (by kernel_rfl))
 f220:=Tryz.func280.trans (congrArg some (by kernel_rfl))
 f224:=Tryz.func318.trans (congrArg some (by kernel_rfl))
 f225:=Tryz.func319.trans (congrArg some (by kernel_rfl))
 f266:=Tryz.func368.trans (congrArg some (by kernel_rfl))
 f267:=Tryz.func352.trans (congrArg some (by kernel_rfl))
 f314:=Tryz.func369.trans (congrArg some (by kernel_rfl))
 t3:=Tryz.underlying3
 a3:=Tryz.isAgg3
 z3:=Tryz.sizeOf3
 v3:=Tryz.zeroValue3
 t4:=Tryz.underlying4
 a4:=Tryz.isAgg4
 z4:=Tryz.sizeOf4
 v4:=Tryz.zeroValue4
 t5:=Tryz.underlying5
 a5:=Tryz.isAgg5
 z5:=Tryz.sizeOf5
 v5:=Tryz.zeroValue5
 t9:=Tryz.underlying9
 a9:=Tryz.isAgg9
 z9:=Tryz.sizeOf9
 v9:=Tryz.zeroValue9
 t46:=Tryz.underlying177
 a46:=Tryz.isAgg177
 z46:=Tryz.sizeOf177
 v46:=Tryz.zeroValue177
 t51:=Tryz.underlying221
 a51:=Tryz.isAgg221
 z51:=Tryz.sizeOf221
 v51:=Tryz.zeroValue221
 t59:=Tryz.underlying309
 a59:=Tryz.isAgg309
 z59:=Tryz.sizeOf309
 v59:=Tryz.zeroValue309
 t146:=Tryz.underlying425
 a146:=Tryz.isAgg425
 z146:=Tryz.sizeOf425
 v146:=Tryz.zeroValue425
 g1:=by kernel_rfl }
open Go.RowKit Go.Lib in
theorem Tryz.strings_Cut (s sep:ByteArray) (m:Int) (w:World) (hs:s.size<4294967281) (hm:w.cell? ⟨0,0,none⟩=some (.int .i64 m)) :
  Calls Tryz.prog 237 #[.string s,.string sep] w fun e w'=>e = .returned (.tuple #[.string ⟨(Lib.cut s.data.toList sep.data.toList).1.toArray⟩,.string ⟨(Lib.cut s.data.toList sep.data.toList).2.1.toArray⟩,.bool (Lib.cut s.data.toList sep.data.toList).2.2])∧∃ n,w'=w.drewN n:=Any.strings_Cut Tryz.lays145 s sep m w hs hm
def Tryz.lays99_ren:Go.Shelf.Ren:=⟨fun | 99=>236 | 206=>279 | n=>n,fun | 9=>9 | 4=>4 | 3=>3 | n=>n,fun | n=>n⟩
theorem Tryz.lays99:Go.Proofs.Lays.n99 Tryz.prog Tryz.lays99_ren:={
 mixed:=by kernel_rfl
 f99:=Tryz.func236.trans (congrArg some (by kernel_rfl))
 f206:=Tryz.func279.trans (congrArg some (by kernel_rfl))
 t3:=Tryz.underlying3
 a3:=Tryz.isAgg3
 z3:=Tryz.sizeOf3
 v3:=Tryz.zeroValue3
 t4:=Tryz.underlying4
 a4:=Tryz.isAgg4
 z4:=Tryz.sizeOf4
 v4:=Tryz.zeroValue4
 t9:=Tryz.underlying9
 a9:=Tryz.isAgg9
 z9:=Tryz.sizeOf9
 v9:=Tryz.zeroValue9 }
open Go.RowKit Go.Lib in
theorem Tryz.strings_HasPrefix (s p:ByteArray) (w:World) :
  Calls Tryz.prog 236 #[.string s,.string p] w fun e w'=>e = .returned (.bool (Lib.hasPrefix s.data.toList p.data.toList))∧w'=w:=Any.strings_HasPrefix Tryz.lays99 s p w
def Tryz.lays152_ren:Go.Shelf.Ren:=⟨fun | 152=>275 | 137=>316 | 119=>317 | 224=>318 | 225=>319 | 217=>351 | 266=>368 | n=>n,fun | 9=>9 | 21=>21 | 3=>3 | 4=>4 | 5=>5 | 0=>0 | 46=>177 | n=>n,fun | n=>n⟩
theorem Tryz.lays152:Go.Proofs.Lays.n152 Tryz.prog Tryz.lays152_ren:={
 mixed:=by kernel_rfl
 f119:=Tryz.func317.trans (congrArg some (by kernel_rfl))
 f137:=Tryz.func316.trans (congrArg some (by kernel_rfl))
 f152:=Tryz.func275.trans (congrArg some (by kernel_rfl))
 f217:=Tryz.func351.trans (congrArg some (by kernel_rfl))
 f224:=Tryz.func318.trans (congrArg some (by kernel_rfl))
 f225:=Tryz.func319.trans (congrArg some (by kernel_rfl))
 f266:=Tryz.func368.trans (congrArg some (by kernel_rfl))
 t0:=Tryz.underlying0
 a0:=Tryz.isAgg0
 z0:=Tryz.sizeOf0
 v0:=Tryz.zeroValue0
 t3:=Tryz.underlying3
 a3:=Tryz.isAgg3
 z3:=Tryz.sizeOf3
 v3:=Tryz.zeroValue3
 t4:=Tryz.underlying4
 a4:=Tryz.isAgg4
 z4:=Tryz.sizeOf4
 v4:=Tryz.zeroValue4
 t5:=Tryz.underlying5
 a5:=Tryz.isAgg5
 z5:=Tryz.sizeOf5
 v5:=Tryz.zeroValue5
 t9:=Tryz.underlying9
 a9:=Tryz.isAgg9
 z9:=Tryz.sizeOf9
 v9:=Tryz.zeroValue9
 t21:=Tryz.underlying21
 a21:=Tryz.isAgg21
 z21:=Tryz.sizeOf21
 v21:=Tryz.zeroValue21
 t46:=Tryz.underlying177
 a46:=Tryz.isAgg177
 z46:=Tryz.sizeOf177
 v46:=Tryz.zeroValue177 }
open Go.RowKit Go.Lib in
theorem Tryz.strings_IndexRune_ascii (s:ByteArray) (r:Int) (w:World) (h0:0≤r) (h1:r<128) :
  Calls Tryz.prog 275 #[.string s,.int .i32 r] w fun e w'=>e = .returned (.int .i64 (Lib.indexByte s.data.toList r.toNat.toUInt8))∧w'=w:=Any.strings_IndexRune_ascii Tryz.lays152 s r w h0 h1
def Tryz.lays226_ren:Go.Shelf.Ren:=⟨fun | 226=>276 | n=>n,fun | 3=>3 | 4=>4 | n=>n,fun | n=>n⟩
theorem Tryz.lays226:Go.Proofs.Lays.n226 Tryz.prog Tryz.lays226_ren:={
 mixed:=by kernel_rfl
 f226:=Tryz.func276.trans (congrArg some (by kernel_rfl))
 t3:=Tryz.underlying3
 a3:=Tryz.isAgg3
 z3:=Tryz.sizeOf3
 v3:=Tryz.zeroValue3
 t4:=Tryz.underlying4
 a4:=Tryz.isAgg4
 z4:=Tryz.sizeOf4
 v4:=Tryz.zeroValue4 }
open Go.RowKit Go.Lib in
theorem Tryz.strings_shouldUseASCIISet (n:Int) (w:World) :
  Calls Tryz.prog 276 #[.int .i64 n] w fun e w'=>e = .returned (.bool (decide (8<n)))∧w'=w:=Any.strings_shouldUseASCIISet Tryz.lays226 n w
def Tryz.lays153_ren:Go.Shelf.Ren:=⟨fun | 153=>235 | 152=>275 | 226=>276 | 227=>277 | 228=>278 | 137=>316 | 119=>317 | 224=>318 | 225=>319 | 217=>351 | 266=>368 | n=>n,fun | 9=>9 | 3=>3 | 4=>4 | 5=>5 | 21=>21 | 117=>347 | 116=>346 | 0=>0 | 46=>177 | 124=>379 | n=>n,fun | n=>n⟩
theorem Tryz.lays153:Go.Proofs.Lays.n153 Tryz.prog Tryz.lays153_ren:={
 mixed:=by kernel_rfl
 f119:=Tryz.func317.trans (congrArg some (by kernel_rfl))
 f137:=Tryz.func316.trans (congrArg some (by kernel_rfl))
 f152:=Tryz.func275.trans (congrArg some (by kernel_rfl))
 f153:=Tryz.func235.trans (congrArg some (by kernel_rfl))
 f217:=Tryz.func351.trans (congrArg some (by kernel_rfl))
 f224:=Tryz.func318.trans (congrArg some (by kernel_rfl))
 f225:=Tryz.func319.trans (congrArg some (by kernel_rfl))
 f226:=Tryz.func276.trans (congrArg some (by kernel_rfl))
 f227:=Tryz.func277.trans (congrArg some (by kernel_rfl))
 f228:=Tryz.func278.trans (congrArg some (by kernel_rfl))
 f266:=Tryz.func368.trans (congrArg some (by kernel_rfl))
 t0:=Tryz.underlying0
 a0:=Tryz.isAgg0
 z0:=Tryz.sizeOf0
 v0:=Tryz.zeroValue0
 t3:=Tryz.underlying3
 a3:=Tryz.isAgg3
 z3:=Tryz.sizeOf3
 v3:=Tryz.zeroValue3
 t4:=Tryz.underlying4
 a4:=Tryz.isAgg4
 z4:=Tryz.sizeOf4
 v4:=Tryz.zeroValue4
 t5:=Tryz.underlying5
 a5:=Tryz.isAgg5
 z5:=Tryz.sizeOf5
 v5:=Tryz.zeroValue5
 t9:=Tryz.underlying9
 a9:=Tryz.isAgg9
 z9:=Tryz.sizeOf9
 v9:=Tryz.zeroValue9
 t21:=Tryz.underlying21
 a21:=Tryz.isAgg21
 z21:=Tryz.sizeOf21
 v21:=Tryz.zeroValue21
 t46:=Tryz.underlying177
 a46:=Tryz.isAgg177
 z46:=Tryz.sizeOf177
 v46:=Tryz.zeroValue177
 t116:=Tryz.underlying346
 a116:=Tryz.isAgg346
 z116:=Tryz.sizeOf346
 t117:=Tryz.underlying347
 a117:=Tryz.isAgg347
 z117:=Tryz.sizeOf347
 v117:=Tryz.zeroValue347
 t124:=Tryz.underlying379
 a124:=Tryz.isAgg379
 z124:=Tryz.sizeOf379
 v124:=Tryz.zeroValue379 }
open Go.RowKit Go.Lib in
theorem Tryz.strings_IndexAny_long (hv116:∀ w,(zeroValue 346).run Tryz.prog w = .ok (.agg (Array.replicate 256 (.bool false))) w) (s chars:ByteArray) (w:World) (h2:2≤chars.size) (h8:8<s.size) (hs:s.size<4294967281) (hcs:chars.size<4294967281) (hascii:∀ (j:Nat) b,chars.data.toList[j]? = some b→b.toNat<128) :
  Calls Tryz.prog 235 #[.string s,.string chars] w fun e w'=>e = .returned (.int .i64 (Lib.indexAny s.data.toList chars.data.toList))∧w'=((w.alloc (.cells (Lib.setCells chars.data.toList) 346)).alloc (.cells (Lib.setCells chars.data.toList) 346)):=Any.strings_IndexAny_long Tryz.lays153 hv116 (by kernel_rfl) s chars w h2 h8 hs hcs hascii
end Go.Proofs
namespace Go.Proofs
open Go.Shelf Go.RowKit Go.Lib Go
variable {P:Program} {ρ:Ren}
abbrev stops:ByteArray:=⟨#[46,91,63]⟩
theorem WN:∀ (i:Nat) (h:i<stops.size),(stops[i]'h).toNat<128∧((stops[i]'h).toNat:Int)≠65533:=by decide
theorem Zhw (n:Nat):128≤(UInt8.ofNat (128+n % 64)).toNat:=by rw [UInt8.toNat_ofNat'];omega
theorem Zad (r:Int) (h0:128≤r):(∃ a b,Utf8.encode r=⟨#[a,b]⟩∧128≤b.toNat)∨(∃ a b c,Utf8.encode r=⟨#[a,b,c]⟩∧128≤c.toNat)∨∃ a b c d,Utf8.encode r=⟨#[a,b,c,d]⟩:=by
 obtain ⟨c,hc,he⟩:∃ c:Nat,128≤c∧(if Utf8.valid r=true then r.toNat else Utf8.runeError)=c:=by
  by_cases h:Utf8.valid r=true
  ·exact ⟨r.toNat,by omega,by rw [Ah h]⟩
  ·exact ⟨Utf8.runeError,by decide,by rw [Ai h]⟩
 unfold Utf8.encode
 simp only [he]
 rw [Aa]
 by_cases h1:c<2048
 ·rw [Ah h1];exact .inl ⟨_,_,rfl,Zhw _⟩
 rw [Ai h1]
 by_cases h2:c<65536
 ·rw [Ah h2];exact .inr (.inl ⟨_,_,_,rfl,Zhw _⟩)
 ·rw [Ai h2];exact .inr (.inr ⟨_,_,_,_,rfl⟩)
set_option maxRecDepth 1000000 in
theorem XH (L:Lays.n152 P ρ) (w:World) :
  Calls P (ρ.f 152) #[.string stops,.int .i32 65533] w fun e w'=>e = .returned (.int .i64 (-1))∧∃ pos,w'=w.iter stops pos:=by
 have t3:=L.t3;have a3:=L.a3;have z3:=L.z3;have v3:=L.v3
 have t4:=L.t4;have a4:=L.a4;have z4:=L.z4;have v4:=L.v4
 have t5:=L.t5;have a5:=L.a5;have z5:=L.z5;have v5:=L.v5
 have t9:=L.t9;have a9:=L.a9;have z9:=L.z9;have v9:=L.v9
 have t21:=L.t21;have a21:=L.a21;have z21:=L.z21;have v21:=L.v21
 go_enter L.f152,Body.n152_ntmps ρ
 go_wp2
 go_loopg [5,6] 3 (fun g _ _ wx=>∃ i:Nat,i+g=3∧wx=w.iter stops i)
 case atStart=>exact ⟨0,by omega,rfl⟩
 case round =>
  obtain ⟨i,hig,rfl⟩:=hrel
  cases gk with
  | zero =>
   obtain rfl:i=3:=by omega
   have hnx:=run_next_end (P:=P) w stops 3
   go_wp2
   go_ret
   exact ⟨rfl,_,rfl⟩
  | succ g =>
   have hi:i<stops.size:=by show i<3;omega
   obtain ⟨x,hx⟩:∃ x:UInt8,stops[i]'hi=x:=⟨_,rfl⟩
   obtain ⟨hx128,hxn⟩:=WN i hi
   have hnx:=fun ty=>run_next_ascii (P:=P) w stops i ty hi hx128
   rw [hx] at hnx hxn
   have hb:((x.toNat:Int) == 65533)=false:=beq_eq_false_iff_ne.2 hxn
   go_wp2
   go_roundg g
   case measure=>omega
   case rel=>exact ⟨i+1,by omega,rfl⟩
set_option maxRecDepth 1000000 in
theorem Zb8 (L:Lays.n152 P ρ) (r:Int) (w:World) (h0:128≤r) (h1:r≠65533) (hv:Lib.validRune r=false) :
  Calls P (ρ.f 152) #[.string stops,.int .i32 r] w fun e w'=>e = .returned (.int .i64 (-1))∧Below w.heap.size w w':=by
 have t3:=L.t3;have a3:=L.a3;have z3:=L.z3;have v3:=L.v3
 have t4:=L.t4;have a4:=L.a4;have z4:=L.z4;have v4:=L.v4
 have t5:=L.t5;have a5:=L.a5;have z5:=L.z5;have v5:=L.v5
 have t9:=L.t9;have a9:=L.a9;have z9:=L.z9;have v9:=L.v9
 have t21:=L.t21;have a21:=L.a21;have z21:=L.z21;have v21:=L.v21
 have e119:∀ args w,(callFunc (ρ.f 119) args).run P w = .ok (.enter (ρ.f 119) args) w:=enters_of L.f119 (by kernel_rfl) rfl
 have hlt:¬ r<128:=by omega
 have hne:(r == 65533)=false:=beq_eq_false_iff_ne.2 h1
 go_enter L.f152,Body.n152_ntmps ρ
 go_wp2_with (go_at_fn (ρ.f 119);refine (Any.utf8_ValidRune { L with } _ _).mono ?_;rintro e w' ⟨rfl,hw⟩;rw [hw,hv])
 go_ret
 exact ⟨rfl,.refl _ _⟩
set_option maxRecDepth 1000000 in
theorem ZdJ (L:Lays.n152 P ρ) (r:Int) (w:World) (h0:128≤r) (h1:r≠65533) (hv:Lib.validRune r=true) (a b:UInt8) (he:Utf8.encode r=⟨#[a,b]⟩) (hb:128≤b.toNat) :
  Calls P (ρ.f 152) #[.string stops,.int .i32 r] w fun e w'=>e = .returned (.int .i64 (-1))∧Below w.heap.size w w':=by
 have mixed:=L.mixed
 have t3:=L.t3;have a3:=L.a3;have z3:=L.z3;have v3:=L.v3
 have t4:=L.t4;have a4:=L.a4;have z4:=L.z4;have v4:=L.v4
 have t5:=L.t5;have a5:=L.a5;have z5:=L.z5;have v5:=L.v5
 have t9:=L.t9;have a9:=L.a9;have z9:=L.z9;have v9:=L.v9
 have t21:=L.t21;have a21:=L.a21;have z21:=L.z21;have v21:=L.v21
 have e119:∀ args w,(callFunc (ρ.f 119) args).run P w = .ok (.enter (ρ.f 119) args) w:=enters_of L.f119 (by kernel_rfl) rfl
 have e137:∀ args w,(callFunc (ρ.f 137) args).run P w = .ok (.enter (ρ.f 137) args) w:=enters_of L.f137 (by kernel_rfl) rfl
 have hlt:¬ r<128:=by omega
 have hne:(r == 65533)=false:=beq_eq_false_iff_ne.2 h1
 have hbn:(((stops[1]'(by decide)).toNat:Int) != (((⟨#[a,b]⟩:ByteArray)[1]'(by simp [ByteArray.size])).toNat:Int))=true:=bne_iff_ne.2 (by show (91:Int)≠(b.toNat:Int);omega)
 have hsum:IntKind.i64.wrap (1+1)=2:=by decide
 have hx:Lib.indexByte (stops.extract 2 3).data.toList ((((⟨#[a,b]⟩:ByteArray)[1]'(by simp [ByteArray.size])).toNat:Int)).toNat.toUInt8 = -1:=by
  show Lib.indexByte [63] (b.toNat:Int).toNat.toUInt8 = -1
  have e:(b.toNat:Int).toNat.toUInt8=b:=by simp
  rw [e]
  have hn:((63:UInt8) == b)=false:=beq_eq_false_iff_ne.2 (fun q=>by rw [←q] at hb;exact absurd hb (by decide))
  simp [Lib.indexByte,hn]
 go_enter L.f152,Body.n152_ntmps ρ
 go_wp2_with (first
  | (go_at_fn (ρ.f 119);refine (Any.utf8_ValidRune { L with } _ _).mono ?_;rintro e w' ⟨rfl,hw⟩;rw [hw,hv])
  | (go_at_fn (ρ.f 137);refine (Any.strings_IndexByte { L with } _ _ _).mono ?_;rintro e w' ⟨rfl,hw⟩;rw [hw]))
 go_step3
 go_wp2
 go_loopg [9] 1 (fun g s9 wx=>s9 = .int .i64 1∧wx=w)
 case atStart=>exact ⟨rfl,rfl⟩
 case round =>
  obtain ⟨rfl,rfl⟩:=hrel
  go_wp2
  go_step3
  go_wp2
  refine wp_region_quiet_lit mixed (by kernel_rfl) ?_
  repeat (first | go_big_quiet_step (fail) | quiet_step (fail))
  refine wpQuiet_nil ?_
  intro _ hw'
  obtain ⟨nq,hw''⟩:=hw'
  subst hw''
  go_wp2
  refine wp_region_quiet_lit mixed (by kernel_rfl) ?_
  repeat (first | go_big_quiet_step (fail) | quiet_step (fail))
  refine wpQuiet_step (fun K hK=>?_)
  go_simp
  refine ⟨_,fun q=>((Any.strings_IndexByte { L with } _ _ _).mono fun e w' h=>⟨h.1,q,h.2⟩),hK _ ?_⟩
  clear hK K
  repeat (first | go_big_quiet_step (fail) | quiet_step (fail))
  refine wpQuiet_nil ?_
  intro _ hw'
  obtain ⟨nq2,hw''⟩:=hw'
  subst hw''
  rw [hx]
  go_wp2
  go_simp
  try rw [Exit.noGoto_ret]
  go_ret
  exact ⟨rfl,⟨rfl,rfl,rfl,Nat.le_refl _,fun _ _=>rfl⟩⟩
set_option maxRecDepth 1000000 in
theorem XX (L:Lays.n152 P ρ) (r:Int) (w:World) (h0:128≤r) (h1:r≠65533) (hv:Lib.validRune r=true) (a b c:UInt8) (he:Utf8.encode r=⟨#[a,b,c]⟩) (hb:128≤c.toNat) :
  Calls P (ρ.f 152) #[.string stops,.int .i32 r] w fun e w'=>e = .returned (.int .i64 (-1))∧Below w.heap.size w w':=by
 have mixed:=L.mixed
 have t3:=L.t3;have a3:=L.a3;have z3:=L.z3;have v3:=L.v3
 have t4:=L.t4;have a4:=L.a4;have z4:=L.z4;have v4:=L.v4
 have t5:=L.t5;have a5:=L.a5;have z5:=L.z5;have v5:=L.v5
 have t9:=L.t9;have a9:=L.a9;have z9:=L.z9;have v9:=L.v9
 have t21:=L.t21;have a21:=L.a21;have z21:=L.z21;have v21:=L.v21
 have e119:∀ args w,(callFunc (ρ.f 119) args).run P w = .ok (.enter (ρ.f 119) args) w:=enters_of L.f119 (by kernel_rfl) rfl
 have e137:∀ args w,(callFunc (ρ.f 137) args).run P w = .ok (.enter (ρ.f 137) args) w:=enters_of L.f137 (by kernel_rfl) rfl
 have hlt:¬ r<128:=by omega
 have hne:(r == 65533)=false:=beq_eq_false_iff_ne.2 h1
 have hbn:(((stops[2]'(by decide)).toNat:Int) != (((⟨#[a,b,c]⟩:ByteArray)[2]'(by simp [ByteArray.size])).toNat:Int))=true:=bne_iff_ne.2 (by show (63:Int)≠(c.toNat:Int);omega)
 have hsum:IntKind.i64.wrap (2+1)=3:=by decide
 have hx:Lib.indexByte ByteArray.empty.data.toList ((((⟨#[a,b,c]⟩:ByteArray)[2]'(by simp [ByteArray.size])).toNat:Int)).toNat.toUInt8 = -1:=by
  show Lib.indexByte [] (c.toNat:Int).toNat.toUInt8 = -1
  have e:(c.toNat:Int).toNat.toUInt8=c:=by simp
  rw [e]
  rfl
 go_enter L.f152,Body.n152_ntmps ρ
 go_wp2_with (first
  | (go_at_fn (ρ.f 119);refine (Any.utf8_ValidRune { L with } _ _).mono ?_;rintro e w' ⟨rfl,hw⟩;rw [hw,hv])
  | (go_at_fn (ρ.f 137);refine (Any.strings_IndexByte { L with } _ _ _).mono ?_;rintro e w' ⟨rfl,hw⟩;rw [hw]))
 go_step3
 go_wp2
 go_loopg [9] 1 (fun g s9 wx=>s9 = .int .i64 2∧wx=w)
 case atStart=>exact ⟨rfl,rfl⟩
 case round =>
  obtain ⟨rfl,rfl⟩:=hrel
  go_wp2
  go_step3
  go_wp2
  refine wp_region_quiet_lit mixed (by kernel_rfl) ?_
  repeat (first | go_big_quiet_step (fail) | quiet_step (fail))
  refine wpQuiet_nil ?_
  intro _ hw'
  obtain ⟨nq,hw''⟩:=hw'
  subst hw''
  go_wp2
  refine wp_region_quiet_lit mixed (by kernel_rfl) ?_
  repeat (first | go_big_quiet_step (fail) | quiet_step (fail))
  refine wpQuiet_step (fun K hK=>?_)
  go_simp
  refine ⟨_,fun q=>((Any.strings_IndexByte { L with } _ _ _).mono fun e w' h=>⟨h.1,q,h.2⟩),hK _ ?_⟩
  clear hK K
  repeat (first | go_big_quiet_step (fail) | quiet_step (fail))
  refine wpQuiet_nil ?_
  intro _ hw'
  obtain ⟨nq2,hw''⟩:=hw'
  subst hw''
  rw [hx]
  go_wp2
  go_simp
  try rw [Exit.noGoto_ret]
  go_ret
  exact ⟨rfl,⟨rfl,rfl,rfl,Nat.le_refl _,fun _ _=>rfl⟩⟩
set_option maxRecDepth 1000000 in
theorem Zas (L:Lays.n152 P ρ) (r:Int) (w:World) (h0:128≤r) (h1:r≠65533) (hv:Lib.validRune r=true) (a b c d:UInt8) (he:Utf8.encode r=⟨#[a,b,c,d]⟩) :
  Calls P (ρ.f 152) #[.string stops,.int .i32 r] w fun e w'=>e = .returned (.int .i64 (-1))∧Below w.heap.size w w':=by
 have mixed:=L.mixed
 have t3:=L.t3;have a3:=L.a3;have z3:=L.z3;have v3:=L.v3
 have t4:=L.t4;have a4:=L.a4;have z4:=L.z4;have v4:=L.v4
 have t5:=L.t5;have a5:=L.a5;have z5:=L.z5;have v5:=L.v5
 have t9:=L.t9;have a9:=L.a9;have z9:=L.z9;have v9:=L.v9
 have t21:=L.t21;have a21:=L.a21;have z21:=L.z21;have v21:=L.v21
 have e119:∀ args w,(callFunc (ρ.f 119) args).run P w = .ok (.enter (ρ.f 119) args) w:=enters_of L.f119 (by kernel_rfl) rfl
 have e137:∀ args w,(callFunc (ρ.f 137) args).run P w = .ok (.enter (ρ.f 137) args) w:=enters_of L.f137 (by kernel_rfl) rfl
 have hlt:¬ r<128:=by omega
 have hne:(r == 65533)=false:=beq_eq_false_iff_ne.2 h1
 go_enter L.f152,Body.n152_ntmps ρ
 go_wp2_with (first
  | (go_at_fn (ρ.f 119);refine (Any.utf8_ValidRune { L with } _ _).mono ?_;rintro e w' ⟨rfl,hw⟩;rw [hw,hv])
  | (go_at_fn (ρ.f 137);refine (Any.strings_IndexByte { L with } _ _ _).mono ?_;rintro e w' ⟨rfl,hw⟩;rw [hw]))
 go_step3
 go_wp2
 go_loopg [9] 1 (fun g s9 wx=>s9 = .int .i64 3∧wx=w)
 case atStart=>exact ⟨rfl,rfl⟩
 case round =>
  obtain ⟨rfl,rfl⟩:=hrel
  go_wp2
  go_simp
  try rw [Exit.noGoto_ret]
  go_ret
  exact ⟨rfl,.refl _ _⟩
theorem Zdf (L:Lays.n152 P ρ) (r:Int) (w:World) (h0:128≤r) :
  Calls P (ρ.f 152) #[.string stops,.int .i32 r] w fun e w'=>e = .returned (.int .i64 (-1))∧Below w.heap.size w w':=by
 by_cases h1:r=65533
 ·subst h1
  refine (XH L w).mono ?_
  rintro e w' ⟨h,g,rfl⟩
  exact ⟨h,(Below.refl _ _).alloc (Nat.le_refl _) _⟩
 cases hv:Lib.validRune r with
 | false=>exact Zb8 L r w h0 h1 hv
 | true =>
  rcases Zad r h0 with ⟨a,b,he,hb⟩ | ⟨a,b,c,he,hb⟩ | ⟨a,b,c,d,he⟩
  ·exact ZdJ L r w h0 h1 hv a b he hb
  ·exact XX L r w h0 h1 hv a b c he hb
  ·exact Zas L r w h0 h1 hv a b c d he
theorem get!_at (s:ByteArray) (k:Nat) (h:k<s.size):s.data.toList[k]? = some (s.get! k):=by
 rw [Lib.data_getElem? s k h]
 congr 1
 exact (get_at s k h).symm
theorem Zdo (s : ByteArray) (pos : Nat) (h : pos < s.size) (ha : 128 ≤ (s[pos]'h).toNat) : pos + (Utf8.decode s pos).2 ≤ s.size ∧ ∀ j, pos ≤ j → j < pos + (Utf8.decode s pos).2 → 128 ≤ (s.get! j).toNat := by
  have h0 : 128 ≤ (s.get! (pos + 0)).toNat := by rw [get_at s pos h]; exact ha
  have fin : ∀ n, (∀ k, k < n → pos + k < s.size ∧ 128 ≤ (s.get! (pos + k)).toNat) → 0 < n → pos + n ≤ s.size ∧ ∀ j, pos ≤ j → j < pos + n → 128 ≤ (s.get! j).toNat := fun n hn h1 =>
    ⟨by have := (hn (n - 1) (by omega)).1; omega, fun j hj hj2 => by have := (hn (j - pos) (by omega)).2; rwa [Nat.add_sub_cancel' hj] at this⟩
  have cont : ∀ k, (decide (pos + k < s.size) && (s.get! (pos + k)).toNat / 64 == 2) = true → pos + k < s.size ∧ 128 ≤ (s.get! (pos + k)).toNat := fun k q => by
    rw [Bool.and_eq_true, decide_eq_true_eq, beq_iff_eq] at q; exact ⟨q.1, by omega⟩
  have z : pos + 0 < s.size ∧ 128 ≤ (s.get! (pos + 0)).toNat := ⟨h, h0⟩
  have one : ∀ c : Nat, pos + (c, 1).2 ≤ s.size ∧ ∀ j, pos ≤ j → j < pos + (c, 1).2 → 128 ≤ (s.get! j).toNat := fun _ => fin 1 (fun k hk => by obtain rfl : k = 0 := by omega
                                                                                                                                               exact z) (by omega)
  unfold Utf8.decode
  simp only
  rw [Aa]
  split
  · rename_i q
    rw [Bool.and_eq_true] at q
    split
    · exact fin 2 (fun k hk => by
        rcases (by omega : k = 0 ∨ k = 1) with rfl | rfl
        · exact z
        · exact cont 1 q.2) (by omega)
    · exact one _
  · split
    · rename_i q
      rw [Bool.and_eq_true, Bool.and_eq_true] at q
      split
      · exact fin 3 (fun k hk => by
          rcases (by omega : k = 0 ∨ k = 1 ∨ k = 2) with rfl | rfl | rfl
          · exact z
          · exact cont 1 q.1.2
          · exact cont 2 q.2) (by omega)
      · exact one _
    · split
      · rename_i q
        rw [Bool.and_eq_true, Bool.and_eq_true, Bool.and_eq_true] at q
        split
        · exact fin 4 (fun k hk => by
            rcases (by omega : k = 0 ∨ k = 1 ∨ k = 2 ∨ k = 3) with rfl | rfl | rfl | rfl
            · exact z
            · exact cont 1 q.1.1.2
            · exact cont 2 q.1.2
            · exact cont 3 q.2) (by omega)
        · exact one _
      · exact one _
theorem Xw (b:UInt8) (h:128≤b.toNat):stops.data.toList.contains b=false:=by
 show ([46,91,63]:List UInt8).contains b=false
 simp
 refine ⟨?_,?_,?_⟩<;>(rintro rfl;exact absurd h (by decide))
set_option maxRecDepth 1000000 in
theorem Zag (L:Lays.n153 P ρ) (s:ByteArray) (w:World) (h8:s.size≤8) :
  Calls P (ρ.f 153) #[.string s,.string stops] w fun e w'=>e = .returned (.int .i64 (Lib.indexAny s.data.toList stops.data.toList))∧Below w.heap.size w w':=by
 have hemp:stops.toList.isEmpty=false:=by rw [Lib.toList_data];rfl
 have hn1:((stops.size:Int) == 1)=false:=by decide
 have h8z:decide ((8:Int)<(s.size:Int))=false:=Af (by omega)
 have t3:=L.t3;have a3:=L.a3;have z3:=L.z3;have v3:=L.v3
 have t4:=L.t4;have a4:=L.a4;have z4:=L.z4;have v4:=L.v4
 have t5:=L.t5;have a5:=L.a5;have z5:=L.z5;have v5:=L.v5
 have t9:=L.t9;have a9:=L.a9;have z9:=L.z9;have v9:=L.v9
 have t21:=L.t21;have a21:=L.a21;have z21:=L.z21;have v21:=L.v21
 have e152:∀ args w,(callFunc (ρ.f 152) args).run P w = .ok (.enter (ρ.f 152) args) w:=enters_of L.f152 (by kernel_rfl) rfl
 have e226:∀ args w,(callFunc (ρ.f 226) args).run P w = .ok (.enter (ρ.f 226) args) w:=enters_of L.f226 (by kernel_rfl) rfl
 go_enter L.f153,Body.n153_ntmps ρ
 go_wp2_with (go_at_fn (ρ.f 226);refine (Any.strings_shouldUseASCIISet { L with } _ _).mono ?_;rintro e w' ⟨rfl,hw⟩;rw [hw,h8z])
 go_loopg [9,10] s.size (fun g _ _ wr=>∃ pos:Nat,pos+g=s.size∧wr.heap[w.heap.size]? = some (.stringIter s pos)∧Below w.heap.size w wr∧Lib.NoAny s.data.toList stops.data.toList pos)
 case atStart=>exact ⟨0,by omega,World.iter_heap w s 0,(Below.refl _ _).alloc (Nat.le_refl _) _,Lib.NoAny.zero _ _⟩
 case round =>
  obtain ⟨i,hig,hit,hbw,hno⟩:=hrel
  have HN:Aside (Lib.NoAny s.data.toList stops.data.toList i):=hno
  clear hno
  by_cases hp:i<s.size
  ·have hnx:=fun ty=>Lib.run_next_any_at (P:=P) wr w.heap.size s i ty hit hp
   have hit2:=Lib.iterAt_heap wr w.heap.size s i (i+(Utf8.decode s i).2) hit
   have hbw2:=Lib.below_iterAt hbw (k:=w.heap.size) (Nat.le_refl _) s (i+(Utf8.decode s i).2)
   obtain ⟨W1,hW1⟩:∃ W1,W1=wr.iterAt w.heap.size s (i+(Utf8.decode s i).2):=⟨_,rfl⟩
   rw [←hW1] at hnx hit2 hbw2
   have hlt1:w.heap.size<W1.heap.size:=(Array.getElem?_eq_some_iff.1 hit2).1
   clear hW1
   obtain ⟨x,hx⟩:∃ x:UInt8,s[i]'hp=x:=⟨_,rfl⟩
   have hxl:s.data.toList[i]? = some x:=by rw [←hx];exact Lib.data_getElem? s i hp
   by_cases hxa:x.toNat<128
   ·have hdec:Utf8.decode s i=(x.toNat,1):=by rw [←hx];exact decode_ascii s i hp (by rw [hx];exact hxa)
    rw [hdec] at hnx hit2
    have Hx:Aside (s.data.toList[i]? = some x):=hxl
    clear hxl hx hdec
    have hcon:=Lib.contains_iff_indexByte stops.data.toList x
    have hback:(x.toNat:Int).toNat.toUInt8=x:=by simp
    cases hin:stops.data.toList.contains x
    ·rw [hin] at hcon
     have hlt:¬ ((0:Int)≤Lib.indexByte stops.data.toList x):=of_decide_eq_false hcon.symm
     clear hcon
     go_wp2_with (go_at_fn (ρ.f 152);refine (Any.strings_IndexRune_ascii { L with } _ _ _ (by omega) (by omega)).mono ?_;rintro e w' ⟨rfl,hw⟩;rw [hw,hback])
     go_roundg (s.size-(i+1))
     case measure=>omega
     case rel=>exact ⟨i+1,by omega,hit2,hbw2,HN.out.succ Hx.out hin⟩
    ·rw [hin] at hcon
     have hge:(0:Int)≤Lib.indexByte stops.data.toList x:=of_decide_eq_true hcon.symm
     clear hcon
     go_wp2_with (go_at_fn (ρ.f 152);refine (Any.strings_IndexRune_ascii { L with } _ _ _ (by omega) (by omega)).mono ?_;rintro e w' ⟨rfl,hw⟩;rw [hw,hback])
     go_ret
     exact ⟨by rw [Lib.indexAny_hit HN.out Hx.out hin];rfl,hbw2⟩
   ·have hxa':128≤(s[i]'hp).toNat:=by rw [hx];omega
    obtain ⟨d1,d2⟩:=decode_high s i hp hxa'
    obtain ⟨d3,d4⟩:=Zdo s i hp hxa'
    have HD:Aside (Lib.NoAny s.data.toList stops.data.toList (i+(Utf8.decode s i).2)):=fun j b hj hb=>by
     by_cases c:j<i
     ·exact HN.out j b c hb
     ·have q:=d4 j (by omega) hj
      have hjs:j<s.size:=by omega
      rw [get!_at s j hjs] at hb
      cases hb
      exact Xw _ q
    generalize hdd:Utf8.decode s i=dd at *
    obtain ⟨r,k⟩:=dd
    simp only at d1 d2 d3 HD hnx hit2
    clear d4 hdd hxa' hxa hxl hx
    have hlt:¬ ((0:Int) ≤ -1):=by decide
    go_wp2_with (go_at_fn (ρ.f 152);refine (Zdf { L with } _ _ (by omega)).mono ?_;rintro e w2 ⟨rfl,hb2⟩)
    go_roundg (s.size-(i+k))
    case measure=>omega
    case rel=>exact ⟨i+k,by omega,by rw [hb2.block w.heap.size hlt1];exact hit2,hbw2.trans ⟨hb2.os,hb2.tape,hb2.output,by have:=hb2.size;omega,fun j hj=>hb2.block j (by omega)⟩,HD.out⟩
  ·have hnx:=Lib.run_next_end_at (P:=P) wr w.heap.size s i
   have hnx:=fun ty=>hnx ty hit hp
   go_wp2
   go_ret
   exact ⟨by rw [Lib.indexAny_none (by rw [←Lib.size_eq];exact fun j b hj=>HN.out j b (by omega))];rfl,hbw⟩
end Go.Proofs
namespace Go.Proofs.YtcdnijfbfdnjlaaGreatDoor
open Go Go.RowKit Go.Ev
abbrev YB (w0:World):Prop:=∃ m,w0.cell? ⟨0,0,none⟩=some (.int .i64 m)
abbrev Zjs (w0:World):Prop:=(∃ ev,w0.cell? ⟨6,0,none⟩=some ev∧(ev = .nilIface∨∃ te pe,ev = .iface te pe))∧∃ ev,w0.cell? ⟨7,0,none⟩=some ev∧(ev = .nilIface∨∃ te pe,ev = .iface te pe)
theorem ZH:∀ (j:Nat) (b:UInt8),stops.data.toList[j]? = some b→b.toNat<128:=fun j b h=>by
 have a:b∈([46,91,63]:List UInt8):=List.mem_of_getElem? h
 simp only [List.mem_cons,List.not_mem_nil,or_false] at a
 rcases a with rfl | rfl | rfl<;>decide
theorem QO {w0 w:World} {p:Addr} {v:Value} (h:w0.cell? p=some v) (hb:Below w0.heap.size w0 w):w.cell? p=some v:=by
 rw [hb.cell (World.block_lt_of_cell? w0 _ h)];exact h
def Zmw (s:ByteArray):Int:=Lib.indexAny s.data.toList [46,91,63]
def ZdE (s p:ByteArray):Bool:=Lib.hasPrefix s.data.toList p.data.toList
def Zcl (s p:ByteArray):ByteArray:=⟨(Lib.cut s.data.toList p.data.toList).1.toArray⟩
def ZcD (s p:ByteArray):ByteArray:=⟨(Lib.cut s.data.toList p.data.toList).2.1.toArray⟩
def Zjw (s p:ByteArray):Bool:=(Lib.cut s.data.toList p.data.toList).2.2
section
variable (w0:World) (B:Ao) (Rw:Au) (L:As)
theorem RS (s c:ByteArray) (h:s.size≤4294967280∧c=stops) :
  ACalls Tryz.prog w0 235 [.val (.string s),.val (.string c)] ⟨B,Rw,L⟩ fun v s'=>v=Ak (Zmw s)∧s'=⟨B,Rw,L⟩ :=
 FX (A0 Tryz.func235 rfl (by decide)) rfl fun M w b g a=>by
  obtain ⟨h,rfl⟩:=h
  have:=JK (us:=[.string s,.string stops]) a
  subst this
  by_cases h8:s.size≤8
  ·exact Zag Tryz.lays153 s w h8
  ·refine (Tryz.strings_IndexAny_long (zero_of_info (show (Tryz.prog.info? 346).map (fun i=>(i.zero,i.size))=some (some (.agg (Array.replicate 256 (.bool false))),256) by kernel_rfl)).1 s stops w (by decide) (by omega) (by omega) (by decide) ZH).mono fun e j ⟨d,f⟩=>⟨d,?_⟩
   rw [f]
   exact ((Below.refl _ _).alloc (Nat.le_refl _) _).alloc (by simp) _
theorem Ry (s p:ByteArray) :
  ACalls Tryz.prog w0 236 [.val (.string s),.val (.string p)] ⟨B,Rw,L⟩ fun v s'=>v = .val (.bool (ZdE s p))∧s'=⟨B,Rw,L⟩ :=
 FX (A0 Tryz.func236 rfl (by decide)) rfl fun M w b f a=>by
  have:=JK (us:=[.string s,.string p]) a
  subst this
  exact (Tryz.strings_HasPrefix s p w).mono fun e g ⟨c,d⟩=>⟨c,d▸Below.refl _ _⟩
theorem ZbG (s p:ByteArray):(Zcl s p).size≤s.size∧(ZcD s p).size≤s.size:=by
 have e:s.data.toList.length=s.size:=by simp
 unfold Zcl ZcD Lib.cut
 split
 ·refine ⟨?_,?_⟩
  ·show ((s.data.toList.take _).toArray).size≤_
   rw [List.size_toArray,List.length_take];omega
  ·show ((s.data.toList.drop _).toArray).size≤_
   rw [List.size_toArray,List.length_drop];omega
 ·refine ⟨?_,?_⟩
  ·show (s.data.toList.toArray).size≤_
   rw [List.size_toArray];omega
  ·exact Nat.zero_le _
theorem Zcu (hM:YB w0) (s p:ByteArray) (h:s.size≤4294967280) :
  ACalls Tryz.prog w0 237 [.val (.string s),.val (.string p)] ⟨B,Rw,L⟩ fun v s'=>v = .tup [.val (.string (Zcl s p)),.val (.string (ZcD s p)),.val (.bool (Zjw s p))]∧s'=⟨B,Rw,L⟩ :=
 OU (rs:=[.string (Zcl s p),.string (ZcD s p),.bool (Zjw s p)]) (A0 Tryz.func237 rfl (by decide)) (by
  obtain ⟨l,j⟩:=ZbG s p
  have k:∀ x:ByteArray,x.size≤s.size→Gg (.string x)=true:=fun x q=>Ag (by unfold maxLen;omega)
  intro r c
  simp only [List.mem_cons,List.not_mem_nil,or_false] at c
  rcases c with rfl | rfl | rfl
  ·exact k _ l
  ·exact k _ j
  ·rfl) fun M w b i a=>by
  have:=JK (us:=[.string s,.string p]) a
  subst this
  obtain ⟨m,f⟩:=hM
  exact (Tryz.strings_Cut s p m w (by omega) (QO f i)).mono fun e o ⟨d,n,g⟩=>⟨d,g▸(⟨rfl,rfl,rfl,Nat.le_refl _,fun _ _=>rfl⟩:Below w.heap.size w (w.drewN n))⟩
end
@[go_sem] theorem Zgi:UW Tryz.prog 312=true:=by kernel_rfl
end Go.Proofs.YtcdnijfbfdnjlaaGreatDoor
namespace Go.Ev
open Go Go.RowKit Go.Shelf Go.Lib Go.Proofs
structure DelLay (P:Program) (ρ:Ren) (nm:String) (sz bytes:Nat) (z:Value):Prop where
 mixed:P.follows .mixedOrders=true
 nmo:(nm == "runtime.NumGoroutine")=false
 f45:P.funcs[ρ.f 45]? = some { SlBodyN.n45 ρ with name:=nm }
 t0:P.underlying (ρ.t 0)=some (TypeDesc.tuple #[])
 a0:∀ w,(isAgg (ρ.t 0)).run P w = .ok false w
 z0:∀ w,(Go.sizeOf (ρ.t 0)).run P w = .ok 1 w
 v0:∀ w,(zeroValue (ρ.t 0)).run P w = .ok (Value.tuple #[]) w
 t3:P.underlying (ρ.t 3)=some (TypeDesc.int IntKind.i64)
 a3:∀ w,(isAgg (ρ.t 3)).run P w = .ok false w
 z3:∀ w,(Go.sizeOf (ρ.t 3)).run P w = .ok 1 w
 v3:∀ w,(zeroValue (ρ.t 3)).run P w = .ok (Value.int IntKind.i64 0) w
 t4:P.underlying (ρ.t 4)=some (TypeDesc.bool)
 a4:∀ w,(isAgg (ρ.t 4)).run P w = .ok false w
 z4:∀ w,(Go.sizeOf (ρ.t 4)).run P w = .ok 1 w
 v4:∀ w,(zeroValue (ρ.t 4)).run P w = .ok (Value.bool false) w
 t22:P.underlying (ρ.t 22)=some (TypeDesc.slice (ρ.t 23))
 a22:∀ w,(isAgg (ρ.t 22)).run P w = .ok false w
 z22:∀ w,(Go.sizeOf (ρ.t 22)).run P w = .ok 1 w
 v22:∀ w,(zeroValue (ρ.t 22)).run P w = .ok (Value.slice none 0 0) w
 z23:∀ w,(Go.sizeOf (ρ.t 23)).run P w = .ok sz w
 v23:∀ w,(zeroValue (ρ.t 23)).run P w = .ok z w
 i23:(P.info? (ρ.t 23)).map (fun i=>(i.zero,i.size,i.bytes))=some (some z,sz,bytes)
section
variable {P:Program} {ρ:Ren} {nm:String} {sz bytes:Nat} {z:Value}
theorem UC (w:World) (t e ty:TypeId) (ht:P.underlying t=some (.slice e)) (hv:∀ w,(zeroValue e).run P w = .ok z w) (b o n c:Nat) (zs:List Value) (hzs:(Builtin.zeroCells z.cells n).toList=zs) (h1:∀ v∈zs,v.oneCell'=true) (hn:0<n)
  (hc:∀ j,j<zs.length→(w.cell? ⟨b,o+j,none⟩).isSome=true) (hf:∀ j,j<zs.length→w.frozen? ⟨b,o+j,none⟩=false) :
  (Builtin.clear_ #[t] ty #[.slice (some ⟨b,o,none⟩) n c]).run P w = .ok (.tuple #[]) (w.setCells b o zs):=by
 have a:=run_storeCells_cells (P:=P) b o zs 0 w (by simpa using hc) (by simpa using hf) h1
 simp only [Nat.add_zero] at a
 obtain ⟨m,rfl⟩:∃ m,n=m+1:=⟨n-1,by omega⟩
 simp [Builtin.clear_,run_underlying ht,hv,hzs,a]
set_option maxRecDepth 1000000 in
theorem ZX (L:DelLay P ρ nm sz bytes z) (b off n c i j:Nat) (cs zs:List Value) (w:World) (hij:i<j) (hj:j≤n) (hnc:n≤c) (hc63:c≤9223372036854775807)
  (hcl:cs.length=n*sz) (hcs:∀ k v,cs[k]? = some v→w.cell? ⟨b,off+k,none⟩=some v) (hfz:∀ k,w.frozen? ⟨b,k,none⟩=false) (h1c:∀ v∈cs,v.oneCell'=true)
  (hzs:(Builtin.zeroCells z.cells (n-(i+(n-j)))).toList=zs) (hzl:zs.length=(j-i)*sz) (h1z:∀ v∈zs,v.oneCell'=true) :
  Calls P (ρ.f 45) #[.slice (some ⟨b,off,none⟩) n c,.int .i64 i,.int .i64 j] w fun e w' =>
   e = .returned (.slice (some ⟨b,off,none⟩) (i+(n-j)) c)∧w'=(w.drew.setCells b (off+i*sz) (cs.drop (j*sz))).setCells b (off+(i+(n-j))*sz) zs:=by
 have t0:=L.t0;have a0:=L.a0;have z0:=L.z0;have v0:=L.v0;have t3:=L.t3;have a3:=L.a3;have z3:=L.z3;have v3:=L.v3;have t4:=L.t4;have a4:=L.a4;have z4:=L.z4;have v4:=L.v4;have t22:=L.t22;have a22:=L.a22;have z22:=L.z22;have v22:=L.v22;have z23:=L.z23;have v23:=L.v23
 have u0:=run_underlying L.t0;have u3:=run_underlying L.t3;have u4:=run_underlying L.t4;have u22:=run_underlying L.t22
 have mixed:=L.mixed
 obtain ⟨i0,hi0,hz0,hz1,hz2⟩:=info_parts L.i23
 have e1:j*sz+(n-j)*sz=n*sz:=by rw [←Nat.add_mul];congr 1;omega
 have e2:i*sz+(j-i)*sz=j*sz:=by rw [←Nat.add_mul];congr 1;omega
 have e3:(i+(n-j))*sz=i*sz+(n-j)*sz:=Nat.add_mul ..
 have e4:n-(i+(n-j))=j-i:=by omega
 obtain ⟨news,hnews⟩:∃ news,news=cs.drop (j*sz):=⟨_,rfl⟩
 have hlen:news.length=(n-j)*sz:=by rw [hnews,List.length_drop,hcl];omega
 obtain ⟨A,hA,hsrc⟩:∃ A:Addr,(if c=j then some (⟨b,off,none⟩:Addr) else some ⟨b,off+j*sz,none⟩)=some A∧Hid (∀ t u,news[t]? = some u→w.drew.cell? (A.add t)=some u):=by
  by_cases h:c=j
  ·refine ⟨⟨b,off,none⟩,by simp [h],fun t u hu=>?_⟩
   have h0:news.length=0:=by rw [hlen,show n-j=0 by omega,Nat.zero_mul]
   rw [List.length_eq_zero_iff.1 h0] at hu
   simp at hu
  ·refine ⟨⟨b,off+j*sz,none⟩,by simp [h],fun t u hu=>?_⟩
   rw [hnews,List.getElem?_drop] at hu
   rw [Addr.add_lit,Nat.add_assoc]
   exact hcs _ _ hu
 have some_:∀ k,k<n*sz→(w.cell? ⟨b,off+k,none⟩).isSome=true:=fun k hk=>by
  rw [hcs k _ (List.getElem?_eq_getElem (by omega))];rfl
 have s1:Hid (news.length=(n-j)*sz):=hlen
 have s2:Hid (∀ u∈news,u.oneCell'=true):=fun u hu=>h1c u (by rw [hnews] at hu;exact List.mem_of_mem_drop hu)
 have s3:Hid (∀ t,t<news.length→(w.drew.cell? ⟨b,off+i*sz+t,none⟩).isSome=true∧w.drew.frozen? ⟨b,off+i*sz+t,none⟩=false):=by
  intro t ht
  rw [hlen] at ht
  rw [Nat.add_assoc]
  exact ⟨some_ _ (by omega),hfz _⟩
 obtain ⟨W1,hW1⟩:∃ W1,W1=w.drew.setCells b (off+i*sz) news:=⟨_,rfl⟩
 have some1:∀ k,k<n*sz→(W1.cell? ⟨b,off+k,none⟩).isSome=true:=fun k hk=>by
  rw [hW1]
  exact isSome_setCells b _ _ _ (fun t ht=>by rw [Nat.add_assoc];exact some_ _ (by omega)) _ (some_ k hk)
 have hcl:∀ ty,(Builtin.clear_ #[ρ.t 22] ty #[.slice (some ⟨b,off+(i+(n-j))*sz,none⟩) (n-(i+(n-j))) (c-(i+(n-j)))]).run P W1 = .ok (.tuple #[]) (W1.setCells b (off+(i+(n-j))*sz) zs) :=
  fun ty=>UC W1 _ _ ty t22 v23 b _ _ _ zs hzs h1z (by omega) (fun t ht=>by rw [Nat.add_assoc];exact some1 _ (by omega)) (fun t ht=>by rw [hW1,World.frozen?_setCells];exact hfz _)
 have hW:Hid (W1=w.drew.setCells b (off+i*sz) news):=hW1
 have hN:Aside (news=cs.drop (j*sz)):=hnews
 have hic:i≤c:=by omega
 have hjc:j≤c:=by omega
 have hijn:i≤n:=by omega
 clear hW1 hcs hnews hlen some_ some1 e1 e2 e3 e4 hzs hzl h1z h1c hfz
 have FG:=L.f45
 go_enter FG,SlBodyN.n45_ntmps ρ
 go_wp2_with fail
 go_region_law_o (refine step_append_room rfl (.tmp 22) (.tmp 25) (ρ.t 22) rfl (ρ.t 23) i0 sz t22 hi0 hz1 b off i c (by simp [Act.eval,Act.put]) A (n-j) (c-j) news (by simp [Act.eval,Act.put]) s1.out hsrc.out s2.out (by omega) s3.out ?_;rw [←hW.out])
 go_wp2
 go_ret
 refine ⟨rfl,?_⟩
 rw [hW.out,hN.out]
end
theorem Zlh {T rest:List Value} {cs:List AV} {a b N:Nat} {Rl:Value→AV→Prop} (hab:a≤b) (hbN:b≤N) (hN:N≤T.length) (hc:cs.length=N) (h:∀ (j:Nat) (v:Value) (x:AV),T[j]? = some v→cs[j]? = some x→Rl v x) (k:Nat) (v:Value) (x:AV)
  (h1:(T.take a++(T.take N).drop b++rest)[k]? = some v) (h2:(cs.take a++cs.drop b)[k]? = some x):Rl v x:=by
 have d:(T.take a).length=a:=by simp;omega
 have g:((T.take N).drop b).length=N-b:=by simp;omega
 have f:(cs.take a).length=a:=by simp;omega
 rw [List.append_assoc] at h1
 by_cases c:k<a
 ·rw [List.getElem?_append_left (by omega),List.getElem?_take,Ah c] at h1 h2
  exact h k v x h1 h2
 ·rw [List.getElem?_append_right (by omega),f,List.getElem?_drop] at h2
  have e:=(Aj.1 h2).1
  rw [List.getElem?_append_right (by omega),d,List.getElem?_append_left (by omega),List.getElem?_drop,List.getElem?_take,Ab] at h1
  exact h _ v x h1 h2
theorem Zbc {z:Value} (h:∀ v∈z.cells.toList,v.oneCell'=true) (n:Nat):∀ v∈(Builtin.zeroCells z.cells n).toList,v.oneCell'=true:=by
 intro v hv
 rw [Builtin.zeroCells,Array.toList_map,List.mem_map] at hv
 obtain ⟨k,b,rfl⟩:=hv
 by_cases c:z.cells.size=0
 ·simp [c] at b
 ·have a:k % z.cells.size<z.cells.size:=Nat.mod_lt _ (by omega)
  rw [getElem!_pos z.cells _ a]
  exact h _ (by simp)
section
variable {P:Program} {w0:World} {ρ:Ren} {nm:String} {sz bytes:Nat} {z:Value} {st:St} {M:Mem} {w:World}
theorem Yd (L:DelLay P ρ nm sz bytes z) (hzc:z.cells.size=sz) (hz1:∀ v∈z.cells.toList,v.oneCell'=true) (h0:0<sz) {id ver n i j:Nat} {cs:List AV} (hrow:st.rows[id]? = some (.vec ver sz cs)) (hcs:cs.length=n*sz) (hij:i<j) (hj:j≤n)
  {v0:Value} (hst:RelSt w0 M st w) (hv0:R w0 M w v0 (.vec id ver 0 n)) :
  Calls P (ρ.f 45) #[v0,.int .i64 i,.int .i64 j] w (Comes' w0 M w fun r s=>r = .vec id (ver+1) 0 (i+(n-j))∧s={ st with rows:=st.rows.set id (.vec (ver+1) sz (cs.take (i*sz)++cs.drop (j*sz))) }):=by
 have d:id<M.NR:=by rw [hst.NR];exact (Aj.1 hrow).1
 obtain ⟨f1,f2,f3,f4,f5,f6,f7,cur,te,f8,f9,ag,E,K⟩:=hst.row id _ hrow
 cases hv0 with
 | @vec _ _ _ _ p cap hid' hver hh =>
 obtain ⟨rfl,hcap,Z⟩:=hh f1.symm
 simp only [Nat.add_zero,Nat.zero_mul] at hcap ⊢
 subst hcap
 have e1:j*sz+(n-j)*sz=n*sz:=by rw [←Nat.add_mul];congr 1;omega
 have e2:i*sz+(j-i)*sz=j*sz:=by rw [←Nat.add_mul];congr 1;omega
 have e3:(i+(n-j))*sz=i*sz+(n-j)*sz:=Nat.add_mul ..
 have e4:n-(i+(n-j))=j-i:=by omega
 have F:n*sz≤cur.size:=by rw [f9];exact Nat.mul_le_mul_right _ Z
 have e:(cur.toList.take (n*sz)).length=n*sz:=by simp;omega
 have m:∀ v∈cur.toList.take (n*sz),v.oneCell'=true:=by
  intro v hv
  obtain ⟨k,hk,rfl⟩:=List.mem_iff_getElem.1 hv
  rw [e] at hk
  rw [List.getElem_take,Array.getElem_toList]
  exact (K k (by omega) (by omega)).oneCell (E _ (List.getElem_mem _))
 have D:∀ k v,(cur.toList.take (n*sz))[k]? = some v→w.cell? ⟨M.blk id,0+k,none⟩=some v:=by
  intro k u hk
  rw [List.getElem?_take] at hk
  split at hk
  ·rw [Nat.zero_add,cell_of_row w _ k cur te _ f8,←Array.getElem?_toList];exact hk
  ·cases hk
 have H:∀ x∈cs.take (i*sz)++cs.drop (j*sz),x.one=true:=by
  intro x hx
  rcases List.mem_append.1 hx with hx | hx
  ·exact E x (List.mem_of_mem_take hx)
  ·exact E x (List.mem_of_mem_drop hx)
 have ab:(cs.take (i*sz)++cs.drop (j*sz)).length=(i+(n-j))*sz:=by
  rw [List.length_append,List.length_take,List.length_drop,e3];omega
 have y:∀ (cells:Array Value) (rest:List Value),cells.toList=cur.toList.take (i*sz)++(cur.toList.take (n*sz)).drop (j*sz)++rest→∀ (k:Nat) (v:Value) (x:AV),cells[k]? = some v→(cs.take (i*sz)++cs.drop (j*sz))[k]? = some x→R w0 M w v x:=by
  intro cells rest Y k v x V ae
  rw [←Array.getElem?_toList,Y] at V
  refine Zlh (T:=cur.toList) (rest:=rest) (N:=n*sz) (by omega) (by omega) (by simpa using F) hcs (fun j v x h1 h2=>?_) k v x V ae
  rw [Array.getElem?_toList] at h1
  obtain ⟨q1,rfl⟩:=Array.getElem?_eq_some_iff.1 h1
  obtain ⟨q2,rfl⟩:=Aj.1 h2
  exact K j q1 q2
 obtain ⟨d1,d2⟩:=hst.drew
 obtain ⟨zs,hzs⟩:∃ zs,(Builtin.zeroCells z.cells (n-(i+(n-j)))).toList=zs:=⟨_,rfl⟩
 have O:zs.length=(j-i)*sz:=by rw [←hzs,Array.length_toList,size_zeroCells,hzc,e4]
 have U:∀ v∈zs,v.oneCell'=true:=by rw [←hzs];exact Zbc hz1 _
 refine (ZX L (M.blk id) 0 n (M.cap id) i j (cur.toList.take (n*sz)) zs w hij hj Z (by unfold maxLen at f6;omega) e D (fun k=>by simp [World.frozen?,f8]) m hzs O U).mono ?_
 rintro en w' ⟨rfl,rfl⟩
 have h:w.drew.heap[M.blk id]? = some (.cells cur te (0,0)):=f8
 have J:((cur.toList.take (n*sz)).drop (j*sz)).length=(n-j)*sz:=by rw [List.length_drop,e];omega
 rw [NY P h _ _ (by rw [J];omega) (fun v hv=>m v (List.mem_of_mem_drop hv))]
 have aa:=setRow_heap w.drew (M.blk id) cur (cur.toList.take (0+i*sz)++(cur.toList.take (n*sz)).drop (j*sz)++cur.toList.drop (0+i*sz+((cur.toList.take (n*sz)).drop (j*sz)).length)).toArray te _ h
 rw [NY P aa _ _ (by simp only [List.size_toArray,List.length_append,List.length_take,List.length_drop,Array.length_toList];omega) U,setRow_setRow]
 simp only [Nat.zero_add]
 generalize hc':((cur.toList.take (i*sz)++(cur.toList.take (n*sz)).drop (j*sz)++cur.toList.drop (i*sz+((cur.toList.take (n*sz)).drop (j*sz)).length)).take ((i+(n-j))*sz)++zs++(cur.toList.take (i*sz)++(cur.toList.take (n*sz)).drop (j*sz)++cur.toList.drop (i*sz+((cur.toList.take (n*sz)).drop (j*sz)).length)).drop ((i+(n-j))*sz+zs.length)).toArray=cur'
 have af:(cur.toList.take (i*sz)++(cur.toList.take (n*sz)).drop (j*sz)).length=(i+(n-j))*sz:=by
  rw [List.length_append,J,List.length_take,Array.length_toList,e3];omega
 have g:cur'.toList=cur.toList.take (i*sz)++(cur.toList.take (n*sz)).drop (j*sz)++(zs++(cur.toList.take (i*sz)++(cur.toList.take (n*sz)).drop (j*sz)++cur.toList.drop (i*sz+((cur.toList.take (n*sz)).drop (j*sz)).length)).drop ((i+(n-j))*sz+zs.length)):=by
  rw [←hc',List.take_append_of_le_length (by omega),List.take_of_length_le (by omega)]
  simp only [List.append_assoc]
 have C:cur'.size=cur.size:=by
  rw [←Array.length_toList,g]
  simp only [List.length_append,List.length_take,List.length_drop,Array.length_toList,O]
  omega
 have o:Ext w0 M w.drew (M.growRow id (M.blk id) (M.cap id) (ver+1) 0) (w.drew.setRow (M.blk id) cur'):=by
  refine Hq (M:=M) (M.growRow id (M.blk id) (M.cap id) (ver+1) 0) rfl (fun _ _=>rfl) rfl (fun i hi=>?_) (fun b=>?_) h f3 (fun j hj=>by rw [f4] at hj;omega) (Mem.own_row d) (fun b=>J5 d)
  ·by_cases c:i=id
   ·subst c
    simp only [Mem.growRow,if_true,f1]
    exact ⟨by omega,fun q=>absurd q (by omega)⟩
   ·simp only [Mem.growRow,Ai c]
    exact ⟨Nat.le_refl _,fun _=>⟨trivial,trivial,trivial⟩⟩
  ·simp only [Mem.growRow]
   split
   ·rename_i c
    rw [c,f4]
    exact Nat.le_refl _
   ·exact Nat.le_refl _
 have Q:=hst.row_lt d
 have q:(M.growRow id (M.blk id) (M.cap id) (ver+1) 0).fr id=ver+1∧(M.growRow id (M.blk id) (M.cap id) (ver+1) 0).blk id=M.blk id∧(M.growRow id (M.blk id) (M.cap id) (ver+1) 0).cap id=M.cap id∧(M.growRow id (M.blk id) (M.cap id) (ver+1) 0).rsz id=M.rsz id∧(M.growRow id (M.blk id) (M.cap id) (ver+1) 0).top (M.blk id)=0:=by simp [Mem.growRow]
 obtain ⟨q1,q2,q3,q4,q5⟩:=q
 have t:i+(n-j)≤M.cap id:=by omega
 have G:=d1.growRow' hrow (x := .vec (ver+1) sz (cs.take (i*sz)++cs.drop (j*sz))) (w':=w.drew.setRow (M.blk id) cur') (b:=M.blk id) (cap:=M.cap id) (k:=ver+1) (tp:=0) (Below.setRow (Below.refl _ _) f3 _) (by simp) (by simpa using Q)
  (fun l hl=>⟨f5 l hl,setRow_other w.drew _ _ _ (f5 l hl)⟩) (fun i hi ad=>by
   have:M.blk i≠M.blk id:=fun q=>ad (hst.rowinj i id hi d q)
   exact ⟨this,setRow_other w.drew _ _ _ this⟩) (by
   simp only [RowOk,q1,q2,q3,q4,q5]
   exact ⟨trivial,f2,f3,trivial,f5,f6,h0,cur',te,setRow_heap w.drew _ cur cur' te _ h,C.trans f9,by rw [ab,C,f9];exact Nat.mul_le_mul_right _ t,H,
    fun i a b=>((y cur' _ g i _ _ (Array.getElem?_eq_getElem a) (List.getElem?_eq_getElem b)).mono d2).mono o⟩) o (KeepsObj.setRow h _)
 exact ⟨_,_,_,_,rfl,⟨rfl,rfl⟩,d2.trans o,G,.vec d (by rw [q1];exact Nat.le_refl _) fun _=>⟨by rw [q2];simp,by rw [q3];rfl,t⟩⟩
theorem XO (L:DelLay P ρ nm sz bytes z) (hen:IB P (ρ.f 45)) (hzc:z.cells.size=sz) (hz1:∀ v∈z.cells.toList,v.oneCell'=true) (h0:0<sz) {id ver n i j:Nat} {cs:List AV} (hrow:st.rows[id]? = some (.vec ver sz cs)) (hcs:cs.length=n*sz) (hij:i<j) (hj:j≤n) :
  ACalls P w0 (ρ.f 45) [.vec id ver 0 n,Ak i,Ak j] st fun r s=>r = .vec id (ver+1) 0 (i+(n-j))∧s={ st with rows:=st.rows.set id (.vec (ver+1) sz (cs.take (i*sz)++cs.drop (j*sz))) }:=by
 refine ⟨hen,fun M w e g d=>?_⟩
 obtain ⟨v0,v1,v2,rfl⟩:∃ v0 v1 v2,e = #[v0,v1,v2]:=by
  have:=d.1
  simp only [List.length_cons,List.length_nil] at this
  obtain ⟨l⟩:=e
  match l,this with
  | [a,b,c],_=>exact ⟨a,b,c,rfl⟩
 have k:R w0 M w v0 (.vec id ver 0 n):=d.2 0 (by simp) (by simp)
 have m:R w0 M w v1 (Ak i):=d.2 1 (by simp) (by simp)
 have h:R w0 M w v2 (Ak j):=d.2 2 (by simp) (by simp)
 obtain ⟨rfl,_⟩:=m.val_inv
 obtain ⟨rfl,_⟩:=h.val_inv
 exact Yd L hzc hz1 h0 hrow hcs hij hj g k
end
end Go.Ev
namespace Go.Proofs.YtcdnijfbfdnjlaaGreatDoor
open Go Go.RowKit Go.Ev
set_option maxRecDepth 100000
noncomputable def ZbI:Nat→Nat→List UInt8
 | 0,_=>[]
 | k+1,u=>if Nat.blt u 10=true then [UInt8.ofNat (48+u)] else ZbI k (u / 10)++[UInt8.ofNat (48+u % 10)]
theorem YF:∀ (k u:Nat),u<10 ^ k→0<k→ZbI k u=Lib.decDigits u
 | 0,u,_,h=>absurd h (Nat.lt_irrefl _)
 | k+1,u,h,_=>by
  rw [ZbI,Lib.decDigits]
  by_cases q:u<10
  ·rw [Ah (by simpa using q),dif_pos q]
  ·rw [Ai (by simpa using q),dif_neg q]
   have a:0<k:=by
    cases k with
    | zero=>simp at h;omega
    | succ k=>omega
   rw [YF k (u / 10) (by rw [Nat.pow_succ] at h;omega) a]
theorem Zn7 {x y:ByteArray} (h:NB x y=true):x=y:=by
 have:x.data.toList=y.data.toList:=eq_of_beq h
 have:x.data=y.data:=Array.toList_inj.1 this
 cases x;cases y;simp_all
section
noncomputable def Zh7 (f:FuncId) (args:List AV):Option AV :=
 if Nat.beq f 235=true then (match args with | [.val (.string s),.val (.string c)]=>if (Nat.ble s.size 4294967280&&NB c stops)=true then some (.val (.int .i64 (Zmw s))) else none | _=>none)
 else if Nat.beq f 236=true then (match args with | [.val (.string s),.val (.string p)]=>some (.val (.bool (ZdE s p))) | _=>none)
 else if Nat.beq f 237=true then (match args with | [.val (.string s),.val (.string p)]=>if Nat.ble s.size 4294967280=true then some (.tup [.val (.string (Zcl s p)),.val (.string (ZcD s p)),.val (.bool (Zjw s p))]) else none | _=>none)
 else if Nat.beq f 64=true then (match args with | [.val (.string s),.val (.string p)]=>some (.val (.int .i64 (Uu s p))) | _=>none)
 else if Nat.beq f 115=true then (match args with | [.val (.string s)]=>if Nat.ble s.size 4294967280=true then some (.val (.bool (Lib.validD s.data.toList))) else none | _=>none)
 else if Nat.beq f 86=true then (match args with | [.val (.int .i64 (.ofNat n))]=>if Nat.blt n 1000000000000000000=true then some (.val (.string ⟨(ZbI 18 n).toArray⟩)) else none | _=>none)
 else if Nat.beq f 88=true then (match args with | [.list [] .none]=>some (.list [] .full) | [.list [] .full]=>some (.list [] .full) | [.list [] .seed]=>some (.list [] .full) | _=>none)
 else if Nat.beq f 92=true then (match args with | [.list [] .none]=>some (.list [] .full) | [.list [] .full]=>some (.list [] .full) | [.list [] .seed]=>some (.list [] .full) | _=>none)
 else if Nat.beq f 349=true then (match args with | [.list [] .none]=>some (.list [] .full) | [.list [] .full]=>some (.list [] .full) | [.list [] .seed]=>some (.list [] .full) | _=>none)
 else none
noncomputable def Zln (f:FuncId) (args:List AV):Option AV:=Bool.rec (motive:=fun _=>Option AV) none (Zh7 f args) (PI 1146749307995035755805410447651043856896077914855712658215122707206886816844725052471715258846899221823488 f)
theorem Zfa {w0:World} (hM:YB w0) (hP:Pow10 w0) (hT:Lib.Utf8Tabs 1 2 w0) (f:FuncId) (args:List AV) (v:AV) (st:St) (h:Zln f args=some v):ACalls Tryz.prog w0 f args st fun r s=>r=v∧s=st:=by
 replace h:=(Hz h).2
 obtain ⟨B,Rw,L⟩:=st
 unfold Zh7 at h
 split at h
 ·rename_i q;obtain rfl:=Nat.eq_of_beq_eq_true q
  split at h
  ·split at h
   ·rename_i q
    rw [Bool.and_eq_true] at q
    cases h
    refine RS w0 B Rw L _ _ ⟨Nat.le_of_ble_eq_true q.1,Zn7 q.2⟩
   ·cases h
  ·cases h
 split at h
 ·rename_i q;obtain rfl:=Nat.eq_of_beq_eq_true q
  split at h
  ·cases h;exact Ry w0 B Rw L _ _
  ·cases h
 split at h
 ·rename_i q;obtain rfl:=Nat.eq_of_beq_eq_true q
  split at h
  ·split at h
   ·rename_i q;cases h;exact Zcu w0 B Rw L hM _ _ (Nat.le_of_ble_eq_true q)
   ·cases h
  ·cases h
 split at h
 ·rename_i q;obtain rfl:=Nat.eq_of_beq_eq_true q
  split at h
  ·cases h;exact Ks w0 B Rw L _ _
  ·cases h
 split at h
 ·rename_i q;obtain rfl:=Nat.eq_of_beq_eq_true q
  split at h
  ·split at h
   ·rename_i q;cases h;exact Qw w0 B Rw L hT _ (by have:=Nat.le_of_ble_eq_true q;unfold maxLen;omega)
   ·cases h
  ·cases h
 split at h
 ·rename_i q;obtain rfl:=Nat.eq_of_beq_eq_true q
  split at h
  ·rename_i n
   split at h
   ·rename_i q
    have q:=ED q
    cases h
    have:=ZcI w0 B Rw L hP (n:Int) (by omega)
    have e:Lib.itoa (n:Int)=ZbI 18 n:=by
     rw [YF 18 n (by omega) (by decide)]
     unfold Lib.itoa;rw [Aa];simp
    rw [e] at this
    exact this
   ·cases h
  ·cases h
 split at h
 ·rename_i q;obtain rfl:=Nat.eq_of_beq_eq_true q
  have base:ACalls Tryz.prog w0 88 [.list [] .none] ⟨B,Rw,L⟩ fun r s=>r = .list [] .full∧s=⟨B,Rw,L⟩:=Ol w0 B Rw L [] (by decide)
  split at h
  ·cases h;exact base
  ·cases h;exact base.pub rfl
  ·cases h;exact base.pub rfl
  ·cases h
 split at h
 ·rename_i q;obtain rfl:=Nat.eq_of_beq_eq_true q
  have base:ACalls Tryz.prog w0 92 [.list [] .none] ⟨B,Rw,L⟩ fun r s=>r = .list [] .full∧s=⟨B,Rw,L⟩:=MN w0 B Rw L [] (by decide)
  split at h
  ·cases h;exact base
  ·cases h;exact base.pub rfl
  ·cases h;exact base.pub rfl
  ·cases h
 split at h
 ·rename_i q;obtain rfl:=Nat.eq_of_beq_eq_true q
  have base:ACalls Tryz.prog w0 349 [.list [] .none] ⟨B,Rw,L⟩ fun r s=>r = .list [] .full∧s=⟨B,Rw,L⟩:=Md w0 B Rw L [] (by decide)
  split at h
  ·cases h;exact base
  ·cases h;exact base.pub rfl
  ·cases h;exact base.pub rfl
  ·cases h
 cases h
noncomputable def Zmm:Go.Shelf.Ren:=⟨fun x=>if x=45 then 181 else x,
 fun x=>if x=23 then 60 else if x=22 then 35 else if x=3 then 3 else if x=4 then 4 else if x=0 then 0 else x,fun x=>x⟩
noncomputable def ZjY:Value := .agg #[.int .i64 0,.int .i64 0,.int .i64 0,.string ⟨#[]⟩,.slice none 0 0,.slice none 0 0,.int .i64 0,.int .i64 0,.slice none 0 0,.slice none 0 0]
theorem Zlt:DelLay Tryz.prog Zmm Tryz.f181.name 10 152 ZjY:={
  mixed:=by kernel_rfl
  nmo:=by kernel_rfl
  f45:=Tryz.func181.trans (congrArg some (by kernel_rfl))
  t0:=Tryz.underlying0
  a0:=Tryz.isAgg0
  z0:=Tryz.sizeOf0
  v0:=Tryz.zeroValue0
  t3:=Tryz.underlying3
  a3:=Tryz.isAgg3
  z3:=Tryz.sizeOf3
  v3:=Tryz.zeroValue3
  t4:=Tryz.underlying4
  a4:=Tryz.isAgg4
  z4:=Tryz.sizeOf4
  v4:=Tryz.zeroValue4
  t22:=Tryz.underlying35
  a22:=Tryz.isAgg35
  z22:=Tryz.sizeOf35
  v22:=Tryz.zeroValue35
  z23:=Tryz.sizeOf60
  v23:=Tryz.zeroValue60
  i23:=by kernel_rfl }
noncomputable def ZiY (F:Fl) (f:FuncId) (args:List AV) (st:St):Option (AV × St):=if Nat.beq f 181=true then (match args with
 | [.vec id ver 0 n,.val (.int .i64 (.ofNat i)),.val (.int .i64 (.ofNat j))]=>match st.rows[id]? with
  | some (.vec v sz cs)=>if (Nat.ble F.r id&&Nat.beq v ver&&Nat.beq sz 10&&Zav cs (n*10)&&Nat.blt i j&&Nat.ble j n)=true then some (.vec id (ver+1) 0 (i+(n-j)),{ st with rows:=st.rows.set id (.vec (ver+1) 10 (cs.take (i*10)++cs.drop (j*10))) }) else none
  | _=>none
 | _=>none) else none
theorem Zf9 {w0:World} (F:Fl) (f:FuncId) (args:List AV) (st:St) (v:AV) (st':St) (h:ZiY F f args st=some (v,st')):(ACalls Tryz.prog w0 f args st fun r s=>r=v∧s=st')∧(Fits F st→Pre F st st'):=by
 unfold ZiY at h
 split at h
 rotate_left
 ·cases h
 rename_i q;obtain rfl:=Nat.eq_of_beq_eq_true q
 split at h
 rotate_left
 ·cases h
 rename_i id ver n i j
 split at h
 rotate_left
 ·cases h
 rename_i v0 sz cs hrow
 split at h
 rotate_left
 ·cases h
 rename_i q
 simp only [Bool.and_eq_true] at q
 obtain ⟨⟨⟨⟨⟨q1,q2⟩,q3⟩,a⟩,b⟩,d⟩:=q
 obtain rfl:=Nat.eq_of_beq_eq_true q2
 obtain rfl:=Nat.eq_of_beq_eq_true q3
 cases h
 refine ⟨XO (P:=Tryz.prog) (w0:=w0) (st:=st) (i:=i) (j:=j) (n:=n) Zlt (A0 Tryz.func181 rfl (by decide)) rfl (by decide) (by decide) hrow (Oe _ _ a) (ED b) (Nat.le_of_ble_eq_true d),fun c=>Pre.row _ c (Nat.le_of_ble_eq_true q1)⟩
noncomputable def cfgL:Cfg:={ gl:=fun _ _=>none,ext:=Zln,exs:=ZiY,isX:=fun f=>PI 1146749307995035755805410447651043470398282494584140561868794419693461438044247665280176239421299884032000 f,kp:=fun f=>PI 5261245203857480215647223808 f,im:=fun f=>PI 159454999699686663421860952481531785723171750266803201923912100394330450366104763040445232027265255588303129611862016 f,imx:=fun f g=>([(99,50),(141,50),(175,65),(138,88),(54,92),(55,92)]:List (Nat × Nat)).any (fun p=>Nat.beq p.1 f&&Nat.beq p.2 g),q:=100000,m:=0 }
theorem ZdF {w0:World} (hM:YB w0) (hP:Pow10 w0) (hT:Lib.Utf8Tabs 1 2 w0) (k:Nat) (f:FuncId) (args:List AV) (st:St) (v:AV) (st':St) (h:I1 Tryz.prog cfgL k none f args st=some (v,st')):ACalls Tryz.prog w0 f args st fun r s=>r=v∧s=st' :=
 XG (by kernel_rfl) (fun _ _ _ h=>by cases h) (Zfa hM hP hT) Zf9 k none f args st v st' h
end
set_option maxRecDepth 100000
section
noncomputable def VZ:Code→Code
 | .seq a _=>a
 | c=>c
noncomputable def C9:Code→Code
 | .seq _ b=>b
 | c=>c
theorem MZ {X:SX} {k:Nat} {c:Code} {e:Env} {st:St} {e1:Env} {s1:St} {r:QR} (hc:c = .seq (VZ c) (C9 c)) (h1:KA X k (VZ c) e st=some (.normal,e1,s1)) (h2:KA X k (C9 c) e1 s1=r):KA X (k+1) c e st=r:=by
 rw [hc]
 show Zco (KA X k (C9 c)) (KA X k (VZ c) e st)=r
 rw [h1]
 exact h2
theorem Zi7 {P:Program} {C:Cfg} {k:Nat} {f:FuncId} {fn:Func} {c:Code} {args:List AV} {x:Exit} {e:Env} {s:St} {r:Option (AV × St)} (hext:C.ext f args=none) (hf:P.funcs[f]? = some fn) (hb:fn.body=some c) (hc:fn.name ≠ "runtime.NumGoroutine" ∧ args.length≤fn.ntmps∧fn.ntmps≤1000000)
  (h:KA ⟨P,fn.ntmps,true,⟨0,0,0⟩,C.at f (JD fn c),JU (I1 P C k),LF P (C.at f (JD fn c)) (I1 P C k) ⟨0,0,0⟩⟩ C.q c (Az 0 args) ⟨[],[],[]⟩=some (x,e,s)) (hx:x = .normal∨x = .ret) (ho:T9 P C none f fn ⟨0,0,0⟩ ⟨[],[],[]⟩ e s=r):I1 P C (k+1) none f args ⟨[],[],[]⟩=r:=by
 rw [I1]
 simp only [hext,hf,hb]
 rw [Ah hc]
 unfold ZdW ZkS
 simp only
 rw [UP]
 unfold Vr
 rw [QC]
 have h:SD P fn.ntmps true ⟨0,0,0⟩ (C.at f (JD fn c)) (JU (I1 P C k)) (LF P (C.at f (JD fn c)) (I1 P C k) ⟨0,0,0⟩) C.q c (Az 0 args) ⟨[],[],[]⟩=some (x,e,s):=h
 show (match SD P fn.ntmps true ⟨0,0,0⟩ (C.at f (JD fn c)) (JU (I1 P C k)) (LF P (C.at f (JD fn c)) (I1 P C k) ⟨0,0,0⟩) C.q c (Az 0 args) ⟨[],[],[]⟩ with
  | some (.normal,e',s')=>T9 P C none f fn ⟨0,0,0⟩ ⟨[],[],[]⟩ e' s'
  | some (.ret,e',s')=>T9 P C none f fn ⟨0,0,0⟩ ⟨[],[],[]⟩ e' s'
  | _=>none)=r
 rw [h]
 rcases hx with rfl | rfl<;>exact ho
noncomputable def kC:Code:=(Tryz.f9.body).getD .skip
noncomputable def kX:SX:=⟨Tryz.prog,Tryz.f9.ntmps,true,⟨0,0,0⟩,cfgL.at 9 (JD Tryz.f9 kC),JU (I1 Tryz.prog cfgL 59),LF Tryz.prog (cfgL.at 9 (JD Tryz.f9 kC)) (I1 Tryz.prog cfgL 59) ⟨0,0,0⟩⟩
end
set_option maxRecDepth 100000
set_option maxHeartbeats 4000000
noncomputable def kE0:Env:=[]
noncomputable def kS0:St:=⟨[],[],[]⟩
noncomputable def kE1:Env:=[(0,(true,(.val (.bool false))))]
noncomputable def kS1:St:=⟨[],[],[]⟩
noncomputable def kE2:Env:=[(1,(true,(.box 0 0))),(0,(true,(.val (.bool false))))]
noncomputable def kS2:St:=⟨[[(.val (.string ⟨#[115,97,103,97]⟩)),(Ak 10),(Ak 0),(Ak 0),(Ak 0),(Ak 0),(Ak 5),(.val (.string ⟨#[]⟩)),(Ak 9),(Ak 0),(Ak 0),(Ak 0),(.list [] .none),(.list [] .none),(.list [(.agg [(Ak 1),(.val (.string ⟨#[110]⟩)),(Ak 1),(Ak 2),(Ak 0),(Ak 9),(Ak 0),(.list [] .none),(.list [] .none),(.list [] .none),(.list [] .none)])] .none),(.list [(.agg [(Ak 9),(Ak 0),(Ak 0),(Ak 0),(.list [] .none),(.list [] .none),(.list [(.agg [(Ak 1),(.val (.string ⟨#[110]⟩)),(Ak 1),(Ak 2),(Ak 0),(Ak 99),(Ak 0),(.list [] .none),(.list [] .none),(.list [] .none),(.list [] .none)])] .none)]),(.agg [(Ak 9),(Ak 0),(Ak 0),(Ak 0),(.list [] .none),(.list [] .none),(.list [(.agg [(Ak 1),(.val (.string ⟨#[111,107]⟩)),(Ak 1),(Ak 2),(Ak 0),(Ak 9),(Ak 0),(.list [] .none),(.list [] .none),(.list [] .none),(.list [] .none)])] .none)]),(.agg [(Ak 9),(Ak 0),(Ak 0),(Ak 0),(.list [] .none),(.list [] .none),(.list [(.agg [(Ak 1),(.val (.string ⟨#[110]⟩)),(Ak 1),(Ak 2),(Ak 0),(Ak 99),(Ak 0),(.list [] .none),(.list [] .none),(.list [] .none),(.list [] .none)])] .none)]),(.agg [(Ak 9),(Ak 0),(Ak 0),(Ak 0),(.list [] .none),(.list [] .none),(.list [(.agg [(Ak 1),(.val (.string ⟨#[111,107]⟩)),(Ak 1),(Ak 2),(Ak 0),(Ak 9),(Ak 0),(.list [] .none),(.list [] .none),(.list [] .none),(.list [] .none)])] .none)])] .none),(.list [] .none),(.list [(.agg [(.val (.string ⟨#[110]⟩)),(Ak 2),(Ak 0),(.val (.string ⟨#[114,101,112,108,121,50,46,111,107]⟩)),(.list [] .none),(.list [] .none)])] .none),(.list [(.agg [(.val (.string ⟨#[115,48]⟩)),(.list [(.agg [(.val (.string ⟨#[110]⟩)),(Ak 2),(Ak 0),(.val (.string ⟨#[98,111,100,121,46,110]⟩)),(.list [] .none),(.list [] .none)])] .none)]),(.agg [(.val (.string ⟨#[115,49]⟩)),(.list [(.agg [(.val (.string ⟨#[110]⟩)),(Ak 2),(Ak 0),(.val (.string ⟨#[98,111,100,121,46,110]⟩)),(.list [] .none),(.list [] .none)])] .none)])] .none),(.list [] .none)]],[],[]⟩
noncomputable def kE3:Env:=[(2,(true,(.box 1 0))),(0,(true,(.val (.bool false)))),(1,(true,(.box 0 0)))]
noncomputable def kS3:St:=⟨[[(.val (.string ⟨#[115,97,103,97]⟩)),(Ak 10),(Ak 0),(Ak 0),(Ak 0),(Ak 0),(Ak 5),(.val (.string ⟨#[]⟩)),(Ak 9),(Ak 0),(Ak 0),(Ak 0),(.list [] .none),(.list [] .none),(.list [(.agg [(Ak 1),(.val (.string ⟨#[110]⟩)),(Ak 1),(Ak 2),(Ak 0),(Ak 9),(Ak 0),(.list [] .none),(.list [] .none),(.list [] .none),(.list [] .none)])] .none),(.list [(.agg [(Ak 9),(Ak 0),(Ak 0),(Ak 0),(.list [] .none),(.list [] .none),(.list [(.agg [(Ak 1),(.val (.string ⟨#[110]⟩)),(Ak 1),(Ak 2),(Ak 0),(Ak 99),(Ak 0),(.list [] .none),(.list [] .none),(.list [] .none),(.list [] .none)])] .none)]),(.agg [(Ak 9),(Ak 0),(Ak 0),(Ak 0),(.list [] .none),(.list [] .none),(.list [(.agg [(Ak 1),(.val (.string ⟨#[111,107]⟩)),(Ak 1),(Ak 2),(Ak 0),(Ak 9),(Ak 0),(.list [] .none),(.list [] .none),(.list [] .none),(.list [] .none)])] .none)]),(.agg [(Ak 9),(Ak 0),(Ak 0),(Ak 0),(.list [] .none),(.list [] .none),(.list [(.agg [(Ak 1),(.val (.string ⟨#[110]⟩)),(Ak 1),(Ak 2),(Ak 0),(Ak 99),(Ak 0),(.list [] .none),(.list [] .none),(.list [] .none),(.list [] .none)])] .none)]),(.agg [(Ak 9),(Ak 0),(Ak 0),(Ak 0),(.list [] .none),(.list [] .none),(.list [(.agg [(Ak 1),(.val (.string ⟨#[111,107]⟩)),(Ak 1),(Ak 2),(Ak 0),(Ak 9),(Ak 0),(.list [] .none),(.list [] .none),(.list [] .none),(.list [] .none)])] .none)])] .none),(.list [] .none),(.list [(.agg [(.val (.string ⟨#[110]⟩)),(Ak 2),(Ak 0),(.val (.string ⟨#[114,101,112,108,121,50,46,111,107]⟩)),(.list [] .none),(.list [] .none)])] .none),(.list [(.agg [(.val (.string ⟨#[115,48]⟩)),(.list [(.agg [(.val (.string ⟨#[110]⟩)),(Ak 2),(Ak 0),(.val (.string ⟨#[98,111,100,121,46,110]⟩)),(.list [] .none),(.list [] .none)])] .none)]),(.agg [(.val (.string ⟨#[115,49]⟩)),(.list [(.agg [(.val (.string ⟨#[110]⟩)),(Ak 2),(Ak 0),(.val (.string ⟨#[98,111,100,121,46,110]⟩)),(.list [] .none),(.list [] .none)])] .none)])] .none),(.list [] .none)],[(Ak 2),(Ak 0),(.list [(.agg [(Ak 2),(Ak 1),(Ak 0),(.val (.string ⟨#[]⟩)),(.list [] .none),(.list [] .none),(Ak 0),(Ak 0),(.list [(.agg [(Ak 5),(.list [(Ak 1)] .none),(Ak 1048576),(.list [(Ak 5)] .none),(Ak 9),(Ak 0),(Ak 0),(.val (.string ⟨#[]⟩)),(.list [] .none),(.list [(.agg [(.val (.string ⟨#[110]⟩)),(Ak 2),(Ak 3),(Ak 0),(.val (.string ⟨#[]⟩)),(.list [] .none),(.list [] .none)])] .none)])] .none),(.list [(.agg [(Ak 9),(Ak 0),(Ak 0),(.val (.string ⟨#[]⟩)),(.list [] .none),(.list [(.agg [(.val (.string ⟨#[110]⟩)),(Ak 2),(Ak 3),(Ak 0),(.val (.string ⟨#[]⟩)),(.list [] .none),(.list [] .none)])] .none)])] .none)])] .none),(.list [] .none),(.list [(.agg [(Ak 5),(.list [(Ak 1),(Ak 0)] .none),(.val (.string ⟨#[115,48]⟩)),(Ak 1),(.val (.bool false)),(Ak 9),(Ak 0),(Ak 0),(.val (.string ⟨#[]⟩)),(.list [] .none),(.list [(.agg [(.val (.string ⟨#[110]⟩)),(Ak 2),(Ak 3),(Ak 0),(.val (.string ⟨#[]⟩)),(.list [] .none),(.list [] .none)])] .none)])] .none),(.list [] .none),(.list [] .none)]],[],[]⟩
noncomputable def kE4:Env:=[(3,(true,(.box 2 0))),(1,(true,(.box 0 0))),(0,(true,(.val (.bool false)))),(2,(true,(.box 1 0)))]
noncomputable def kS4:St:=⟨[[(.val (.string ⟨#[115,97,103,97]⟩)),(Ak 10),(Ak 0),(Ak 0),(Ak 0),(Ak 0),(Ak 5),(.val (.string ⟨#[]⟩)),(Ak 9),(Ak 0),(Ak 0),(Ak 0),(.list [] .none),(.list [] .none),(.list [(.agg [(Ak 1),(.val (.string ⟨#[110]⟩)),(Ak 1),(Ak 2),(Ak 0),(Ak 9),(Ak 0),(.list [] .none),(.list [] .none),(.list [] .none),(.list [] .none)])] .none),(.list [(.agg [(Ak 9),(Ak 0),(Ak 0),(Ak 0),(.list [] .none),(.list [] .none),(.list [(.agg [(Ak 1),(.val (.string ⟨#[110]⟩)),(Ak 1),(Ak 2),(Ak 0),(Ak 99),(Ak 0),(.list [] .none),(.list [] .none),(.list [] .none),(.list [] .none)])] .none)]),(.agg [(Ak 9),(Ak 0),(Ak 0),(Ak 0),(.list [] .none),(.list [] .none),(.list [(.agg [(Ak 1),(.val (.string ⟨#[111,107]⟩)),(Ak 1),(Ak 2),(Ak 0),(Ak 9),(Ak 0),(.list [] .none),(.list [] .none),(.list [] .none),(.list [] .none)])] .none)]),(.agg [(Ak 9),(Ak 0),(Ak 0),(Ak 0),(.list [] .none),(.list [] .none),(.list [(.agg [(Ak 1),(.val (.string ⟨#[110]⟩)),(Ak 1),(Ak 2),(Ak 0),(Ak 99),(Ak 0),(.list [] .none),(.list [] .none),(.list [] .none),(.list [] .none)])] .none)]),(.agg [(Ak 9),(Ak 0),(Ak 0),(Ak 0),(.list [] .none),(.list [] .none),(.list [(.agg [(Ak 1),(.val (.string ⟨#[111,107]⟩)),(Ak 1),(Ak 2),(Ak 0),(Ak 9),(Ak 0),(.list [] .none),(.list [] .none),(.list [] .none),(.list [] .none)])] .none)])] .none),(.list [] .none),(.list [(.agg [(.val (.string ⟨#[110]⟩)),(Ak 2),(Ak 0),(.val (.string ⟨#[114,101,112,108,121,50,46,111,107]⟩)),(.list [] .none),(.list [] .none)])] .none),(.list [(.agg [(.val (.string ⟨#[115,48]⟩)),(.list [(.agg [(.val (.string ⟨#[110]⟩)),(Ak 2),(Ak 0),(.val (.string ⟨#[98,111,100,121,46,110]⟩)),(.list [] .none),(.list [] .none)])] .none)]),(.agg [(.val (.string ⟨#[115,49]⟩)),(.list [(.agg [(.val (.string ⟨#[110]⟩)),(Ak 2),(Ak 0),(.val (.string ⟨#[98,111,100,121,46,110]⟩)),(.list [] .none),(.list [] .none)])] .none)])] .none),(.list [] .none)],[(Ak 2),(Ak 0),(.list [(.agg [(Ak 2),(Ak 1),(Ak 0),(.val (.string ⟨#[]⟩)),(.list [] .none),(.list [] .none),(Ak 0),(Ak 0),(.list [(.agg [(Ak 5),(.list [(Ak 1)] .none),(Ak 1048576),(.list [(Ak 5)] .none),(Ak 9),(Ak 0),(Ak 0),(.val (.string ⟨#[]⟩)),(.list [] .none),(.list [(.agg [(.val (.string ⟨#[110]⟩)),(Ak 2),(Ak 3),(Ak 0),(.val (.string ⟨#[]⟩)),(.list [] .none),(.list [] .none)])] .none)])] .none),(.list [(.agg [(Ak 9),(Ak 0),(Ak 0),(.val (.string ⟨#[]⟩)),(.list [] .none),(.list [(.agg [(.val (.string ⟨#[110]⟩)),(Ak 2),(Ak 3),(Ak 0),(.val (.string ⟨#[]⟩)),(.list [] .none),(.list [] .none)])] .none)])] .none)])] .none),(.list [] .none),(.list [(.agg [(Ak 5),(.list [(Ak 1),(Ak 0)] .none),(.val (.string ⟨#[115,48]⟩)),(Ak 1),(.val (.bool false)),(Ak 9),(Ak 0),(Ak 0),(.val (.string ⟨#[]⟩)),(.list [] .none),(.list [(.agg [(.val (.string ⟨#[110]⟩)),(Ak 2),(Ak 3),(Ak 0),(.val (.string ⟨#[]⟩)),(.list [] .none),(.list [] .none)])] .none)])] .none),(.list [] .none),(.list [] .none)],[(Ak 2),(Ak 0),(.list [(.agg [(Ak 2),(Ak 1),(Ak 0),(.val (.string ⟨#[]⟩)),(.list [] .none),(.list [] .none),(Ak 1),(Ak 0),(.list [(.agg [(Ak 5),(.list [(Ak 1)] .none),(Ak 1048576),(.list [(Ak 5)] .none),(Ak 9),(Ak 0),(Ak 0),(.val (.string ⟨#[]⟩)),(.list [] .none),(.list [(.agg [(.val (.string ⟨#[110]⟩)),(Ak 2),(Ak 3),(Ak 0),(.val (.string ⟨#[]⟩)),(.list [] .none),(.list [] .none)])] .none)])] .none),(.list [(.agg [(Ak 9),(Ak 0),(Ak 0),(.val (.string ⟨#[]⟩)),(.list [] .none),(.list [(.agg [(.val (.string ⟨#[110]⟩)),(Ak 2),(Ak 3),(Ak 0),(.val (.string ⟨#[]⟩)),(.list [] .none),(.list [] .none)])] .none)]),(.agg [(Ak 9),(Ak 0),(Ak 0),(.val (.string ⟨#[]⟩)),(.list [] .none),(.list [(.agg [(.val (.string ⟨#[111,107]⟩)),(Ak 2),(Ak 1),(Ak 0),(.val (.string ⟨#[]⟩)),(.list [] .none),(.list [] .none)])] .none)]),(.agg [(Ak 9),(Ak 0),(Ak 0),(.val (.string ⟨#[]⟩)),(.list [] .none),(.list [(.agg [(.val (.string ⟨#[110]⟩)),(Ak 2),(Ak 3),(Ak 0),(.val (.string ⟨#[]⟩)),(.list [] .none),(.list [] .none)])] .none)])] .none)])] .none),(.list [] .none),(.list [(.agg [(Ak 7),(.list [(Ak 1),(Ak 0)] .none),(.val (.string ⟨#[115,49]⟩)),(Ak 2),(.val (.bool false)),(Ak 9),(Ak 0),(Ak 0),(.val (.string ⟨#[]⟩)),(.list [] .none),(.list [(.agg [(.val (.string ⟨#[110]⟩)),(Ak 2),(Ak 3),(Ak 0),(.val (.string ⟨#[]⟩)),(.list [] .none),(.list [] .none)])] .none)])] .none),(.list [] .none),(.list [] .none)]],[],[]⟩
noncomputable def kE5:Env:=[(4,(true,(.box 3 0))),(2,(true,(.box 1 0))),(0,(true,(.val (.bool false)))),(1,(true,(.box 0 0))),(3,(true,(.box 2 0)))]
noncomputable def kS5:St:=⟨[[(.val (.string ⟨#[115,97,103,97]⟩)),(Ak 10),(Ak 0),(Ak 0),(Ak 0),(Ak 0),(Ak 5),(.val (.string ⟨#[]⟩)),(Ak 9),(Ak 0),(Ak 0),(Ak 0),(.list [] .none),(.list [] .none),(.list [(.agg [(Ak 1),(.val (.string ⟨#[110]⟩)),(Ak 1),(Ak 2),(Ak 0),(Ak 9),(Ak 0),(.list [] .none),(.list [] .none),(.list [] .none),(.list [] .none)])] .none),(.list [(.agg [(Ak 9),(Ak 0),(Ak 0),(Ak 0),(.list [] .none),(.list [] .none),(.list [(.agg [(Ak 1),(.val (.string ⟨#[110]⟩)),(Ak 1),(Ak 2),(Ak 0),(Ak 99),(Ak 0),(.list [] .none),(.list [] .none),(.list [] .none),(.list [] .none)])] .none)]),(.agg [(Ak 9),(Ak 0),(Ak 0),(Ak 0),(.list [] .none),(.list [] .none),(.list [(.agg [(Ak 1),(.val (.string ⟨#[111,107]⟩)),(Ak 1),(Ak 2),(Ak 0),(Ak 9),(Ak 0),(.list [] .none),(.list [] .none),(.list [] .none),(.list [] .none)])] .none)]),(.agg [(Ak 9),(Ak 0),(Ak 0),(Ak 0),(.list [] .none),(.list [] .none),(.list [(.agg [(Ak 1),(.val (.string ⟨#[110]⟩)),(Ak 1),(Ak 2),(Ak 0),(Ak 99),(Ak 0),(.list [] .none),(.list [] .none),(.list [] .none),(.list [] .none)])] .none)]),(.agg [(Ak 9),(Ak 0),(Ak 0),(Ak 0),(.list [] .none),(.list [] .none),(.list [(.agg [(Ak 1),(.val (.string ⟨#[111,107]⟩)),(Ak 1),(Ak 2),(Ak 0),(Ak 9),(Ak 0),(.list [] .none),(.list [] .none),(.list [] .none),(.list [] .none)])] .none)])] .none),(.list [] .none),(.list [(.agg [(.val (.string ⟨#[110]⟩)),(Ak 2),(Ak 0),(.val (.string ⟨#[114,101,112,108,121,50,46,111,107]⟩)),(.list [] .none),(.list [] .none)])] .none),(.list [(.agg [(.val (.string ⟨#[115,48]⟩)),(.list [(.agg [(.val (.string ⟨#[110]⟩)),(Ak 2),(Ak 0),(.val (.string ⟨#[98,111,100,121,46,110]⟩)),(.list [] .none),(.list [] .none)])] .none)]),(.agg [(.val (.string ⟨#[115,49]⟩)),(.list [(.agg [(.val (.string ⟨#[110]⟩)),(Ak 2),(Ak 0),(.val (.string ⟨#[98,111,100,121,46,110]⟩)),(.list [] .none),(.list [] .none)])] .none)])] .none),(.list [] .none)],[(Ak 2),(Ak 0),(.list [(.agg [(Ak 2),(Ak 1),(Ak 0),(.val (.string ⟨#[]⟩)),(.list [] .none),(.list [] .none),(Ak 0),(Ak 0),(.list [(.agg [(Ak 5),(.list [(Ak 1)] .none),(Ak 1048576),(.list [(Ak 5)] .none),(Ak 9),(Ak 0),(Ak 0),(.val (.string ⟨#[]⟩)),(.list [] .none),(.list [(.agg [(.val (.string ⟨#[110]⟩)),(Ak 2),(Ak 3),(Ak 0),(.val (.string ⟨#[]⟩)),(.list [] .none),(.list [] .none)])] .none)])] .none),(.list [(.agg [(Ak 9),(Ak 0),(Ak 0),(.val (.string ⟨#[]⟩)),(.list [] .none),(.list [(.agg [(.val (.string ⟨#[110]⟩)),(Ak 2),(Ak 3),(Ak 0),(.val (.string ⟨#[]⟩)),(.list [] .none),(.list [] .none)])] .none)])] .none)])] .none),(.list [] .none),(.list [(.agg [(Ak 5),(.list [(Ak 1),(Ak 0)] .none),(.val (.string ⟨#[115,48]⟩)),(Ak 1),(.val (.bool false)),(Ak 9),(Ak 0),(Ak 0),(.val (.string ⟨#[]⟩)),(.list [] .none),(.list [(.agg [(.val (.string ⟨#[110]⟩)),(Ak 2),(Ak 3),(Ak 0),(.val (.string ⟨#[]⟩)),(.list [] .none),(.list [] .none)])] .none)])] .none),(.list [] .none),(.list [] .none)],[(Ak 2),(Ak 0),(.list [(.agg [(Ak 2),(Ak 1),(Ak 0),(.val (.string ⟨#[]⟩)),(.list [] .none),(.list [] .none),(Ak 1),(Ak 0),(.list [(.agg [(Ak 5),(.list [(Ak 1)] .none),(Ak 1048576),(.list [(Ak 5)] .none),(Ak 9),(Ak 0),(Ak 0),(.val (.string ⟨#[]⟩)),(.list [] .none),(.list [(.agg [(.val (.string ⟨#[110]⟩)),(Ak 2),(Ak 3),(Ak 0),(.val (.string ⟨#[]⟩)),(.list [] .none),(.list [] .none)])] .none)])] .none),(.list [(.agg [(Ak 9),(Ak 0),(Ak 0),(.val (.string ⟨#[]⟩)),(.list [] .none),(.list [(.agg [(.val (.string ⟨#[110]⟩)),(Ak 2),(Ak 3),(Ak 0),(.val (.string ⟨#[]⟩)),(.list [] .none),(.list [] .none)])] .none)]),(.agg [(Ak 9),(Ak 0),(Ak 0),(.val (.string ⟨#[]⟩)),(.list [] .none),(.list [(.agg [(.val (.string ⟨#[111,107]⟩)),(Ak 2),(Ak 1),(Ak 0),(.val (.string ⟨#[]⟩)),(.list [] .none),(.list [] .none)])] .none)]),(.agg [(Ak 9),(Ak 0),(Ak 0),(.val (.string ⟨#[]⟩)),(.list [] .none),(.list [(.agg [(.val (.string ⟨#[110]⟩)),(Ak 2),(Ak 3),(Ak 0),(.val (.string ⟨#[]⟩)),(.list [] .none),(.list [] .none)])] .none)])] .none)])] .none),(.list [] .none),(.list [(.agg [(Ak 7),(.list [(Ak 1),(Ak 0)] .none),(.val (.string ⟨#[115,49]⟩)),(Ak 2),(.val (.bool false)),(Ak 9),(Ak 0),(Ak 0),(.val (.string ⟨#[]⟩)),(.list [] .none),(.list [(.agg [(.val (.string ⟨#[110]⟩)),(Ak 2),(Ak 3),(Ak 0),(.val (.string ⟨#[]⟩)),(.list [] .none),(.list [] .none)])] .none)])] .none),(.list [] .none),(.list [] .none)],[(Ak 2),(Ak 0),(.list [(.agg [(Ak 2),(Ak 1),(Ak 0),(.val (.string ⟨#[]⟩)),(.list [] .none),(.list [] .none),(Ak 2),(Ak 0),(.list [(.agg [(Ak 5),(.list [(Ak 1)] .none),(Ak 1048576),(.list [(Ak 5)] .none),(Ak 9),(Ak 0),(Ak 0),(.val (.string ⟨#[]⟩)),(.list [] .none),(.list [(.agg [(.val (.string ⟨#[110]⟩)),(Ak 2),(Ak 3),(Ak 0),(.val (.string ⟨#[]⟩)),(.list [] .none),(.list [] .none)])] .none)])] .none),(.list [(.agg [(Ak 9),(Ak 0),(Ak 0),(.val (.string ⟨#[]⟩)),(.list [] .none),(.list [(.agg [(.val (.string ⟨#[110]⟩)),(Ak 2),(Ak 3),(Ak 0),(.val (.string ⟨#[]⟩)),(.list [] .none),(.list [] .none)])] .none)]),(.agg [(Ak 9),(Ak 0),(Ak 0),(.val (.string ⟨#[]⟩)),(.list [] .none),(.list [(.agg [(.val (.string ⟨#[111,107]⟩)),(Ak 2),(Ak 1),(Ak 0),(.val (.string ⟨#[]⟩)),(.list [] .none),(.list [] .none)])] .none)]),(.agg [(Ak 9),(Ak 0),(Ak 0),(.val (.string ⟨#[]⟩)),(.list [] .none),(.list [(.agg [(.val (.string ⟨#[110]⟩)),(Ak 2),(Ak 3),(Ak 0),(.val (.string ⟨#[]⟩)),(.list [] .none),(.list [] .none)])] .none)])] .none)])] .none),(.list [] .none),(.list [(.agg [(Ak 9),(.list [(Ak 1),(Ak 0)] .none),(.val (.string ⟨#[115,48]⟩)),(Ak 1),(.val (.bool true)),(Ak 9),(Ak 0),(Ak 0),(.val (.string ⟨#[]⟩)),(.list [] .none),(.list [(.agg [(.val (.string ⟨#[110]⟩)),(Ak 2),(Ak 3),(Ak 0),(.val (.string ⟨#[]⟩)),(.list [] .none),(.list [] .none)])] .none)])] .none),(.list [] .none),(.list [] .none)]],[],[]⟩
noncomputable def kE6:Env:=[(5,(true,(.box 4 0))),(3,(true,(.box 2 0))),(1,(true,(.box 0 0))),(0,(true,(.val (.bool false)))),(2,(true,(.box 1 0))),(4,(true,(.box 3 0)))]
noncomputable def kS6:St:=⟨[[(.val (.string ⟨#[115,97,103,97]⟩)),(Ak 10),(Ak 0),(Ak 0),(Ak 0),(Ak 0),(Ak 5),(.val (.string ⟨#[]⟩)),(Ak 9),(Ak 0),(Ak 0),(Ak 0),(.list [] .none),(.list [] .none),(.list [(.agg [(Ak 1),(.val (.string ⟨#[110]⟩)),(Ak 1),(Ak 2),(Ak 0),(Ak 9),(Ak 0),(.list [] .none),(.list [] .none),(.list [] .none),(.list [] .none)])] .none),(.list [(.agg [(Ak 9),(Ak 0),(Ak 0),(Ak 0),(.list [] .none),(.list [] .none),(.list [(.agg [(Ak 1),(.val (.string ⟨#[110]⟩)),(Ak 1),(Ak 2),(Ak 0),(Ak 99),(Ak 0),(.list [] .none),(.list [] .none),(.list [] .none),(.list [] .none)])] .none)]),(.agg [(Ak 9),(Ak 0),(Ak 0),(Ak 0),(.list [] .none),(.list [] .none),(.list [(.agg [(Ak 1),(.val (.string ⟨#[111,107]⟩)),(Ak 1),(Ak 2),(Ak 0),(Ak 9),(Ak 0),(.list [] .none),(.list [] .none),(.list [] .none),(.list [] .none)])] .none)]),(.agg [(Ak 9),(Ak 0),(Ak 0),(Ak 0),(.list [] .none),(.list [] .none),(.list [(.agg [(Ak 1),(.val (.string ⟨#[110]⟩)),(Ak 1),(Ak 2),(Ak 0),(Ak 99),(Ak 0),(.list [] .none),(.list [] .none),(.list [] .none),(.list [] .none)])] .none)]),(.agg [(Ak 9),(Ak 0),(Ak 0),(Ak 0),(.list [] .none),(.list [] .none),(.list [(.agg [(Ak 1),(.val (.string ⟨#[111,107]⟩)),(Ak 1),(Ak 2),(Ak 0),(Ak 9),(Ak 0),(.list [] .none),(.list [] .none),(.list [] .none),(.list [] .none)])] .none)])] .none),(.list [] .none),(.list [(.agg [(.val (.string ⟨#[110]⟩)),(Ak 2),(Ak 0),(.val (.string ⟨#[114,101,112,108,121,50,46,111,107]⟩)),(.list [] .none),(.list [] .none)])] .none),(.list [(.agg [(.val (.string ⟨#[115,48]⟩)),(.list [(.agg [(.val (.string ⟨#[110]⟩)),(Ak 2),(Ak 0),(.val (.string ⟨#[98,111,100,121,46,110]⟩)),(.list [] .none),(.list [] .none)])] .none)]),(.agg [(.val (.string ⟨#[115,49]⟩)),(.list [(.agg [(.val (.string ⟨#[110]⟩)),(Ak 2),(Ak 0),(.val (.string ⟨#[98,111,100,121,46,110]⟩)),(.list [] .none),(.list [] .none)])] .none)])] .none),(.list [] .none)],[(Ak 2),(Ak 0),(.list [(.agg [(Ak 2),(Ak 1),(Ak 0),(.val (.string ⟨#[]⟩)),(.list [] .none),(.list [] .none),(Ak 0),(Ak 0),(.list [(.agg [(Ak 5),(.list [(Ak 1)] .none),(Ak 1048576),(.list [(Ak 5)] .none),(Ak 9),(Ak 0),(Ak 0),(.val (.string ⟨#[]⟩)),(.list [] .none),(.list [(.agg [(.val (.string ⟨#[110]⟩)),(Ak 2),(Ak 3),(Ak 0),(.val (.string ⟨#[]⟩)),(.list [] .none),(.list [] .none)])] .none)])] .none),(.list [(.agg [(Ak 9),(Ak 0),(Ak 0),(.val (.string ⟨#[]⟩)),(.list [] .none),(.list [(.agg [(.val (.string ⟨#[110]⟩)),(Ak 2),(Ak 3),(Ak 0),(.val (.string ⟨#[]⟩)),(.list [] .none),(.list [] .none)])] .none)])] .none)])] .none),(.list [] .none),(.list [(.agg [(Ak 5),(.list [(Ak 1),(Ak 0)] .none),(.val (.string ⟨#[115,48]⟩)),(Ak 1),(.val (.bool false)),(Ak 9),(Ak 0),(Ak 0),(.val (.string ⟨#[]⟩)),(.list [] .none),(.list [(.agg [(.val (.string ⟨#[110]⟩)),(Ak 2),(Ak 3),(Ak 0),(.val (.string ⟨#[]⟩)),(.list [] .none),(.list [] .none)])] .none)])] .none),(.list [] .none),(.list [] .none)],[(Ak 2),(Ak 0),(.list [(.agg [(Ak 2),(Ak 1),(Ak 0),(.val (.string ⟨#[]⟩)),(.list [] .none),(.list [] .none),(Ak 1),(Ak 0),(.list [(.agg [(Ak 5),(.list [(Ak 1)] .none),(Ak 1048576),(.list [(Ak 5)] .none),(Ak 9),(Ak 0),(Ak 0),(.val (.string ⟨#[]⟩)),(.list [] .none),(.list [(.agg [(.val (.string ⟨#[110]⟩)),(Ak 2),(Ak 3),(Ak 0),(.val (.string ⟨#[]⟩)),(.list [] .none),(.list [] .none)])] .none)])] .none),(.list [(.agg [(Ak 9),(Ak 0),(Ak 0),(.val (.string ⟨#[]⟩)),(.list [] .none),(.list [(.agg [(.val (.string ⟨#[110]⟩)),(Ak 2),(Ak 3),(Ak 0),(.val (.string ⟨#[]⟩)),(.list [] .none),(.list [] .none)])] .none)]),(.agg [(Ak 9),(Ak 0),(Ak 0),(.val (.string ⟨#[]⟩)),(.list [] .none),(.list [(.agg [(.val (.string ⟨#[111,107]⟩)),(Ak 2),(Ak 1),(Ak 0),(.val (.string ⟨#[]⟩)),(.list [] .none),(.list [] .none)])] .none)]),(.agg [(Ak 9),(Ak 0),(Ak 0),(.val (.string ⟨#[]⟩)),(.list [] .none),(.list [(.agg [(.val (.string ⟨#[110]⟩)),(Ak 2),(Ak 3),(Ak 0),(.val (.string ⟨#[]⟩)),(.list [] .none),(.list [] .none)])] .none)])] .none)])] .none),(.list [] .none),(.list [(.agg [(Ak 7),(.list [(Ak 1),(Ak 0)] .none),(.val (.string ⟨#[115,49]⟩)),(Ak 2),(.val (.bool false)),(Ak 9),(Ak 0),(Ak 0),(.val (.string ⟨#[]⟩)),(.list [] .none),(.list [(.agg [(.val (.string ⟨#[110]⟩)),(Ak 2),(Ak 3),(Ak 0),(.val (.string ⟨#[]⟩)),(.list [] .none),(.list [] .none)])] .none)])] .none),(.list [] .none),(.list [] .none)],[(Ak 2),(Ak 0),(.list [(.agg [(Ak 2),(Ak 1),(Ak 0),(.val (.string ⟨#[]⟩)),(.list [] .none),(.list [] .none),(Ak 2),(Ak 0),(.list [(.agg [(Ak 5),(.list [(Ak 1)] .none),(Ak 1048576),(.list [(Ak 5)] .none),(Ak 9),(Ak 0),(Ak 0),(.val (.string ⟨#[]⟩)),(.list [] .none),(.list [(.agg [(.val (.string ⟨#[110]⟩)),(Ak 2),(Ak 3),(Ak 0),(.val (.string ⟨#[]⟩)),(.list [] .none),(.list [] .none)])] .none)])] .none),(.list [(.agg [(Ak 9),(Ak 0),(Ak 0),(.val (.string ⟨#[]⟩)),(.list [] .none),(.list [(.agg [(.val (.string ⟨#[110]⟩)),(Ak 2),(Ak 3),(Ak 0),(.val (.string ⟨#[]⟩)),(.list [] .none),(.list [] .none)])] .none)]),(.agg [(Ak 9),(Ak 0),(Ak 0),(.val (.string ⟨#[]⟩)),(.list [] .none),(.list [(.agg [(.val (.string ⟨#[111,107]⟩)),(Ak 2),(Ak 1),(Ak 0),(.val (.string ⟨#[]⟩)),(.list [] .none),(.list [] .none)])] .none)]),(.agg [(Ak 9),(Ak 0),(Ak 0),(.val (.string ⟨#[]⟩)),(.list [] .none),(.list [(.agg [(.val (.string ⟨#[110]⟩)),(Ak 2),(Ak 3),(Ak 0),(.val (.string ⟨#[]⟩)),(.list [] .none),(.list [] .none)])] .none)])] .none)])] .none),(.list [] .none),(.list [(.agg [(Ak 9),(.list [(Ak 1),(Ak 0)] .none),(.val (.string ⟨#[115,48]⟩)),(Ak 1),(.val (.bool true)),(Ak 9),(Ak 0),(Ak 0),(.val (.string ⟨#[]⟩)),(.list [] .none),(.list [(.agg [(.val (.string ⟨#[110]⟩)),(Ak 2),(Ak 3),(Ak 0),(.val (.string ⟨#[]⟩)),(.list [] .none),(.list [] .none)])] .none)])] .none),(.list [] .none),(.list [] .none)],[(Ak 2),(Ak 0),(.list [] .none),(.list [(.agg [(Ak 0),(Ak 9),(.list [(Ak 1),(Ak 0)] .none),(Ak 1048576),(.list [(Ak 5)] .none),(Ak 9),(Ak 0),(Ak 0),(.val (.string ⟨#[]⟩)),(.list [] .none),(.list [(.agg [(.val (.string ⟨#[110]⟩)),(Ak 2),(Ak 4),(Ak 0),(.val (.string ⟨#[]⟩)),(.list [] .none),(.list [] .none)])] .none)])] .none),(.list [] .none),(.list [(.agg [(Ak 5),(.list [(Ak 1)] .none),(Ak 1),(.val (.string ⟨#[115,97,103,97]⟩)),(.list [(.agg [(Ak 9),(.list [(Ak 1),(Ak 0)] .none)])] .none),(.val (.string ⟨#[]⟩))])] .none),(.list [] .none)]],[],[]⟩
noncomputable def kE7:Env:=[(0,(true,(.val (.bool true)))),(5,(true,(.box 4 0))),(3,(true,(.box 2 0))),(1,(true,(.box 0 0))),(0,(true,(.val (.bool false)))),(2,(true,(.box 1 0))),(4,(true,(.box 3 0)))]
noncomputable def kS7:St:=⟨[[(.val (.string ⟨#[115,97,103,97]⟩)),(Ak 10),(Ak 0),(Ak 0),(Ak 0),(Ak 0),(Ak 5),(.val (.string ⟨#[]⟩)),(Ak 9),(Ak 0),(Ak 0),(Ak 0),(.list [] .none),(.list [] .none),(.list [(.agg [(Ak 1),(.val (.string ⟨#[110]⟩)),(Ak 1),(Ak 2),(Ak 0),(Ak 9),(Ak 0),(.list [] .none),(.list [] .none),(.list [] .none),(.list [] .none)])] .none),(.list [(.agg [(Ak 9),(Ak 0),(Ak 0),(Ak 0),(.list [] .none),(.list [] .none),(.list [(.agg [(Ak 1),(.val (.string ⟨#[110]⟩)),(Ak 1),(Ak 2),(Ak 0),(Ak 99),(Ak 0),(.list [] .none),(.list [] .none),(.list [] .none),(.list [] .none)])] .none)]),(.agg [(Ak 9),(Ak 0),(Ak 0),(Ak 0),(.list [] .none),(.list [] .none),(.list [(.agg [(Ak 1),(.val (.string ⟨#[111,107]⟩)),(Ak 1),(Ak 2),(Ak 0),(Ak 9),(Ak 0),(.list [] .none),(.list [] .none),(.list [] .none),(.list [] .none)])] .none)]),(.agg [(Ak 9),(Ak 0),(Ak 0),(Ak 0),(.list [] .none),(.list [] .none),(.list [(.agg [(Ak 1),(.val (.string ⟨#[110]⟩)),(Ak 1),(Ak 2),(Ak 0),(Ak 99),(Ak 0),(.list [] .none),(.list [] .none),(.list [] .none),(.list [] .none)])] .none)]),(.agg [(Ak 9),(Ak 0),(Ak 0),(Ak 0),(.list [] .none),(.list [] .none),(.list [(.agg [(Ak 1),(.val (.string ⟨#[111,107]⟩)),(Ak 1),(Ak 2),(Ak 0),(Ak 9),(Ak 0),(.list [] .none),(.list [] .none),(.list [] .none),(.list [] .none)])] .none)])] .none),(.list [] .none),(.list [(.agg [(.val (.string ⟨#[110]⟩)),(Ak 2),(Ak 0),(.val (.string ⟨#[114,101,112,108,121,50,46,111,107]⟩)),(.list [] .none),(.list [] .none)])] .none),(.list [(.agg [(.val (.string ⟨#[115,48]⟩)),(.list [(.agg [(.val (.string ⟨#[110]⟩)),(Ak 2),(Ak 0),(.val (.string ⟨#[98,111,100,121,46,110]⟩)),(.list [] .none),(.list [] .none)])] .none)]),(.agg [(.val (.string ⟨#[115,49]⟩)),(.list [(.agg [(.val (.string ⟨#[110]⟩)),(Ak 2),(Ak 0),(.val (.string ⟨#[98,111,100,121,46,110]⟩)),(.list [] .none),(.list [] .none)])] .none)])] .none),(.list [] .none)],[(Ak 2),(Ak 0),(.list [(.agg [(Ak 2),(Ak 1),(Ak 0),(.val (.string ⟨#[]⟩)),(.list [] .none),(.list [] .none),(Ak 0),(Ak 0),(.list [(.agg [(Ak 5),(.list [(Ak 1)] .none),(Ak 1048576),(.list [(Ak 5)] .none),(Ak 9),(Ak 0),(Ak 0),(.val (.string ⟨#[]⟩)),(.list [] .none),(.list [(.agg [(.val (.string ⟨#[110]⟩)),(Ak 2),(Ak 3),(Ak 0),(.val (.string ⟨#[]⟩)),(.list [] .none),(.list [] .none)])] .none)])] .none),(.list [(.agg [(Ak 9),(Ak 0),(Ak 0),(.val (.string ⟨#[]⟩)),(.list [] .none),(.list [(.agg [(.val (.string ⟨#[110]⟩)),(Ak 2),(Ak 3),(Ak 0),(.val (.string ⟨#[]⟩)),(.list [] .none),(.list [] .none)])] .none)])] .none)])] .none),(.list [] .none),(.list [(.agg [(Ak 5),(.list [(Ak 1),(Ak 0)] .none),(.val (.string ⟨#[115,48]⟩)),(Ak 1),(.val (.bool false)),(Ak 9),(Ak 0),(Ak 0),(.val (.string ⟨#[]⟩)),(.list [] .none),(.list [(.agg [(.val (.string ⟨#[110]⟩)),(Ak 2),(Ak 3),(Ak 0),(.val (.string ⟨#[]⟩)),(.list [] .none),(.list [] .none)])] .none)])] .none),(.list [] .none),(.list [] .none)],[(Ak 2),(Ak 0),(.list [(.agg [(Ak 2),(Ak 1),(Ak 0),(.val (.string ⟨#[]⟩)),(.list [] .none),(.list [] .none),(Ak 1),(Ak 0),(.list [(.agg [(Ak 5),(.list [(Ak 1)] .none),(Ak 1048576),(.list [(Ak 5)] .none),(Ak 9),(Ak 0),(Ak 0),(.val (.string ⟨#[]⟩)),(.list [] .none),(.list [(.agg [(.val (.string ⟨#[110]⟩)),(Ak 2),(Ak 3),(Ak 0),(.val (.string ⟨#[]⟩)),(.list [] .none),(.list [] .none)])] .none)])] .none),(.list [(.agg [(Ak 9),(Ak 0),(Ak 0),(.val (.string ⟨#[]⟩)),(.list [] .none),(.list [(.agg [(.val (.string ⟨#[110]⟩)),(Ak 2),(Ak 3),(Ak 0),(.val (.string ⟨#[]⟩)),(.list [] .none),(.list [] .none)])] .none)]),(.agg [(Ak 9),(Ak 0),(Ak 0),(.val (.string ⟨#[]⟩)),(.list [] .none),(.list [(.agg [(.val (.string ⟨#[111,107]⟩)),(Ak 2),(Ak 1),(Ak 0),(.val (.string ⟨#[]⟩)),(.list [] .none),(.list [] .none)])] .none)]),(.agg [(Ak 9),(Ak 0),(Ak 0),(.val (.string ⟨#[]⟩)),(.list [] .none),(.list [(.agg [(.val (.string ⟨#[110]⟩)),(Ak 2),(Ak 3),(Ak 0),(.val (.string ⟨#[]⟩)),(.list [] .none),(.list [] .none)])] .none)])] .none)])] .none),(.list [] .none),(.list [(.agg [(Ak 7),(.list [(Ak 1),(Ak 0)] .none),(.val (.string ⟨#[115,49]⟩)),(Ak 2),(.val (.bool false)),(Ak 9),(Ak 0),(Ak 0),(.val (.string ⟨#[]⟩)),(.list [] .none),(.list [(.agg [(.val (.string ⟨#[110]⟩)),(Ak 2),(Ak 3),(Ak 0),(.val (.string ⟨#[]⟩)),(.list [] .none),(.list [] .none)])] .none)])] .none),(.list [] .none),(.list [] .none)],[(Ak 2),(Ak 0),(.list [(.agg [(Ak 2),(Ak 1),(Ak 0),(.val (.string ⟨#[]⟩)),(.list [] .none),(.list [] .none),(Ak 2),(Ak 0),(.list [(.agg [(Ak 5),(.list [(Ak 1)] .none),(Ak 1048576),(.list [(Ak 5)] .none),(Ak 9),(Ak 0),(Ak 0),(.val (.string ⟨#[]⟩)),(.list [] .none),(.list [(.agg [(.val (.string ⟨#[110]⟩)),(Ak 2),(Ak 3),(Ak 0),(.val (.string ⟨#[]⟩)),(.list [] .none),(.list [] .none)])] .none)])] .none),(.list [(.agg [(Ak 9),(Ak 0),(Ak 0),(.val (.string ⟨#[]⟩)),(.list [] .none),(.list [(.agg [(.val (.string ⟨#[110]⟩)),(Ak 2),(Ak 3),(Ak 0),(.val (.string ⟨#[]⟩)),(.list [] .none),(.list [] .none)])] .none)]),(.agg [(Ak 9),(Ak 0),(Ak 0),(.val (.string ⟨#[]⟩)),(.list [] .none),(.list [(.agg [(.val (.string ⟨#[111,107]⟩)),(Ak 2),(Ak 1),(Ak 0),(.val (.string ⟨#[]⟩)),(.list [] .none),(.list [] .none)])] .none)]),(.agg [(Ak 9),(Ak 0),(Ak 0),(.val (.string ⟨#[]⟩)),(.list [] .none),(.list [(.agg [(.val (.string ⟨#[110]⟩)),(Ak 2),(Ak 3),(Ak 0),(.val (.string ⟨#[]⟩)),(.list [] .none),(.list [] .none)])] .none)])] .none)])] .none),(.list [] .none),(.list [(.agg [(Ak 9),(.list [(Ak 1),(Ak 0)] .none),(.val (.string ⟨#[115,48]⟩)),(Ak 1),(.val (.bool true)),(Ak 9),(Ak 0),(Ak 0),(.val (.string ⟨#[]⟩)),(.list [] .none),(.list [(.agg [(.val (.string ⟨#[110]⟩)),(Ak 2),(Ak 3),(Ak 0),(.val (.string ⟨#[]⟩)),(.list [] .none),(.list [] .none)])] .none)])] .none),(.list [] .none),(.list [] .none)],[(Ak 2),(Ak 0),(.list [] .none),(.list [(.agg [(Ak 0),(Ak 9),(.list [(Ak 1),(Ak 0)] .none),(Ak 1048576),(.list [(Ak 5)] .none),(Ak 9),(Ak 0),(Ak 0),(.val (.string ⟨#[]⟩)),(.list [] .none),(.list [(.agg [(.val (.string ⟨#[110]⟩)),(Ak 2),(Ak 4),(Ak 0),(.val (.string ⟨#[]⟩)),(.list [] .none),(.list [] .none)])] .none)])] .none),(.list [] .none),(.list [(.agg [(Ak 5),(.list [(Ak 1)] .none),(Ak 1),(.val (.string ⟨#[115,97,103,97]⟩)),(.list [(.agg [(Ak 9),(.list [(Ak 1),(Ak 0)] .none)])] .none),(.val (.string ⟨#[]⟩))])] .none),(.list [] .none)]],[(.vec 0 1 [(Ak 1),(Ak 0)])],[]⟩
end Go.Proofs.YtcdnijfbfdnjlaaGreatDoor
