/-
  Part 6 of the proof: rules and walks that the claim's last text uses.
-/
import Derived.Deep.LoopGhost
import Derived.Deep.RegionLaw
import Derived.Lib.RowBridge
import Derived.Lib.SliceRun
import Derived.Lib.Walk
import Derived.Shelf.RegionOpenPlain
import Derived.Shelf.SlBodiesN
import Derived.Shelf.Slices.CompactS
import Derived.Shelf.Slices.In.SortNone
import Derived.Shelf.Sort.Plain
import Derived.WalkKit
import Derived.Test.YtmcnjijeocmkgaaGreatDoorLc5
set_option linter.unusedSimpArgs false
set_option linter.unusedVariables false
set_option maxRecDepth 100000
set_option maxHeartbeats 4000000
namespace Go.Ev
open Go Go.RowKit Go.Shelf Go.Lib Go.Proofs
def Kr:List Bool→List AV→List AV
 | b::m,a::l=>(if b=true then a.pubA else a)::Kr m l
 | [],l=>l.map AV.pubA
 | _::_,[]=>[]
@[go_sem] theorem ZlM (m:List Bool) (a:AV) (l:List AV):Kr (true::m) (a::l)=a.pubA::Kr m l:=rfl
@[go_sem] theorem Zlo (m:List Bool) (a:AV) (l:List AV):Kr (false::m) (a::l)=a::Kr m l:=rfl
@[go_sem] theorem ZlN (l:List AV):Kr [] l=l.map AV.pubA:=rfl
@[go_sem] theorem ZlJ (m:List Bool):Kr m []=[]:=by cases m<;>rfl
theorem US:∀ (m:List Bool) (l:List AV),(Kr m l).length=l.length∧∀ (i:Nat) (h1:i<(Kr m l).length) (h2:i<l.length),(Kr m l)[i]=l[i]∨(Kr m l)[i]=l[i].pubA
 | [],l=>⟨by simp [Kr],fun i h1 h2 => .inr (by simp [Kr])⟩
 | b::m,[]=>⟨rfl,fun i h1 h2=>absurd h2 (by simp)⟩
 | b::m,a::l=>by
  obtain ⟨h1,h2⟩:=US m l
  refine ⟨by simp [Kr,h1],fun i c d=>?_⟩
  cases i with
  | zero=>cases b with
   | true=>exact .inr rfl
   | false=>exact .inl rfl
  | succ i=>exact h2 i (by simpa [Kr] using c) (by simpa using d)
section
variable {P:Program} {w0:World} {st:St} {f:FuncId}
theorem ACalls.mask {m:List Bool} {args args':List AV} {Post:AV→St→Prop} (h:ACalls P w0 f args' st Post) (he:Kr m args=args'):ACalls P w0 f args st Post:=by
 subst he
 obtain ⟨j,n⟩:=US m args
 refine ⟨h.1,fun M w c e d=>h.2 M w c e ?_⟩
 obtain ⟨l,k⟩:=d
 refine ⟨by rw [j];exact l,fun i a b=>?_⟩
 have g:i<args.length:=by rw [←j];exact b
 rcases n i b g with q | q
 ·rw [q];exact k i a g
 ·rw [q];exact (k i a g).pubA
theorem PR {cs args args':List AV} {k:AV→St→Prop} (m:List Bool) (Post:AV→St→Prop)
  (h:ACalls P w0 f args' st Post) (he:Kr m (args++cs)=args') (hk:∀ v s,Post v s→k v s):KV P w0 true false (.clo f cs) args st k := .inr ⟨rfl,Post,fun _=>h.mask he,fun v s a _=>hk v s (a rfl)⟩
end
def J3:List Bool→List AV→List AV
 | b::m,a::l=>(if b=true then a.pubCell else a)::J3 m l
 | [],l=>l.map AV.pubCell
 | _::_,[]=>[]
@[go_sem] theorem Zlk (m:List Bool) (a:AV) (l:List AV):J3 (true::m) (a::l)=a.pubCell::J3 m l:=rfl
@[go_sem] theorem ZlH (m:List Bool) (a:AV) (l:List AV):J3 (false::m) (a::l)=a::J3 m l:=rfl
@[go_sem] theorem Zln (l:List AV):J3 [] l=l.map AV.pubCell:=rfl
@[go_sem] theorem Zls (m:List Bool):J3 m []=[]:=by cases m<;>rfl
def pubS (m:List Bool):AV→AV
 | .agg cs => .agg (J3 m cs)
 | x=>x
@[go_sem] theorem Zkl (m:List Bool) (cs:List AV):pubS m (.agg cs) = .agg (J3 m cs):=rfl
theorem VJ:∀ (m:List Bool) (l:List AV),(J3 m l).length=l.length∧∀ (i:Nat) (h1:i<(J3 m l).length) (h2:i<l.length),(J3 m l)[i]=l[i]∨(J3 m l)[i]=l[i].pubCell
 | [],l=>⟨by simp [J3],fun i h1 h2 => .inr (by simp [J3])⟩
 | b::m,[]=>⟨rfl,fun i h1 h2=>absurd h2 (by simp)⟩
 | b::m,a::l=>by
  obtain ⟨h1,h2⟩:=VJ m l
  refine ⟨by simp [J3,h1],fun i c d=>?_⟩
  cases i with
  | zero=>cases b with
   | true=>exact .inr rfl
   | false=>exact .inl rfl
  | succ i=>exact h2 i (by simpa [J3] using c) (by simpa using d)
theorem R.pubS {w0:World} {M:Mem} {w:World} (m:List Bool) {v:Value} {x:AV} (h:R w0 M w v x):R w0 M w v (pubS m x):=by
 cases h with
 | @agg us xs hl h1 h =>
  obtain ⟨e,f⟩:=VJ m xs
  refine .agg (by rw [e];exact hl) (fun x g=>?_) (fun i a b=>?_)
  ·obtain ⟨i,d,rfl⟩:=List.mem_iff_getElem.1 g
   have c:i<xs.length:=by rw [←e];exact d
   rcases f i d c with q | q
   ·rw [q];exact h1 _ (List.getElem_mem _)
   ·rw [q,AV.one_pubCell];exact h1 _ (List.getElem_mem _)
  ·have c:i<xs.length:=by rw [←e];exact b
   rcases f i b c with q | q
   ·rw [q];exact h i a c
   ·rw [q];exact (h i a c).pubCell
 | nil ho=>exact .nil ho
 | emp ho=>exact .emp ho
 | list sz us hc hm hcell hu ho=>exact .list sz us hc hm hcell hu ho
 | flat hf=>exact .flat hf
 | tup hl h=>exact .tup hl h
 | elem u k hcell hu=>exact .elem u k hcell hu
 | box hl=>exact .box hl
 | clo hl h=>exact .clo hl h
 | yld hk=>exact .yld hk
 | vec d hv h=>exact .vec d hv h
 | vel d hv h=>exact .vel d hv h
def Zdh (P:Program) (e:Env) (st:St):ResultVar→AV
 | .tmp t=>AD e (.tmp t)
 | .cell t ty=>(Bd P e true st (.load ty (.tmp t))).2.1
def Zif (mk:List Bool) (P:Program) (rs:List ResultVar) (Post:AV→St→Prop):AQ:=fun x e st =>
 match x with
 | .normal | .ret=>(∀ r∈rs,VW P e st r)∧Post (pubS mk (Zy (rs.map (Zdh P e st)))) st
 | _=>False
attribute [go_sem] Zdh Zif
section
variable {P:Program} {w0:World} {n:Nat} {M:Mem} {e:Env} {st:St} {a:Act} {w:World}
theorem Zbb (mk:List Bool) (h:Rel w0 n M e st a w) {fn:Func} {rs:List ResultVar} (hfn:fn.results=rs.toArray) (hrs:∀ r∈rs,VW P e st r) :
  ∃ v,(results fn a.tmps).run P w = .ok v w∧R w0 M w v (pubS mk (Zy (rs.map (Zdh P e st)))):=by
 let f:ResultVar→Sem Value:=fun
  | .tmp t=>pure (a.tmps.getD t undef)
  | .cell b t=>do loadVar t (← asAddr (a.tmps.getD b undef))
 have c:∀ r∈rs,∃ v,(f r).run P w = .ok v w∧R w0 M w v (Zdh P e st r):=by
  intro r d
  have:=hrs r d
  cases r with
  | tmp t=>exact ⟨_,rfl,Be h (x := .tmp t) this⟩
  | cell b t =>
   obtain ⟨v,l,k⟩:=VM h t (.tmp b) this
   exact ⟨v,l,k⟩
 classical
 let g:ResultVar→Value:=fun r=>if d:r∈rs then Classical.choose (c r d) else undef
 have j:∀ r∈rs,(f r).run P w = .ok (g r) w∧R w0 M w (g r) (Zdh P e st r):=by
  intro r d
  have:=Classical.choose_spec (c r d)
  have e:g r=Classical.choose (c r d):=by simp only [g,dif_pos d]
  rw [e];exact this
 have m:(fn.results.mapM f).run P w = .ok ((rs.map g).toArray) w:=by
  rw [hfn,Array.mapM_eq_mapM_toList]
  simp only [Sem.run_map,OT f g rs (fun r d=>(j r d).1),Result.andThen_ok]
 have i:(results fn a.tmps).run P w = .ok (if h:(rs.map g).toArray.size=1 then (rs.map g).toArray[0] else .tuple (rs.map g).toArray) w:=by
  unfold results
  simp only [Sem.run_bind]
  refine Eq.trans (congrArg (fun x=>Result.andThen x _) m) ?_
  simp only [Result.andThen_ok,Sem.run_pure]
 refine ⟨_,i,?_⟩
 exact R.pubS mk (Vd rs g fun r d=>(j r d).2)
theorem ZaN (mk:List Bool) {f:FuncId} {fn:Func} {c:Code} {args:List AV} {rs:List ResultVar} {Post:AV→St→Prop} (hf:P.funcs[f]? = some fn) (hb:fn.body=some c) (hrs:fn.results=rs.toArray) (hn:fn.ntmps=n)
  (hen:Kw P f) (ha:args.length≤n)
  (h:∀ (M0:Mem) (W0:World),M0.N=st.boxes.length→M0.NR=st.rows.length→M0.NL=st.loops.length→Calm st.boxes.length st.rows.length st.loops.length st→(∀ x∈args,Under st.boxes.length st.rows.length st.loops.length x) →
   Em P w0 n M0 W0 none c (Zif mk P rs Post) (AB 0 args) st):ACalls P w0 f args st Post:=by
 refine ⟨hen,fun M w a b d=>?_⟩
 have J:a.size=args.length:=d.1
 have O:∀ x∈args,Under st.boxes.length st.rows.length st.loops.length x:=by
  intro x Q
  obtain ⟨i,q,rfl⟩:=List.mem_iff_getElem.1 Q
  have:=(d.get (i:=i) (Array.getElem?_eq_getElem (by omega)) (List.getElem?_eq_getElem q)).under
  rwa [b.N,b.NR,b.loop.NL] at this
 have m:Rel w0 n M (AB 0 args) st { tmps:=a++Array.replicate (fn.ntmps-a.size) undef,defers:=[] } w:=by
  refine ⟨b,by simp;omega,fun s x hs=>?_⟩
  obtain ⟨i,j,y,D,rfl⟩:=QO _ _ _ _ hs
  have q:i<args.length:=(Ak.1 D).1
  have hs':s=i:=by omega
  subst hs'
  simp only [entryOk,if_true]
  have U:(a++Array.replicate (fn.ntmps-a.size) undef).getD s undef=a[s]'(by omega):=by
   simp [Array.getD_eq_getD_getElem?,Array.getElem?_append_left (show s<a.size by omega),Array.getElem?_eq_getElem (show s<a.size by omega)]
  rw [U]
  exact d.get (Array.getElem?_eq_getElem (by omega)) D
 refine TE (n:=0) (callsIn_of_wp_marks hf hb trivial (wpIn_mono (h M w b.N b.NR b.loop.NL b.calm O 0 M _ w ⟨m,.refl _ _ _,[],by simp⟩) ?_))
 rintro ex o u ⟨M',p,k,j,l⟩
 have e:∀ (t:∀ r∈rs,VW P p k r) (z:Post (pubS mk (Zy (rs.map (Zdh P p k)))) k),
   LeavesInM (FW none) 0 P fn o.tmps (Comes' w0 M w Post) o.defers .returning u:=by
  intro t z
  obtain ⟨Ds,E,H,F⟩:=j.marks
  rw [H]
  refine NH Ds M' u E F b.base_le j.rel.st j.ext fun K C G k3=>?_
  have g:Rel w0 n M' p k o K:=⟨C,j.rel.size,fun s x hs=>by
   have:=j.rel.env s x hs
   unfold entryOk at *
   split
   ·rename_i c;rw [Ai c] at this;exact k3 _ _ this
   ·rename_i c;rw [Aj c] at this;exact this⟩
  obtain ⟨v,q1,q2⟩:=Zbb mk g hrs t
  exact ⟨v,q1,v,M',_,k,rfl,z,G,C,q2⟩
 cases ex with
 | normal=>exact e l.1 l.2
 | ret=>exact e l.1 l.2
 | _=>exact l.elim
end
end Go.Ev
namespace Go.Ev
open Go Go.RowKit Go.Shelf Go.Sort Go.Lib Go.Proofs
section
variable {P:Program} {w0:World} {M:Mem} {w:World} {st:St}
theorem RelSt.turn {α:Type} [Inhabited α] (h:RelSt w0 M st w) {id ver:Nat} {cs cs':List AV} (hid:st.rows[id]? = some (.vec ver 1 cs)) (enc:α→Value) (D:Array α) {w':World} {q:Nat} {os:Array Obj}
  (hw:w'=grow (putRow enc (Go.Sort.ahead w q) (M.blk id) 0 D) os) (hD:D.size≤M.cap id) (hle:cs'.length≤D.size) (hone:∀ x∈cs',x.one=true) (hR:∀ i (h2:i<cs'.length),R w0 M w (enc D[i]!) cs'[i]) :
  Ext w0 M w M w'∧RelSt w0 M { st with rows:=st.rows.set id (.vec ver 1 cs') } w':=by
 obtain ⟨F,u,z,E,v,y,t,c,ty,n,m,p,s,o⟩:=h.row id _ hid
 have g:M.blk id<w.heap.size:=(Array.getElem?_eq_some_iff.1 n).1
 have a:w'.heap=w.heap.modify (M.blk id) (onCells (putCells enc 0 D))++os:=by rw [hw];rfl
 have f:w'.os=w.os∧w'.tape=w.tape∧w'.output=w.output:=by rw [hw];exact ⟨rfl,rfl,rfl⟩
 have d:∀ b,b<w.heap.size→b≠M.blk id→w'.heap[b]? = w.heap[b]? := fun b k l=>by
  rw [a,Array.getElem?_append_left (by simpa using k),Array.getElem?_modify,Aj (fun q=>l q.symm)]
 have j:(putCells enc 0 D c).size=c.size:=by simp [putCells]
 refine h.setVec (c':=putCells enc 0 D c) (ty:=ty) hid ⟨f.1,f.2.1,f.2.2,by rw [a];simp,fun b k=>d b (Nat.lt_of_lt_of_le k h.base_le) (by omega)⟩ d
  (by rw [a,Array.getElem?_append_left (by simpa using g),Array.getElem?_modify,Ai rfl,n];rfl) (by rw [j];exact m) (by rw [j,m];omega) hone (fun i C h2=>?_)
 have r:i<D.size:=by omega
 have e:(putCells enc 0 D c)[i]=enc D[i]! := by
  simp only [putCells,Array.getElem_mapIdx,Nat.zero_le,true_and,Nat.zero_add,Ai r,Nat.sub_zero]
 rw [e]
 exact hR i h2
abbrev bl (x:ByteArray):List UInt8:=x.data.toList
theorem RelSt.holdsStr (h:RelSt w0 M st w) {id ver:Nat} {xs:List ByteArray} (hid:st.rows[id]? = some (.vec ver 1 (xs.map fun x => .val (.string x)))) :
  Holds encStr w (M.blk id) 0 (xs.map bl).toArray∧M.blk id<w.heap.size:=by
 obtain ⟨t,q,u,m,s,o,n,c,r,b,p,i,l,a⟩:=h.row id _ hid
 refine ⟨fun j f=>?_,(Array.getElem?_eq_some_iff.1 b).1⟩
 have d:j<xs.length:=by simpa using f
 have g:j<(xs.map fun x=>(.val (.string x):AV)).length:=by simpa using d
 have e:j<c.size:=by omega
 have:=a j e g
 simp only [List.getElem_map] at this
 have ev:=this.val_inv.1
 have k:(xs.map bl).toArray[j]! = xs[j].data.toList:=by
  rw [getElem!_pos _ j f];simp
 rw [k]
 refine ⟨?_,?_⟩
 ·simp only [World.cell?,b,Nat.zero_add,id_eq]
  rw [Array.getElem?_eq_getElem e,ev]
  simp [encStr]
 ·simp [World.frozen?,b]
def sv (x:ByteArray):AV := .val (.string x)
def MH (xs:List ByteArray):List ByteArray:=((xs.map bl).mergeSort fun x y=>decide (x≤y)).map fun l=>⟨l.toArray⟩
def Ly (xs:List ByteArray):List ByteArray:=(Lib.compact (xs.map bl)).map fun l=>⟨l.toArray⟩
theorem Ol (xs:List ByteArray):(MH xs).length=xs.length:=by simp [MH]
theorem Zdb {xs:List ByteArray} {x:ByteArray} (h:x∈MH xs):x∈xs:=by
 simp only [MH,List.mem_map,List.mem_mergeSort] at h
 obtain ⟨l,⟨y,a,rfl⟩,rfl⟩:=h
 exact a
theorem ZT {zs:List (List UInt8)} {x:List UInt8} (h:x∈Lib.compact zs):x∈zs:=by
 unfold Lib.compact Lib.compactUpTo at h
 obtain ⟨j,b,rfl⟩:=List.mem_map.1 h
 have a:=List.mem_range.1 (List.mem_filter.1 b).1
 rw [getElem!_pos zs.toArray j (by simpa using a)]
 simp
theorem ZcB {xs:List ByteArray} {x:ByteArray} (h:x∈Ly xs):x∈xs:=by
 simp only [Ly,List.mem_map] at h
 obtain ⟨l,a,rfl⟩:=h
 obtain ⟨y,b,rfl⟩:=List.mem_map.1 (ZT a)
 exact b
theorem Zc {v:Value} (h:R w0 M w v (.list [] .seed)):∃ p cap,v = .slice p 0 cap:=by
 generalize hx:AV.list [] .seed=x at h
 cases h<;>try cases hx
 ·exact ⟨_,_,rfl⟩
 ·exact ⟨_,_,rfl⟩
 ·exact ⟨_,_,rfl⟩
theorem RelSt.strLen (h:RelSt w0 M st w) {id ver:Nat} {xs:List ByteArray} (hid:st.rows[id]? = some (.vec ver 1 (xs.map sv))):∀ x∈xs,G8 (.string x)=true:=by
 obtain ⟨q,n,r,j,p,l,k,c,o,s,m,d,g,a⟩:=h.row id _ hid
 intro x e
 obtain ⟨i,f,rfl⟩:=List.mem_iff_getElem.1 e
 have b:i<(xs.map sv).length:=by simpa using f
 have:=a i (by omega) b
 simp only [List.getElem_map,sv] at this
 exact this.val_inv.2
theorem Uk {vals:Array Value} {x:AV} (h:RowR w0 M w vals [x]):∃ v,vals = #[v]∧R w0 M w v x:=by
 have hs:=h.1
 match vals,hs with
 | ⟨[a]⟩,_=>exact ⟨a,rfl,h.2 0 (by simp) (by simp)⟩
section
variable {ρ:Ren} {Rw rows:List RowA} {l:List (Nat × Nat × Own)} {ho:Own} {v:List VE} {o:VO} {xs:List ByteArray}
theorem Zfa (w0:World) (L:Lays.n190 P ρ) (hen:Kw P (ρ.f 190)) (hO:Owns Rw rows l ho ((o,1,xs.map sv)::v)) (hn:xs.length<4611686018427387904) :
  ∃ rows',Owns Rw rows' l ho ((o,1,(MH xs).map sv)::v)∧∀ (B:As) (Ls:Aw),ACalls P w0 (ρ.f 190) [QJ o xs.length] ⟨B,rows,Ls⟩ fun r s=>r = .tup []∧s=⟨B,rows',Ls⟩:=by
 by_cases hx:xs=[]
 ·subst hx
  refine ⟨rows,by rw [show MH []=[] by simp [MH]];exact hO,fun B Ls=>⟨hen,fun M w g b a=>?_⟩⟩
  obtain ⟨m,rfl,h0⟩:=Uk a
  obtain ⟨p,cap,rfl⟩:∃ p cap,m = .slice p 0 cap:=by
   cases o with
   | nil=>exact Zc h0
   | row id ver=>cases h0;exact ⟨_,_,rfl⟩
  refine (Any.slices_Sort_string_none L p cap w).mono ?_
  rintro en F ⟨rfl,rfl⟩
  exact ⟨_,M,.tup [],_,rfl,⟨rfl,rfl⟩,.refl _ _ _,b,.tup rfl (fun i k _=>absurd k (by simp))⟩
 ·obtain ⟨id,ver,rfl,a⟩:∃ id ver,o = .row id ver∧rows[id]? = some (.vec ver 1 (xs.map sv)):=by
   rcases hO.veach _ (List.mem_cons_self ..) with q | ⟨id,ver,q1,_,q3⟩
   ·exact absurd (List.map_eq_nil_iff.1 q.2) hx
   ·exact ⟨id,ver,q1,q3⟩
  refine ⟨_,hO.setV ver ((MH xs).map sv),fun B Ls=>⟨hen,fun M w g b c=>?_⟩⟩
  obtain ⟨m,rfl,h0⟩:=Uk c
  obtain ⟨z,d⟩:=b.holdsStr (xs:=xs) a
  have h:=b.strLen a
  have G:=(b.row id _ a).1
  cases h0 with
  | @vec _ _ _ _ p cap hi hver hh =>
  obtain ⟨rfl,t,K⟩:=hh G.symm
  have D:(some ⟨M.blk id,0*M.rsz id,none⟩:Option Addr)=some ⟨M.blk id,0,none⟩:=by rw [Nat.zero_mul]
  rw [D]
  have n:=Any.slices_Sort_string L (M.blk id) 0 cap (xs.map bl) w z d (by simpa using hn)
  rw [List.length_map] at n
  refine n.mono ?_
  rintro en F ⟨rfl,q,J,rfl⟩
  obtain ⟨u,E⟩:=b.turn (cs':=(MH xs).map sv) a encStr ((xs.map bl).mergeSort fun x y=>decide (x≤y)).toArray rfl (by simp;omega) (by simp [Ol]) (fun x hx=>by
    obtain ⟨y,_,rfl⟩:=List.mem_map.1 hx;rfl) (fun i H=>by
    have j:i<(MH xs).length:=by simpa using H
    have C:i<((xs.map bl).mergeSort fun x y=>decide (x≤y)).toArray.size:=by simpa [Ol] using j
    rw [getElem!_pos _ i C]
    have e:encStr (((xs.map bl).mergeSort fun x y=>decide (x≤y)).toArray[i]) = .string (MH xs)[i]:=by simp [MH,encStr]
    rw [e,List.getElem_map]
    exact .flat (h _ (Zdb (List.getElem_mem _))))
  exact ⟨.tuple #[],M,.tup [],_,rfl,⟨rfl,rfl⟩,u,E,.tup rfl (fun i k _=>absurd k (by simp))⟩
theorem ZeI (w0:World) (L:Lays.n194 P ρ) (hen:Kw P (ρ.f 194)) (hO:Owns Rw rows l ho ((o,1,xs.map sv)::v)) (hn:xs.length<4611686018427387904) :
  ∃ rows',Owns Rw rows' l ho ((o,1,(Ly xs).map sv)::v)∧∀ (B:As) (Ls:Aw),ACalls P w0 (ρ.f 194) [QJ o xs.length] ⟨B,rows,Ls⟩ fun r s=>r=QJ o (Ly xs).length∧s=⟨B,rows',Ls⟩:=by
 by_cases hx:xs=[]
 ·subst hx
  refine ⟨rows,hO,fun B Ls=>⟨hen,fun M w j b a=>?_⟩⟩
  obtain ⟨n,rfl,h0⟩:=Uk a
  obtain ⟨p,cap,rfl⟩:∃ p cap,n = .slice p 0 cap:=by
   cases o with
   | nil=>exact Zc h0
   | row id ver=>cases h0;exact ⟨_,_,rfl⟩
  refine (Any.slices_Compact_string_empty L p cap w).mono ?_
  rintro en w' ⟨rfl,rfl⟩
  exact ⟨_,M,_,_,rfl,⟨rfl,rfl⟩,.refl _ _ _,b,h0⟩
 ·obtain ⟨id,ver,rfl,a⟩:∃ id ver,o = .row id ver∧rows[id]? = some (.vec ver 1 (xs.map sv)):=by
   rcases hO.veach _ (List.mem_cons_self ..) with q | ⟨id,ver,q1,_,q3⟩
   ·exact absurd (List.map_eq_nil_iff.1 q.2) hx
   ·exact ⟨id,ver,q1,q3⟩
  refine ⟨_,hO.setV ver ((Ly xs).map sv),fun B Ls=>⟨hen,fun M w j b d=>?_⟩⟩
  obtain ⟨n,rfl,h0⟩:=Uk d
  obtain ⟨z,t⟩:=b.holdsStr (xs:=xs) a
  have k:=b.strLen a
  have J:=(b.row id _ a).1
  cases h0 with
  | @vec _ _ _ _ p cap hi hver hh =>
  obtain ⟨rfl,h,C⟩:=hh J.symm
  have E:(some ⟨M.blk id,0*M.rsz id,none⟩:Option Addr)=some ⟨M.blk id,0,none⟩:=by rw [Nat.zero_mul]
  have m:=Any.slices_Compact_string L (M.blk id) 0 cap (xs.map bl) w z (by simp;omega) (by simpa using C)
  rw [List.length_map] at m
  have H:(Lib.compact (xs.map bl)).length≤xs.length:=by have:=Lib.compact_length_le (xs.map bl);simpa using this
  have c:(Ly xs).length=(Lib.compact (xs.map bl)).length:=by simp [Ly]
  rw [←E] at m
  refine m.mono ?_
  rintro en w' ⟨rfl,q,K⟩
  obtain ⟨u,G⟩:=b.turn (cs':=(Ly xs).map sv) (q:=q) (os := #[]) (w':=w') a encStr (Lib.compact (xs.map bl)++List.replicate (xs.length-(Lib.compact (xs.map bl)).length) []).toArray (by rw [grow_empty,K]) (by simp;omega) (by simp [c]) (fun x hx=>by
    obtain ⟨y,_,rfl⟩:=List.mem_map.1 hx;rfl) (fun i F=>by
    have g:i<(Lib.compact (xs.map bl)).length:=by simpa [c] using F
    have D:i<(Lib.compact (xs.map bl)++List.replicate (xs.length-(Lib.compact (xs.map bl)).length) []).toArray.size:=by simp;omega
    rw [getElem!_pos _ i D]
    have e:encStr ((Lib.compact (xs.map bl)++List.replicate (xs.length-(Lib.compact (xs.map bl)).length) []).toArray[i]) = .string ((Ly xs)[i]'(by rw [c];exact g)):=by
     simp only [encStr,Ly,List.getElem_toArray,List.getElem_map,List.getElem_append_left g]
    rw [e,List.getElem_map]
    exact .flat (k _ (ZcB (List.getElem_mem _))))
  refine ⟨_,M,.vec id ver 0 (Ly xs).length,_,rfl,⟨rfl,rfl⟩,u,G,?_⟩
  rw [c]
  exact .vec hi hver fun hv=>⟨rfl,h,by omega⟩
end
end
end Go.Ev
namespace Go.Proofs.YtmcnjijeocmkgaaGreatDoor
open Go Go.RowKit Go.Ev
@[go_sem] theorem ZlF (n:Nat):QJ .nil n = .list [] .seed:=rfl
theorem Zia (xs:List ByteArray):(xs.flatMap fun x=>(Eo x).cells)=xs.map sv:=by
 induction xs with
 | nil=>rfl
 | cons x r ih=>rw [List.flatMap_cons,ih];rfl
theorem Zi7 (l m:List ByteArray):(l.flatMap fun x=>(Eo x).cells)++(m.map Eo).flatMap (fun y=>y.pub.cells)=(l++m).flatMap fun x=>(Eo x).cells:=by
 rw [List.flatMap_append,List.flatMap_map];rfl
def ZaI (x:List UInt8):List (List UInt8)→List (List UInt8)
 | []=>[x]
 | y::r=>if decide (x≤y)=true then x::y::r else y::ZaI x r
def Ut:List (List UInt8)→List (List UInt8)
 | []=>[]
 | x::r=>ZaI x (Ut r)
theorem Sj (x:List UInt8):∀ l,(ZaI x l).Perm (x::l)
 | []=>List.Perm.refl _
 | y::r=>by
  unfold ZaI
  split
  ·exact List.Perm.refl _
  ·exact ((Sj x r).cons y).trans (List.Perm.swap _ _ _)
theorem TG:∀ l,(Ut l).Perm l
 | []=>List.Perm.refl _
 | x::r=>(Sj x _).trans ((TG r).cons x)
theorem ZbP (x:List UInt8):∀ l:List (List UInt8),l.Pairwise (fun a b=>a≤b)→(ZaI x l).Pairwise (fun a b=>a≤b)
 | [],_=>by simp [ZaI]
 | y::r,h=>by
  obtain ⟨d,e⟩:=List.pairwise_cons.1 h
  unfold ZaI
  split
  ·rename_i c
   have c:x≤y:=of_decide_eq_true c
   refine List.pairwise_cons.2 ⟨fun z hz=>?_,h⟩
   rcases List.mem_cons.1 hz with rfl | hz
   ·exact c
   ·exact List.le_trans c (d z hz)
  ·rename_i c
   have c:y≤x:=by
    rcases List.le_total x y with q | q
    ·exact absurd (Ah q) c
    ·exact q
   refine List.pairwise_cons.2 ⟨fun z hz=>?_,ZbP x r e⟩
   rcases List.mem_cons.1 ((Sj x r).mem_iff.1 hz) with rfl | hz
   ·exact c
   ·exact d z hz
theorem WZ:∀ l,(Ut l).Pairwise (fun a b=>a≤b)
 | [] => .nil
 | x::r=>ZbP x _ (WZ r)
theorem Zcx (l:List (List UInt8)):(l.mergeSort fun x y=>decide (x≤y))=Ut l:=by
 refine List.Perm.eq_of_pairwise (le:=fun a b=>a≤b) (fun a b _ _ e d=>List.le_antisymm e d) ?_ (WZ l) ((List.mergeSort_perm l _).trans (TG l).symm)
 have:=List.pairwise_mergeSort (le:=fun x y:List UInt8=>decide (x≤y)) (fun a b c e d=>Ah (List.le_trans (of_decide_eq_true e) (of_decide_eq_true d))) (fun a b=>by
  rcases List.le_total a b with q | q<;>simp [q]) l
 exact this.imp fun h=>of_decide_eq_true h
def LA (xs:List ByteArray):List ByteArray:=(Ut (xs.map bl)).map fun l=>⟨l.toArray⟩
theorem Y1 (xs:List ByteArray):MH xs=LA xs:=by rw [MH,Zcx];rfl
theorem N5 (xs:List ByteArray):(LA xs).length=xs.length:=by rw [←Y1,Ol]
section
variable (w0:World) {Rw rows:List RowA} {l:List (Nat × Nat × Ev.Own)} {ho:Ev.Own} {v:List VE} {o:VO} {xs:List ByteArray}
theorem ZK (hO:Owns Rw rows l ho ((o,1,xs.flatMap fun x=>(Eo x).cells)::v)) (hn:xs.length<4611686018427387904) :
  ∃ rows',Owns Rw rows' l ho ((o,1,(LA xs).flatMap fun x=>(Eo x).cells)::v)∧∀ (B:As) (Ls:Aw),ACalls Tryz.prog w0 159 [QJ o xs.length] ⟨B,rows,Ls⟩ fun r s=>r = .tup []∧s=⟨B,rows',Ls⟩:=by
 rw [Zia] at hO ⊢
 rw [←Y1]
 exact Zfa w0 Tryz.laysSortS (A7 Tryz.func159 rfl (by decide)) hO hn
theorem ZH (hO:Owns Rw rows l ho ((o,1,xs.flatMap fun x=>(Eo x).cells)::v)) (hn:xs.length<4611686018427387904) :
  ∃ rows',Owns Rw rows' l ho ((o,1,(Ly xs).flatMap fun x=>(Eo x).cells)::v)∧∀ (B:As) (Ls:Aw),ACalls Tryz.prog w0 160 [QJ o xs.length] ⟨B,rows,Ls⟩ fun r s=>r=QJ o (Ly xs).length∧s=⟨B,rows',Ls⟩:=by
 rw [Zia] at hO ⊢
 exact ZeI w0 Tryz.laysComp (A7 Tryz.func160 rfl (by decide)) hO hn
end
def Jf (g:Int) (b:Bool):(Int × Int) :=
 if b then
  (3,3)
 else
  if decide (g=25) then
   (2,256)
  else
   (2,2)
def Dm (g:Int) (b:Bool):(Int × Int) :=
 if b then
  (1,1)
 else
  if decide (g=21) then
   Jf g true
  else
   Jf g (decide (g=24))
def GU (b:Int) (g:Bool):(Int × Int) :=
 if g then
  (0,0)
 else
  if decide (b=3) then
   Dm b true
  else
   if decide (b=16) then
    Dm b true
   else
    if decide (b=18) then
     Dm b true
    else
     if decide (b=19) then
      Dm b true
     else
      if decide (b=20) then
       Dm b true
      else
       if decide (b=27) then
        Dm b true
       else
        Dm b (decide (b=28))
def Gv (b:Int):(Int × Int) :=
 if decide (b=1) then
  GU b true
 else
  if decide (b=2) then
   GU b true
  else
   if decide (b=22) then
    GU b true
   else
    GU b (decide (b=26))
theorem V3 (w0:World) (B:As) (Rw:Ax) (L:Aw) (a0:Int) (r:Int × Int) (h:Gv a0=r) :
  ACalls Tryz.prog w0 300 [Am a0] ⟨B,Rw,L⟩ fun x st=>x = .tup [Am r.1,Am r.2]∧st=⟨B,Rw,L⟩:=by
 rw [Gv] at h
 refine hd [.tmp 2,.tmp 3] Tryz.func300 Tryz.ntmps300 fun M0 W0 k i g b p j hs=>?_
 simp only [AB]
 refine rg [0] hs ?_
 apply Ap;intro K2 o
 refine rg [4] hs ?_
 apply Au
 refine AA (fun e st=>∃ (f:Bool),Ck e st B Rw L [(4,true,Am a0),(5,true,.val (.bool f))] [] [] (GU a0 f=r)) ?_ ?_
 ·intro K6 n
  exact go (tg (a:=([4,5],([4,5],()),[4,5],([4,5],()),[4,5],([4,5],()),[4,5],()))) h hs k i g b j trivial (q1 n)
 ·clear h;rintro e st ⟨f,Xk5,Rk5,rfl,rfl,j,h⟩
  rw [GU] at h
  refine td k i g b j ?_
  refine Cj h hs ?_ ?_<;>intro hs h
  ·refine rg [2,3] hs ?_
   exact rT h hs b j
  refine AA (fun e st=>∃ (d:Bool),Ck e st B Rw L [(4,true,Am a0),(10,true,.val (.bool d))] [] [] (Dm a0 d=r)) ?_ ?_
  ·intro K17 m
   exact go (tg (a:=([4,10],([4,10],()),[4,10],([4,10],()),[4,10],([4,10],()),[4,10],([4,10],()),[4,10],([4,10],()),[4,10],([4,10],()),[4,10],()))) h hs k i g b j trivial (q1 m)
  ·clear h;rintro e st ⟨d,Xk16,Rk16,rfl,rfl,j,h⟩
   rw [Dm] at h
   refine td k i g b j ?_
   refine Cj h hs ?_ ?_<;>intro hs h
   ·refine rg [2,3] hs ?_
    exact rT h hs b j
   refine AA (fun e st=>∃ (c:Bool),Ck e st B Rw L [(4,true,Am a0),(18,true,.val (.bool c))] [] [] (Jf a0 c=r)) ?_ ?_
   ·intro K34 l
    exact go (tg (a:=([4,18],([4,18],()),[4,18],()))) h hs k i g b j trivial (q1 l)
   ·clear h;rintro e st ⟨c,Xk33,Rk33,rfl,rfl,j,h⟩
    rw [Jf] at h
    exact go (tg (a:=(([2,3],()),[21],([2,3],()),[],[2,3],()))) h hs k i g b j trivial (q1 o)
theorem VH (w0:World) (B:As) (Rw:Ax) (L:Aw) (a0:Int) :
  ACalls Tryz.prog w0 300 [Am a0] ⟨B,Rw,L⟩ fun x st=>x = .tup [Am ((Gv a0).1),Am ((Gv a0).2)]∧st=⟨B,Rw,L⟩:=V3 w0 B Rw L a0 _ rfl
def Eh (b:Part):Bool :=
 decide (b.kind=3)
theorem QA (w0:World) (B:As) (Rw:Ax) (L:Aw) (a0:Part) (r:Bool) (h:Eh a0=r) :
  ACalls Tryz.prog w0 303 [.agg (Am a0.kind::(Am a0.index::([.val (.string a0.name)])))] ⟨B,Rw,L⟩ fun x st=>x = .val (.bool r)∧st=⟨B,Rw,L⟩:=by
 rw [Eh] at h
 refine hd [.tmp 2] Tryz.func303 Tryz.ntmps303 fun M0 W0 e d b a f c hs=>?_
 simp only [AB]
 refine rg [1] hs ?_
 refine rg [2] hs ?_
 exact rT h hs a c
theorem P6 (w0:World) (B:As) (Rw:Ax) (L:Aw) (a0:Part) :
  ACalls Tryz.prog w0 303 [.agg (Am a0.kind::(Am a0.index::([.val (.string a0.name)])))] ⟨B,Rw,L⟩ fun x st=>x = .val (.bool (Eh a0))∧st=⟨B,Rw,L⟩:=QA w0 B Rw L a0 _ rfl
def JW (b:Int):Bool :=
 (decide (1≤b))&&(decide (b≤7))
theorem U6 (w0:World) (B:As) (Rw:Ax) (L:Aw) (a0:Int) (r:Bool) (h:JW a0=r) :
  ACalls Tryz.prog w0 338 [Am a0] ⟨B,Rw,L⟩ fun x st=>x = .val (.bool r)∧st=⟨B,Rw,L⟩:=by
 rw [JW] at h
 refine hd [.tmp 2] Tryz.func338 Tryz.ntmps338 fun M0 W0 e d b a f c hs=>?_
 simp only [AB]
 refine rg [0] hs ?_
 refine rg [2] hs ?_
 exact rT h hs a c
theorem Ub (w0:World) (B:As) (Rw:Ax) (L:Aw) (a0:Int) :
  ACalls Tryz.prog w0 338 [Am a0] ⟨B,Rw,L⟩ fun x st=>x = .val (.bool (JW a0))∧st=⟨B,Rw,L⟩:=U6 w0 B Rw L a0 _ rfl
def He (n:Nat) (h:List Vl):Option Int :=
 if decide ((h.length:Int)=0) then
  some (4)
 else
  if decide ((h.length:Int)=1) then
   (B6 h 0).bind fun g =>
   (HZ n g).bind fun b =>
   if !(decide (b=0)) then
    some (b)
   else
    if !(JW g.kind) then
     some (18)
    else
     some (0)
  else
   some (3)
theorem QL (w0:World) (hT:Lib.Utf8Tabs 2 3 w0) (n:Nat) (B:As) (Rw:Ax) (L:Aw) (a0:List Vl) (r:Int) (h:He n a0=some r) :
  ACalls Tryz.prog w0 302 [.list (a0.map BZ) .none] ⟨B,Rw,L⟩ fun x st=>x=Am r∧st=⟨B,Rw,L⟩:=by
 rw [He] at h
 refine hd [.tmp 2] Tryz.func302 Tryz.ntmps302 fun M0 W0 e d c b g f hs=>?_
 simp only [AB]
 exact go (tg (a:=([0],[0,5],[0,5,6],([2],()),[0,8],([0,3],[0,3,15],([2],()),[0],[22],([2],()),[],[2],()),[],[2],()))) h hs e d c b f (q2 (QW w0 hT n) (Ub w0)) trivial
def GV (b:Int):Bool :=
 ((decide (b=2))||(decide (b=22)))||(decide (b=26))
theorem UM (w0:World) (B:As) (Rw:Ax) (L:Aw) (a0:Int) (r:Bool) (h:GV a0=r) :
  ACalls Tryz.prog w0 180 [Am a0] ⟨B,Rw,L⟩ fun x st=>x = .val (.bool r)∧st=⟨B,Rw,L⟩:=by
 rw [GV] at h
 refine hd [.tmp 2] Tryz.func180 Tryz.ntmps180 fun M0 W0 e d b a f c hs=>?_
 simp only [AB]
 refine rg [0] hs ?_
 refine rg [2] hs ?_
 exact rT h hs a c
theorem Kx (w0:World) (B:As) (Rw:Ax) (L:Aw) (a0:Int) :
  ACalls Tryz.prog w0 180 [Am a0] ⟨B,Rw,L⟩ fun x st=>x = .val (.bool (GV a0))∧st=⟨B,Rw,L⟩:=UM w0 B Rw L a0 _ rfl
def Im (b:Int):Bool :=
 (decide (b=15))||(decide (b=26))
theorem UF (w0:World) (B:As) (Rw:Ax) (L:Aw) (a0:Int) (r:Bool) (h:Im a0=r) :
  ACalls Tryz.prog w0 301 [Am a0] ⟨B,Rw,L⟩ fun x st=>x = .val (.bool r)∧st=⟨B,Rw,L⟩:=by
 rw [Im] at h
 refine hd [.tmp 2] Tryz.func301 Tryz.ntmps301 fun M0 W0 e d b a f c hs=>?_
 simp only [AB]
 refine rg [0] hs ?_
 refine rg [2] hs ?_
 exact rT h hs a c
theorem Oz (w0:World) (B:As) (Rw:Ax) (L:Aw) (a0:Int) :
  ACalls Tryz.prog w0 301 [Am a0] ⟨B,Rw,L⟩ fun x st=>x = .val (.bool (Im a0))∧st=⟨B,Rw,L⟩:=UF w0 B Rw L a0 _ rfl
def EI (n:Nat) (b:Ex):Option Int :=
 if (Im b.op)&&((decide (b.int<0))||(decide (12<b.int))) then
  some (2)
 else
  some (0)
def GN (n:Nat) (b:Ex):Option Int :=
 if (decide (b.op<1))||(decide (28<b.op)) then
  some (11)
 else
  if (((!(decide (b.op=1)))&&(decide (0<(b.value.length:Int))))||((!(GV b.op))&&(!(G5 b.text (⟨#[]⟩:ByteArray)))))||((!(Im b.op))&&(!(decide (b.int=0)))) then
   some (3)
  else
   if (decide (((Gv b.op).2)=0))&&(decide (0<(b.args.length:Int))) then
    some (3)
   else
    if decide ((b.args.length:Int)<((Gv b.op).1)) then
     some (4)
    else
     if (decide (((Gv b.op).2)<(b.args.length:Int)))&&(!(decide (b.op=25))) then
      some (3)
     else
      if decide (b.op=1) then
       (He n b.value).bind fun h =>
       some (h)
      else
       if GV b.op then
        (CZ n b.text).bind fun g =>
        if !(decide (g.2=0)) then
         some (g.2)
        else
         (Bq n g.1 (fun (y:Part)=>some (Eh y))).bind fun q =>
         if q != (decide (b.op=26)) then
          some (22)
         else
          EI n b 
       else
        EI n b 
theorem SK (w0:World) (hE:Jl w0) (hM:Jh w0) (hP:Pow10 w0) (hT:Lib.Utf8Tabs 2 3 w0) (n:Nat) (B:As) (Rw:Ax) (L:Aw) (a0:Ex) (r:Int) (h:GN n a0=some r) :
  ACalls Tryz.prog w0 242 [.agg (a0.cs)] ⟨B,Rw,L⟩ fun x st=>x=Am r∧st=⟨B,Rw,L⟩:=by
 rw [GN] at h
 refine hd [.tmp 2] Tryz.func242 Tryz.ntmps242 fun M0 W0 s j k b z c hs=>?_
 simp only [AB]
 refine rg [1] hs ?_
 apply Ap;intro K2 o
 refine rg [1,15] hs ?_
 refine Cj h hs ?_ ?_<;>intro hs h
 ·refine rg [2] hs ?_
  exact rt h hs b c
 refine sk [1] hs o ?_
 clear o
 refine rc 2 [1,3,4] hs ?_;intro K6 l
 refine Az _ (VH w0 _ _ _ a0.op) (hv hs) ?_
 refine ne hs l ?_
 clear l
 refine AA (fun e st=>Ck e st B Rw L [(1,true,.box B.length 0)] [a0.cs] [] (EI n a0  = some r)) ?_ ?_
 ·intro K9 q
  apply Au
  refine rc 3 [1,3,4,22] hs ?_;intro K10 i
  refine QB _ (fun _=>Kx w0 _ _ _ a0.op) (hv hs) ?_
  refine nc hs ?_
  refine QB _ (fun _=>Oz w0 _ _ _ a0.op) (hv hs) ?_
  refine ne hs i ?_
  clear i
  refine Cj h hs ?_ ?_<;>intro hs h
  ·refine rg [2] hs ?_
   exact rt h hs b c
  refine rg [1,3,4,54] hs ?_
  refine Cj h hs ?_ ?_<;>intro hs h
  ·refine rg [2] hs ?_
   exact rt h hs b c
  refine rg [1,4,63] hs ?_
  refine Cj h hs ?_ ?_<;>intro hs h
  ·refine rg [2] hs ?_
   exact rt h hs b c
  refine rg [1,69] hs ?_
  refine Cj h hs ?_ ?_<;>intro hs h
  ·refine rg [2] hs ?_
   exact rt h hs b c
  refine rg [1,80] hs ?_
  refine Cj h hs ?_ ?_<;>intro hs h
  ·exact go (tg (a:=([2],()))) h hs s j k b c (q1 (QL w0 hT n)) trivial
  refine rc 2 [1,87] hs ?_;intro K26 f
  refine Az _ (Kx w0 _ _ _ a0.op) (hv hs) ?_
  refine ne hs f ?_
  clear f
  refine Cj h hs ?_ ?_<;>intro hs h
  ·obtain ⟨t,p,h⟩:=bind_some h
   refine rc 2 [1,5,6] hs ?_;intro K28 g
   refine Az _ (GG w0 hE hM hP n _ _ _ a0.text _ p) (hv hs) ?_
   refine ne hs g ?_
   clear g
   apply Ap;intro K30 d
   refine rg [1,5,6,98] hs ?_
   refine Cj h hs ?_ ?_<;>intro hs h
   ·refine rg [2] hs ?_
    exact rt h hs b c
   refine sk [1,5] hs d ?_
   clear d
   obtain ⟨w,hy35,h⟩:=bind_some h
   refine rc 2 [1,7] hs ?_;intro K34 m
   refine Az _ (Ec w0 n _ _ _ t.1 303 [] (fun (x0:Part)=>some (Eh x0)) (fun x0 r hx y rows' u v=>by cases hx;exact P6 w0 _ _ _ x0) _ hy35) (hv hs) ?_
   exact go (tg (a:=([1,106],([2],()),[1],()))) h hs s j k b c trivial (q2 m q)
  refine sk [1] hs q ?_
  exact ⟨([]),Rw,ef hs,ef hs,c,h⟩
 ·clear h;rintro e st ⟨Xk8,Rk8,rfl,rfl,c,h⟩
  rw [EI] at h
  exact go (tg (a:=([119],([2],()),[],[2],()))) h hs s j k b c (q1 (Oz w0)) trivial
def JI (rec:Ex→Int→Int→Option (Int × Int)) (n:Nat)  (pla2_k19:Int):Option (Int × Int) :=
 some ((0,pla2_k19))
def DL (rec:Ex→Int→Int→Option (Int × Int)) (n:Nat) (q:Ex) (y:Int):Nat→Int→Int→Option (Int × Int)
 | 0,_,_=>none
 | m+1,b,pla2_l22 =>
  if decide (b<(q.args.length:Int)) then
   (B6 q.args b).bind fun h =>
   if Bj (y+1) then
    (rec h (y+1) pla2_l22).bind fun g =>
    if !(decide (g.1=0)) then
     some ((g.1,g.2))
    else
     if Bj (b+1) then
      (DL rec n q y m) (b+1) g.2
     else none
   else none
  else
   JI rec n pla2_l22
def Jo (rec:Ex→Int→Int→Option (Int × Int)) (n:Nat) (h:Ex) (q:Int) (b:Int):Option (Int × Int) :=
 if decide (b=256) then
  some ((9,b))
 else
  if Bj (b+1) then
   if decide (8<q) then
    some ((23,b+1))
   else
    (GN n h).bind fun g =>
    if !(decide (g=0)) then
     some ((g,b+1))
    else
     DL rec n h q n 0 (b+1)
  else none
def ER:Nat→Ex→Int→Int→Option (Int × Int)
 | 0,_,_,_=>none
 | n+1,g,h,b=>Jo (ER n) n g h b
def LZ (w0:World) (F:Ex→Int→Int→Option (Int × Int)):Prop:=∀ (B:As) (Rw:Ax) (L:Aw) (g:Ex) (h:Int) (la2:Nat) (b:Int) (hla2:B[la2]? = some ([Am b])) (la3:Nat) (hla3:B[la3]? = some [.clo 241 [.box la2 0,.box la3 0]]) (r:Int × Int),F g h b=some r→ACalls Tryz.prog w0 241 [.agg (g.cs),Am h,.box la2 0,.box la3 0] ⟨B,Rw,L⟩ fun x st=>x=Am r.1∧st=⟨(B.set la2 [Am r.2]),Rw,L⟩
theorem RI (w0:World) (hE:Jl w0) (hM:Jh w0) (hP:Pow10 w0) (hT:Lib.Utf8Tabs 2 3 w0) (rec:Ex→Int→Int→Option (Int × Int)) (ih:LZ w0 rec) (n:Nat):LZ w0 (Jo rec n):=by
 intro B Rw L a0 a1 u a2 t z j r h
 rw [Jo] at h
 refine hd [.tmp 6] Tryz.func241 Tryz.ntmps241 fun M0 W0 D l o c hu p hs=>?_
 simp only [AB]
 have Z:=(Ak.1 t).1
 have Y:=(Ak.1 j).1
 have i:u≠z:=fun q=>by have k:=t;rw [q,j] at k;cases k
 have hs:=Ae (An t) hs
 have hs:=Ae (An j) hs
 have hs:=Ae (BC j i) hs
 refine rg [1,2,3,4] hs ?_
 apply Ap;intro K2 Q
 refine rg [1,2,3,4,12] hs ?_
 refine Cj h hs ?_ ?_<;>intro hs h
 ·have aa:=hs.1
  refine rg [6] hs ?_
  exact rt h hs c p
 have aa:=hs.1
 refine sk [1,2,3,4] hs Q ?_
 clear Q
 obtain ⟨ah,h⟩:=Av h
 refine rg [1,3,4] hs ?_
 apply Ap;intro K8 O
 refine rg [1,3,4,16] hs ?_
 refine Cj h hs ?_ ?_<;>intro hs h
 ·have G:=hs.1
  exact go (tg (a:=([6],()))) h hs D l o c p trivial trivial
 have G:=hs.1
 refine sk [1,3,4] hs O ?_
 clear O
 apply Ap;intro K12 v
 obtain ⟨ag,N,h⟩:=bind_some h
 refine rc 2 [1,3,4,7] hs ?_;intro K13 x
 refine Az _ (SK w0 hE hM hP hT n _ _ _ a0 _ N) (hv hs) ?_
 refine ne hs x ?_
 clear x
 refine rg [1,3,4,7,20] hs ?_
 refine Cj h hs ?_ ?_<;>intro hs h
 ·have U:=hs.1
  exact go (tg (a:=([6],()))) h hs D l o c p trivial trivial
 have U:=hs.1
 refine sk [1,3,4] hs v ?_
 clear v
 refine AA (fun e st=>∃ (d:Int) (Xk19:As) (Rk19:Ax),e=[]∧st=⟨(B.set u ([Am d]))++([a0.cs]++Xk19),Rk19,L⟩∧Owns Rw Rk19 []∧JI rec n d=some r) ?_ ?_
 ·intro K20 V
  refine rg [1,3,23,24,25] hs ?_
  apply Au
  refine AC (fun m e st=>∃ (g:Int) (b:Int) (Xl22:As) (Rl22:Ax),e=[(1,true,Am a1),(3,true,.box z 0),(23,true,.list (a0.args.map NE) .none),(24,true,Am (a0.args.length:Int)),(25,true,Am g)]∧st=⟨(B.set u ([Am b]))++([a0.cs]++Xl22),Rl22,L⟩∧Owns Rw Rl22 []∧DL rec n a0 a1 m g b=some r) n ⟨0,(a2+1),([]),Rw,ef hs,ef hs,p,h⟩ ?_
  rintro ml22 e st ⟨g,b,Xl22,Rl22,rfl,rfl,p,h⟩ Ul22 Vl22
  cases ml22 with
  | zero=>cases h
  | succ ml22 =>
  rw [DL] at h
  refine A4 D l o N9 (A1 c ev) p ow ow ?_
  refine rg [1,3,23,24,25,26] hs ?_
  apply Ap;intro K24 w
  refine Cj h hs ?_ ?_<;>intro hs h
  rotate_left
  ·have J:=hs.1
   refine sx [] hs V ?_
   exact ⟨b,([]),Rl22,ef hs,ef hs,p,h⟩
  have J:=hs.1
  refine sk [1,3,23,24,25] hs w ?_
  clear w
  apply Ap;intro K26 H
  apply Au
  obtain ⟨ae,F,h⟩:=bind_some h
  obtain ⟨ab,ad,y⟩:=Bt F
  have C:=Bv (f:=NE) y
  have hs:=Ae C hs
  refine rg [1,3,9,23,24,25] hs ?_
  obtain ⟨af,h⟩:=Av h
  obtain ⟨ai,K,h⟩:=bind_some h
  refine rc 2 [1,3,10,23,24,25] hs ?_;intro K29 E
  refine Ey _ (ih _ _ _ ae (a1+1) u b (ef hs) z (ef hs) _ K) (hv hs) ?_;rintro _ _ ⟨rfl,rfl⟩
  exact go (tg (a:=([1,3,10,23,24,25,35],([6],()),[1,3,23,24,25],[1,3,23,24,25],()))) h hs D l o c p trivial (q3 E H (fun e s=>Vl22 ml22 e s (Nat.lt_succ_self _)))
 ·clear h;rintro e st ⟨d,Xk19,Rk19,rfl,rfl,p,h⟩
  rw [JI] at h
  refine A4 D l o N9 (A1 c ev) p ow ow ?_
  exact go (tg (a:=([6],()))) h hs D l o c p trivial trivial
theorem OE (w0:World) (hE:Jl w0) (hM:Jh w0) (hP:Pow10 w0) (hT:Lib.Utf8Tabs 2 3 w0):∀ n:Nat,LZ w0 (ER n)
 | 0=>fun _ _ _ _ _ _ _ _ _ _ _ h=>(nomatch h)
 | n+1=>RI w0 hE hM hP hT (ER n) (OE w0 hE hM hP hT n) n
def GK (n:Nat) (g:Ex):Option Int :=
 (ER n g 1 0).bind fun b =>
 some (b.1)
theorem MZ (w0:World) (hE:Jl w0) (hM:Jh w0) (hP:Pow10 w0) (hT:Lib.Utf8Tabs 2 3 w0) (n:Nat) (B:As) (Rw:Ax) (L:Aw) (a0:Ex) (r:Int) (h:GK n a0=some r) :
  ACalls Tryz.prog w0 161 [.agg (a0.cs)] ⟨B,Rw,L⟩ fun x st=>x=Am r∧st=⟨B,Rw,L⟩:=by
 rw [GK] at h
 refine hd [.tmp 2] Tryz.func161 Tryz.ntmps161 fun M0 W0 g f d a j e hs=>?_
 simp only [AB]
 refine rg [1] hs ?_
 refine rg [1,3] hs ?_
 refine rg [1,3,4] hs ?_
 refine rg [1,4] hs ?_
 obtain ⟨i,c,h⟩:=bind_some h
 refine rc 2 [2] hs ?_;intro K5 b
 refine Ey _ (OE w0 hE hM hP hT n _ _ _ a0 1 (B.length+1) 0 ev (B.length+2) ev _ c) (hv hs) ?_;rintro _ _ ⟨rfl,rfl⟩
 refine ne hs b ?_
 clear b
 exact rt h hs a e
def HW (rec:Ex→(List ByteArray)→Option ((List ByteArray))) (n:Nat) (h:Ex):Nat→Int→(List ByteArray)→Option ((List ByteArray))
 | 0,_,_=>none
 | m+1,b,pla1_l12 =>
  if decide (b<(h.args.length:Int)) then
   (B6 h.args b).bind fun g =>
   (rec g pla1_l12).bind fun q =>
   if Bj (b+1) then
    (HW rec n h m) (b+1) q
   else none
  else
   some (pla1_l12)
def Iy (rec:Ex→(List ByteArray)→Option ((List ByteArray))) (n:Nat) (b:Ex) (pla1_k3:List ByteArray):Option ((List ByteArray)) :=
 HW rec n b n 0 pla1_k3
def LG (rec:Ex→(List ByteArray)→Option ((List ByteArray))) (n:Nat) (b:Ex) (g:List ByteArray):Option ((List ByteArray)) :=
 if GV b.op then
  if (g.length+1)*16≤140737488355328∧g.length+1≤4611686018427387904 then
   Iy rec n b (g++[b.text])
  else none
 else
  Iy rec n b g
def Jn:Nat→Ex→(List ByteArray)→Option ((List ByteArray))
 | 0,_,_=>none
 | n+1,b,g=>LG (Jn n) n b g
def LR (w0:World) (F:Ex→(List ByteArray)→Option ((List ByteArray))):Prop:=∀ (B:As) (Rw:Ax) (L:Aw) (g:Ex) (la1:Nat) (b:List ByteArray) (oa1:VO) (hla1:B[la1]? = some [QJ oa1 b.length]) (hGa1:Owns Rw Rw [] (hOf oa1) [(oa1,1,b.flatMap fun x=>(Eo x).cells)]) (la2:Nat) (hla2:B[la2]? = some [.clo 179 [.box la1 0,.box la2 0]]) (r:(List ByteArray)),F g b=some r→ACalls Tryz.prog w0 179 [.agg (g.cs),.box la1 0,.box la2 0] ⟨B,Rw,L⟩ fun x st=>x = .tup []∧∃ (R1:Ax) (o1:VO),st=⟨(B.set la1 [QJ o1 r.length]),R1,L⟩∧Owns Rw R1 [] (hOf oa1) [(o1,1,r.flatMap fun x=>(Eo x).cells)]
theorem Q0 (w0:World) (rec:Ex→(List ByteArray)→Option ((List ByteArray))) (ih:LR w0 rec) (n:Nat):LR w0 (LG rec n):=by
 intro B Rw L a0 y a1 oa1 p N w j r h
 rw [LG] at h
 refine ACalls.finG (E8 (rs:=[]) Tryz.func179 rfl rfl Tryz.ntmps179 (A7 Tryz.func179 rfl (by decide)) (Nat.le_of_ble_eq_true rfl) ?_)
 intro M0 W0 hN E G o hu
 dsimp only at hN E G o hu
 simp only [AB]
 have l:=N
 have hs:=Ze5
 have aa:=(Ak.1 p).1
 have ab:=(Ak.1 j).1
 have g:y≠w:=fun q=>by have k:=p;rw [q,j] at k;cases oa1<;>cases k
 have hs:=Ae (An p) hs
 have hs:=Ae (An j) hs
 have hs:=Ae (BC j g) hs
 refine rg [1,2,3] hs ?_
 refine AA (fun e st=>∃ (c:List ByteArray) (d:VO) (Xk3:As) (Rk3:Ax),e=[(2,true,.box w 0),(3,true,.box B.length 0)]∧st=⟨(B.set y ([QJ d c.length]))++([a0.cs]++Xk3),Rk3,L⟩∧Owns Rw Rk3 [] (hOf oa1) [(d,1,c.flatMap fun x=>(Eo x).cells)]∧Iy rec n a0 c=some r) ?_ ?_
 ·intro K4 V
  refine rc 2 [1,2,3,8] hs ?_;intro K5 K
  refine Az _ (Kx w0 _ _ _ a0.op) (hv hs) ?_
  refine ne hs K ?_
  clear K
  refine Cj h hs ?_ ?_<;>intro hs h
  ·obtain ⟨Y,h⟩:=Av h
   obtain ⟨o8,F,l,v⟩:=l.appendV (P:=Tryz.prog) (n:=a1.length) (m:=1) Vb (by rw [Rq];rfl) (by decide) ((Lt (f:=Eo) (sz:=1) (fun _=>by simp +decide only [go_sem]) _)) Y.1 Y.2 [Eo a0.text] rfl ((a1++[a0.text]).flatMap fun x=>(Eo x).cells) (by simp only [List.flatMap_append,List.flatMap_cons,List.flatMap_nil,List.append_nil,List.nil_append,ZdJ])
   simp only [List.mem_singleton,forall_eq,Ge,Gi,F3,ES,EY,F7,Dn,D5,F2,CN,CM,Ej,D7,Ef,F4,Ee,FZ] at v
   have hs:=Ae v hs
   refine rl [2,3] hs V ?_
   exact ⟨(a1++[a0.text]),o8,([]),F,ef hs,ef hs,Owns.eqV (l) fn_,h⟩
  refine sk [2,3] hs V ?_
  exact ⟨a1,oa1,([]),Rw,ef hs,ef hs,Owns.eqV (l) fn_,h⟩
 ·clear h;rintro e st ⟨c,d,Xk3,Rk3,rfl,rfl,l,h⟩
  rw [Iy] at h
  have t:=l.underV
  simp only [List.mem_cons,List.not_mem_nil,or_false,forall_eq_or_imp,forall_eq] at t
  refine PZ hN E G N9 (A1 (Of o l.len) ow) l ow ow ?_ (vu @VK)
  refine rg [2,15,16,17] hs ?_
  apply Au
  refine AC (fun m e st=>∃ (i:Int) (a:List ByteArray) (b:VO) (Xl12:As) (Rl12:Ax),e=[(2,true,.box w 0),(15,true,.list (a0.args.map NE) .none),(16,true,Am (a0.args.length:Int)),(17,true,Am i)]∧st=⟨(B.set y ([QJ b a.length]))++([a0.cs]++Xl12),Rl12,L⟩∧Owns Rw Rl12 [] (hOf oa1) [(b,1,a.flatMap fun x=>(Eo x).cells)]∧HW rec n a0 m i a=some r) n ⟨0,c,d,([]),Rk3,ef hs,ef hs,Owns.eqV (l) fn_,h⟩ ?_
  rintro ml12 e st ⟨i,a,b,Xl12,Rl12,rfl,rfl,l,h⟩ Ul12 Vl12
  cases ml12 with
  | zero=>cases h
  | succ ml12 =>
  rw [HW] at h
  have t:=l.underV
  simp only [List.mem_cons,List.not_mem_nil,or_false,forall_eq_or_imp,forall_eq] at t
  refine PZ hN E G N9 (A1 (Of o l.len) ow) l ow ow ?_ (vu @VK)
  refine rg [2,15,16,17,18] hs ?_
  apply Ap;intro K14 C
  refine Cj h hs ?_ ?_<;>intro hs h
  rotate_left
  ·have u:=hs.1
   refine RU (Fv [] _) ?_ (GY _ _)
   apply LL;simp +decide only [go_sem,Nat.reduceAdd]
   (repeat' with_reducible apply Ae)<;>first | exact cl | skip
   have hgt:=Option.some.inj h;subst hgt
   have t:=l.underV
   simp only [List.mem_cons,List.not_mem_nil,or_false,forall_eq_or_imp,forall_eq] at t
   refine Zam l (A1 (Of o l.len) ow) N9 ev ⟨?_,_,_,?_,l.sub (List.nil_sublist _)⟩ (vu @VK)
   all_goals first | rfl | (simp +decide only [go_sem,Nat.reduceAdd,An p,An j,BC j g,u];done) | (simp +decide only [go_sem,Nat.reduceAdd,Vl.cs,Ty.cs,An p,An j,BC j g,u];done)
  have u:=hs.1
  refine sk [2,15,16,17] hs C ?_
  clear C
  apply Ap;intro K16 D
  apply Au
  obtain ⟨Q,Z,h⟩:=bind_some h
  obtain ⟨af,ae,J⟩:=Bt Z
  have H:=Bv (f:=NE) J
  have hs:=Ae H hs
  refine rg [2,5,15,16,17] hs ?_
  obtain ⟨ad,U,h⟩:=bind_some h
  refine rk 2 [2,15,16,17] hs ?_
  refine Ey _ (ih _ _ _ Q y a b (ef hs) l.enterV w (ef hs) _ U) (hv hs) ?_;rintro _ _ ⟨rfl,Rg20,O,rfl,z⟩
  have l:=l.callG z
  refine ne hs D ?_
  clear D
  obtain ⟨ag,h⟩:=Av h
  refine rl [2,15,16,17] hs (fun e s=>Vl12 ml12 e s (Nat.lt_succ_self _)) ?_
  exact ⟨(i+1),ad,O,([Q.cs]),Rg20,ef hs,ef hs,Owns.eqV (l) fn_,h⟩
theorem Om (w0:World):∀ n:Nat,LR w0 (Jn n)
 | 0=>fun _ _ _ _ _ _ _ _ _ _ _ _ h=>(nomatch h)
 | n+1=>Q0 w0 (Jn n) (Om w0 n) n
def Oh (n:Nat) (g:Ex):Option ((List ByteArray)) :=
 (GK n g).bind fun h =>
 if !(decide (h=0)) then
  some ([])
 else
  (Jn n g ([])).bind fun b =>
  if b.length<4611686018427387904 then
   if (LA b).length<4611686018427387904 then
    some (Ly (LA b))
   else none
  else none
theorem Wi (w0:World) (hE:Jl w0) (hM:Jh w0) (hP:Pow10 w0) (hT:Lib.Utf8Tabs 2 3 w0) (n:Nat) (B:As) (Rw:Ax) (L:Aw) (a0:Ex) (r:(List ByteArray)) (h:Oh n a0=some r) :
  ACalls Tryz.prog w0 99 [.agg (a0.cs)] ⟨B,Rw,L⟩ fun x st=>x = .list (r.map Eo) .none∧st=⟨B,Rw,L⟩:=by
 rw [Oh] at h
 refine hd [.tmp 2] Tryz.func99 Tryz.ntmps99 fun M0 W0 E z C b F a hs=>?_
 simp only [AB]
 refine rg [1] hs ?_
 apply Ap;intro K2 q
 obtain ⟨D,w,h⟩:=bind_some h
 refine rc 2 [1,7] hs ?_;intro K3 m
 refine Az _ (MZ w0 hE hM hP hT n _ _ _ a0 _ w) (hv hs) ?_
 refine ne hs m ?_
 clear m
 refine Cj h hs ?_ ?_<;>intro hs h
 ·refine rg [2] hs ?_
  exact rt h hs b a
 refine sk [1] hs q ?_
 clear q
 refine rg [1,3] hs ?_
 refine rg [1,3,4] hs ?_
 refine rg [1,3,4] hs ?_
 apply Ap;intro K10 e
 refine RA (B.length+1) 0 (by simp only [CG,BK,BJ,Bl];rfl) rfl ?_;simp +decide only [go_sem,Nat.reduceAdd,List.set_cons_zero,List.set_cons_succ]
 have a:=a.nilV 1
 obtain ⟨v,o,h⟩:=bind_some h
 refine rk 2 [3] hs ?_
 refine Ey _ (Om w0 n _ _ _ a0 (B.length+1) ([]) .nil (ef hs) a.enterV (B.length+2) (ef hs) _ o) (hv hs) ?_;rintro _ _ ⟨rfl,Rg13,y,rfl,c⟩
 have a:=a.callG c
 refine ne hs e ?_
 clear e
 apply Ap;intro K15 d
 obtain ⟨k,h⟩:=Av h
 obtain ⟨t,a,j⟩:=ZK w0 a k
 have p:=N5 v
 refine RQ 0 (by decide) ?_
 have hs:=Ae p hs
 refine rk 2 [3] hs ?_
 refine PR [false] _ (j _ _) (hv hs) ?_;rintro _ _ ⟨rfl,rfl⟩
 refine ne hs d ?_
 clear d
 apply Ap;intro K20 g
 obtain ⟨l,h⟩:=Av h
 obtain ⟨u,a,i⟩:=ZH w0 a l
 refine RQ 0 (by decide) ?_
 refine rk 2 [2] hs ?_
 refine PR [false] _ (i _ _) (hv hs) ?_;rintro _ _ ⟨rfl,rfl⟩
 refine ne hs g ?_
 clear g
 refine ZbM 2 (by first | rfl | (simp only [XN,List.length_set];rfl)) a false (.inr rfl) (by decide) ((Lt (f:=Eo) (sz:=1) (fun _=>by simp +decide only [go_sem]) _)) (ZbU (f:=Eo) (fun _=>rfl) _) (fun s a=>?_)
 simp +decide only [go_sem,Nat.reduceAdd,List.set_cons_zero,List.set_cons_succ]
 exact rt h hs b a
def ID (n:Nat)  (b:List ByteArray):Option ((List ByteArray)) :=
 if b.length<4611686018427387904 then
  if (LA b).length<4611686018427387904 then
   some (Ly (LA b))
  else none
 else none
def GH (n:Nat) (y:List (ByteArray × Ex)):Nat→(List ByteArray)→Int→Option ((List ByteArray))
 | 0,_,_=>none
 | m+1,g,b =>
  if decide (b<(y.length:Int)) then
   (B6 y b).bind fun q =>
   (Oh n q.2).bind fun h =>
   if (g.length+h.length)*16≤140737488355328∧g.length+h.length≤4611686018427387904 then
    if Bj (b+1) then
     (GH n y m) (g++h) (b+1)
    else none
   else none
  else
   ID n g
def Ja (n:Nat) (b:List (ByteArray × Ex)):Option ((List ByteArray)) :=
 GH n b n ([]) 0
theorem QI (w0:World) (hE:Jl w0) (hM:Jh w0) (hP:Pow10 w0) (hT:Lib.Utf8Tabs 2 3 w0) (n:Nat) (B:As) (Rw:Ax) (L:Aw) (a0:List (ByteArray × Ex)) (r:(List ByteArray)) (h:Ja n a0=some r) :
  ACalls Tryz.prog w0 69 [.agg ([.list (a0.map AP) .none])] ⟨B,Rw,L⟩ fun x st=>x = .list (r.map Eo) .none∧st=⟨B,Rw,L⟩:=by
 rw [Ja] at h
 refine hd [.tmp 2] Tryz.func69 Tryz.ntmps69 fun M0 W0 hN G O k hu d hs=>?_
 simp only [AB]
 refine rg [1] hs ?_
 refine rg [1,3] hs ?_
 refine AA (fun e st=>∃ (c:List ByteArray) (i:VO) (Xk4:As) (Rk4:Ax),e=[(3,true,QJ i c.length)]∧st=⟨B++([[.list (a0.map AP) .none]]++Xk4),Rk4,L⟩∧Owns Rw Rk4 [] .none [(i,1,c.flatMap fun x=>(Eo x).cells)]∧ID n c=some r) ?_ ?_
 ·intro K5 Z
  refine rg [3,7,8,9] hs ?_
  apply Au
  refine Ze3 3 rfl ?_
  refine RU (Fv [3,7,8,9] _) ?_ (GY _ _);simp +decide only [go_sem,Nat.reduceAdd]
  have d:=d.nilV 1
  refine AC (fun m e st=>∃ (a:List ByteArray) (g:Int) (b:VO) (Xl7:As) (Rl7:Ax),e=[(3,true,QJ b a.length),(7,true,.list (a0.map AP) .none),(8,true,Am (a0.length:Int)),(9,true,Am g)]∧st=⟨B++([[.list (a0.map AP) .none]]++Xl7),Rl7,L⟩∧Owns Rw Rl7 [] .none [(b,1,a.flatMap fun x=>(Eo x).cells)]∧GH n a0 m a g=some r) n ⟨([]),0,.nil,([]),Rw,ef hs,ef hs,Owns.eqV (d) fn_,h⟩ ?_
  rintro ml7 e st ⟨a,g,b,Xl7,Rl7,rfl,rfl,d,h⟩ Ul7 Vl7
  cases ml7 with
  | zero=>cases h
  | succ ml7 =>
  rw [GH] at h
  have v:=d.underV
  simp only [List.mem_cons,List.not_mem_nil,or_false,forall_eq_or_imp,forall_eq] at v
  refine A4 hN G O rfl k d ow ow ?_ (vu @VK)
  refine rg [3,7,8,9,10] hs ?_
  apply Ap;intro K10 t
  refine Cj h hs ?_ ?_<;>intro hs h
  rotate_left
  ·refine sx [3] hs Z ?_
   exact ⟨a,b,([]),Rl7,ef hs,ef hs,Owns.eqV (d) fn_,h⟩
  refine sk [3,7,8,9] hs t ?_
  clear t
  apply Ap;intro K12 q
  apply Au
  obtain ⟨w,N,h⟩:=bind_some h
  obtain ⟨ab,ad,E⟩:=Bt N
  have C:=Bv (f:=AP) E
  have hs:=Ae C hs
  refine rg [3,5,7,8,9] hs ?_
  obtain ⟨j,F,h⟩:=bind_some h
  obtain ⟨o,h⟩:=Av h
  obtain ⟨aa,l,d,D⟩:=d.appendV (P:=Tryz.prog) (n:=a.length) (m:=j.length) Vb (by rw [Rq];rfl) (by decide) ((Lt (f:=Eo) (sz:=1) (fun _=>by simp +decide only [go_sem]) _)) o.1 o.2 (j.map Eo) (by rw [List.length_map]) ((a++j).flatMap fun x=>(Eo x).cells) (Zi7 a j)
  have H:(a++j).length=a.length+j.length:=List.length_append
  have hs:=Ae D hs
  have hs:=Ae H hs
  refine rk 2 [3,7,8,9] hs ?_
  refine Az _ (Wi w0 hE hM hP hT n _ _ _ w.2 _ F) (hv hs) ?_
  refine ne hs q ?_
  clear q
  obtain ⟨ae,h⟩:=Av h
  refine rl [3,7,8,9] hs (fun e s=>Vl7 ml7 e s (Nat.lt_succ_self _)) ?_
  exact ⟨(a++j),(g+1),aa,([.val (.string w.1)::(w.2.cs)]),l,ef hs,ef hs,Owns.eqV (d) fn_,h⟩
 ·clear h;rintro e st ⟨c,i,Xk4,Rk4,rfl,rfl,d,h⟩
  rw [ID] at h
  have v:=d.underV
  simp only [List.mem_cons,List.not_mem_nil,or_false,forall_eq_or_imp,forall_eq] at v
  refine A4 hN G O rfl k d ow ow ?_ (vu @VK)
  apply Ap;intro K22 u
  obtain ⟨J,h⟩:=Av h
  obtain ⟨Y,d,y⟩:=ZK w0 d J
  have Q:=N5 c
  refine RQ 0 (by decide) ?_
  have hs:=Ae Q hs
  refine rk 2 [3] hs ?_
  refine PR [false] _ (y _ _) (hv hs) ?_;rintro _ _ ⟨rfl,rfl⟩
  refine ne hs u ?_
  clear u
  apply Ap;intro K27 p
  obtain ⟨K,h⟩:=Av h
  obtain ⟨V,d,z⟩:=ZH w0 d K
  refine RQ 0 (by decide) ?_
  refine rk 2 [2] hs ?_
  refine PR [false] _ (z _ _) (hv hs) ?_;rintro _ _ ⟨rfl,rfl⟩
  refine ne hs p ?_
  clear p
  refine ZbM 2 (by first | rfl | (simp only [XN,List.length_set];rfl)) d false (.inr rfl) (by decide) ((Lt (f:=Eo) (sz:=1) (fun _=>by simp +decide only [go_sem]) _)) (ZbU (f:=Eo) (fun _=>rfl) _) (fun U d=>?_)
  simp +decide only [go_sem,Nat.reduceAdd,List.set_cons_zero,List.set_cons_succ]
  exact rt h hs k d
def Gz (n:Nat)  : Option Int :=
 some ((-1))
def ED (n:Nat) (h:List ByteArray) (y:ByteArray→Option Bool):Nat→Int→Option Int
 | 0,_=>none
 | m+1,b =>
  if decide (b<(h.length:Int)) then
   (B6 h b).bind fun g =>
   (y g).bind fun q =>
   if q then
    some (b)
   else
    if Bj (b+1) then
     (ED n h y m) (b+1)
    else none
  else
   Gz n 
def GZ (n:Nat) (b:List ByteArray) (g:ByteArray→Option Bool):Option Int :=
 ED n b g n 0
theorem NI (w0:World) (n:Nat) (B:As) (Rw:Ax) (L:Aw) (a0:List ByteArray) (fa1:FuncId) (ca1:List AV) (a1:ByteArray→Option Bool) (ha1:∀ (x0:ByteArray) r,a1 x0=some r→∀ B' rows,B <+: B'→Rw <+: rows→ACalls Tryz.prog w0 fa1 ([.val (.string x0)]++ca1) ⟨B',rows,L⟩ fun v s=>v = .val (.bool r)∧s=⟨B',rows,L⟩) (r:Int) (h:GZ n a0 a1=some r) :
  ACalls Tryz.prog w0 183 [.list (a0.map Eo) .none,.clo fa1 ca1] ⟨B,Rw,L⟩ fun x st=>x=Am r∧st=⟨B,Rw,L⟩:=by
 rw [GZ] at h
 refine hd [.tmp 4] Tryz.func183 Tryz.ntmps183 fun M0 W0 j i g b l f hs=>?_
 simp only [AB]
 have c:=BN (l (.clo fa1 ca1) (by simp))
 refine rg [0,1] hs ?_
 refine AA (fun e st=>Ck e st B Rw L [] [] [] (Gz n  = some r)) ?_ ?_
 ·intro K4 k
  refine rg [0,1,7,8] hs ?_
  apply Au
  refine AC (fun m e st=>∃ (d:Int),Ck e st B Rw L [(0,true,.list (a0.map Eo) .none),(1,true,.clo fa1 ca1),(7,true,Am (a0.length:Int)),(8,true,Am d)] [] [] (ED n a0 a1 m d=some r)) n ⟨0,([]),Rw,ef hs,ef hs,f,h⟩ ?_
  rintro ml6 e st ⟨d,Xl6,Rl6,rfl,rfl,f,h⟩ Ul6 Vl6
  cases ml6 with
  | zero=>cases h
  | succ ml6 =>
  rw [ED] at h
  refine A4 j i g rfl b f (Ln c f) (Ln c f) ?_
  exact go (tg (a:=([0,1,7,8,9],([0,1,7,8],[0,1,5,7,8],[0,1,5,7,8,16],([4],()),[0,1,7,8],[0,1,7,8],()),[],()))) h hs j i g b f (q1 ha1) (q2 k (fun e s=>Vl6 ml6 e s (Nat.lt_succ_self _)))
 ·clear h;rintro e st ⟨Xk3,Rk3,rfl,rfl,f,h⟩
  rw [Gz] at h
  refine A4 j i g rfl b f (Ln c f) (Ln c f) ?_
  refine rg [4] hs ?_
  exact rt h hs b f
def FD (n:Nat) (b:List ByteArray) (h:ByteArray→Option Bool):Option Bool :=
 (GZ n b h).bind fun g =>
 some (decide (0≤g))
theorem L8 (w0:World) (n:Nat) (B:As) (Rw:Ax) (L:Aw) (a0:List ByteArray) (fa1:FuncId) (ca1:List AV) (a1:ByteArray→Option Bool) (ha1:∀ (x0:ByteArray) r,a1 x0=some r→∀ B' rows,B <+: B'→Rw <+: rows→ACalls Tryz.prog w0 fa1 ([.val (.string x0)]++ca1) ⟨B',rows,L⟩ fun v s=>v = .val (.bool r)∧s=⟨B',rows,L⟩) (r:Bool) (h:FD n a0 a1=some r) :
  ACalls Tryz.prog w0 181 [.list (a0.map Eo) .none,.clo fa1 ca1] ⟨B,Rw,L⟩ fun x st=>x = .val (.bool r)∧st=⟨B,Rw,L⟩:=by
 rw [FD] at h
 refine hd [.tmp 4] Tryz.func181 Tryz.ntmps181 fun M0 W0 m l i b k g hs=>?_
 simp only [AB]
 have f:=BN (k (.clo fa1 ca1) (by simp))
 refine rg [0,1] hs ?_
 obtain ⟨o,d,h⟩:=bind_some h
 refine rc 2 [4] hs ?_;intro K2 c
 refine Az _ (NI w0 n _ _ _ a0 fa1 ca1 a1 (fun x0 r j e a q1 q2=>ha1 x0 r j e a (List.IsPrefix.trans px q1) (g.pre.trans q2)) _ d) (hv hs) ?_
 refine ne hs c ?_
 clear c
 exact rt h hs b g
theorem ZdV (n:Nat) (l:List Part) (f:Part→Option Bool) (p:Part→Bool) (hf:∀ x∈l,f x=some (p x)) (hl:l.length≤1000000000):∀ (k m i:Nat),i+k=l.length→k<m→B2 n l f m i=some (OB p l i)
 | k,0,i,_,h=>absurd h (Nat.not_lt_zero _)
 | 0,m+1,i,hi,_=>by
  rw [B2,AH,Ac,I9 p l i (by omega)]
  rfl
 | k+1,m+1,i,hi,hm=>by
  have a:i<l.length:=by omega
  rw [B2,AH,Ah a,HA p l i a]
  simp only [if_true,AK a,Af,hf _ (List.getElem_mem a)]
  by_cases h:p l[i]=true
  ·rw [Ai h,Ai h]
  ·rw [Aj h,Aj h,Ai (AG (by omega))]
   exact ZdV n l f p hf hl k m (i+1) (by omega) (by omega)
theorem Zah (n:Nat) (l:List (List Part)) (f:List Part→Option Bool) (p:List Part→Bool) (hf:∀ x∈l,f x=some (p x)) (hl:l.length≤1000000000):∀ (k m i:Nat),i+k=l.length→k<m→BV n l f m i=some (OB p l i)
 | k,0,i,_,h=>absurd h (Nat.not_lt_zero _)
 | 0,m+1,i,hi,_=>by
  rw [BV,AH,Ac,I9 p l i (by omega)]
  rfl
 | k+1,m+1,i,hi,hm=>by
  have a:i<l.length:=by omega
  rw [BV,AH,Ah a,HA p l i a]
  simp only [if_true,AK a,Af,hf _ (List.getElem_mem a)]
  by_cases h:p l[i]=true
  ·rw [Ai h,Ai h]
  ·rw [Aj h,Aj h,Ai (AG (by omega))]
   exact Zah n l f p hf hl k m (i+1) (by omega) (by omega)
theorem NS (n:Nat) (l:List Part) (f:Part→Option Bool) (p:Part→Bool) (hf:∀ x∈l,f x=some (p x)) (hl:l.length≤1000000000) (hn:l.length<n):Bq n l f=some (l.any p):=by
 have e:FR n l f=some (OB p l 0):=ZdV n l f p hf hl l.length n 0 (by omega) hn
 rw [Bq,e,Af,MN]
theorem Rz (n:Nat) (l:List (List Part)) (f:List Part→Option Bool) (p:List Part→Bool) (hf:∀ x∈l,f x=some (p x)) (hl:l.length≤1000000000) (hn:l.length<n):B1 n l f=some (l.any p):=by
 have e:Df n l f=some (OB p l 0):=Zah n l f p hf hl l.length n 0 (by omega) hn
 rw [B1,e,Af,MN]
def P4 (f:Part→Part→Bool):List Part→List Part→Bool
 | x::a,y::b=>f x y&&P4 f a b
 | _,_=>true
theorem RJ (f:Part→Part→Bool) (a:List Part):P4 f a []=true:=by cases a<;>rfl
theorem Ss (f:Part→Part→Bool):∀ (b a:List Part),P4 f (a.take b.length) b=P4 f a b
 | [],a=>by rw [RJ,RJ]
 | y::b,[]=>rfl
 | y::b,x::a=>by rw [List.length_cons,List.take_succ_cons,P4,P4,Ss f b a]
theorem WE (f:Part→Part→Bool) {a b:List Part} {i:Nat} (ha:i<a.length) (hb:i<b.length):P4 f (a.drop i) (b.drop i)=(f a[i] b[i]&&P4 f (a.drop (i+1)) (b.drop (i+1))):=by
 rw [List.drop_eq_getElem_cons ha,List.drop_eq_getElem_cons hb,P4]
theorem Zdg (f:Part→Part→Bool) {a b:List Part} {i:Nat} (hb:b.length≤i):P4 f (a.drop i) (b.drop i)=true:=by
 rw [List.drop_eq_nil_of_le hb,RJ]
theorem ZcH (f:Part→Part→Bool) {a b:List Part} {i:Nat} (hb:a.length≤i):P4 f (a.drop i) (b.drop i)=true:=by
 rw [List.drop_eq_nil_of_le hb];rfl
def pEq (x y:Part):Bool:=decide (x.kind=y.kind)&&(decide (x.index=y.index)&&(G5 x.name y.name))
theorem Zbz (n:Nat) (a b:List Part) (h:a.length=b.length) (hl:a.length≤1000000):∀ (k m i:Nat),i+k=a.length→k<m→Dl n a b m i=some (P4 pEq (a.drop i) (b.drop i))
 | k,0,i,_,h=>absurd h (Nat.not_lt_zero _)
 | 0,m+1,i,hi,_=>by
  rw [Dl,AH,Ac,Aj (by decide),Ia,ZcH _ (by omega)]
 | k+1,m+1,i,hi,hm=>by
  have d:i<a.length:=by omega
  have c:i<b.length:=by omega
  have ih:=Zbz n a b h hl k m (i+1) (by omega) (by omega)
  rw [Dl,AH,Ah d,Ai rfl,AK d,Af,AK c,Af,WE _ d c]
  show (if (!pEq a[i] b[i])=true then _ else _)=_
  cases pEq a[i] b[i] with
  | false=>rfl
  | true =>
   rw [Aj (by decide),Ai (AG (by omega)),Bool.true_and]
   exact ih
theorem ZeT (n:Nat) (a b:List Part) (h:a.length=b.length) (hl:a.length≤1000000) (hn:a.length<n):E6 n a b=some (P4 pEq a b):=by
 rw [E6,Ad,Aj (by decide)]
 have:=Zbz n a b h hl a.length n 0 (by omega) hn
 rw [List.drop_zero,List.drop_zero] at this
 exact this
def Md (l f:List Part):Bool:=decide (f.length≤l.length)&&P4 pEq l f
theorem W8 (n:Nat) (l f:List Part) (hl:l.length≤1000000) (hn:l.length<n):EL n l f=some (Md l f):=by
 rw [EL,Md]
 by_cases h:f.length≤l.length
 ·have a:(l.take f.length).length=f.length:=by rw [List.length_take];omega
  rw [Ad,Ai rfl,Ai ⟨by decide,by omega,by omega⟩,ZeT n _ f a (by omega) (by omega),Ss,Af,Ah h,Bool.true_and]
 ·rw [Ac,Aj (by decide),Ag h,Bool.false_and]
theorem YV (n:Nat) (hn:400≤n) (a:List (ByteArray × Ex)) (ha:a.length≤256):∀ (k m i:Nat) (seen:List (List Part)),i+k=a.length→k<m→seen.length=i→(∀ l∈seen,O7 l)→∃ e,DK n a m seen i=some e
 | k,0,i,_,_,h,_,_=>absurd h (Nat.not_lt_zero _)
 | 0,m+1,i,s,hi,_,_,_=>by
  rw [DK,AH,Ac,Aj (by decide)]
  exact ⟨_,rfl⟩
 | k+1,m+1,i,s,hi,hm,hs,hp=>by
  have b:i<a.length:=by omega
  obtain ⟨e,ok⟩:=Qp n (by omega) a[i].1
  rw [DK,AH,Ah b,Ai rfl,AK b,Af,e,Af]
  generalize Yr n a[i].1=r at ok ⊢
  by_cases c:r.2=0
  rotate_left
  ·rw [Ag c,Ai (by rfl)];exact ⟨_,rfl⟩
  have f:=ok.1
  rw [Ah c,Aj (by decide),NS n r.1 _ (fun x=>EJ x) (fun x _=>rfl) (by omega) (by omega),Af]
  split
  ·exact ⟨_,rfl⟩
  rw [Rz n s _ (fun o=>Md r.1 o||Md o r.1) (fun o ho=>by
   have d:=(hp o ho).1
   rw [FV,W8 n _ _ (by omega) (by omega),Af,W8 n _ _ (by omega) (by omega)]
   cases Md r.1 o<;>rfl) (by omega) (by omega),Af]
  split
  ·exact ⟨_,rfl⟩
  rw [Ab,Ai (AG (by omega))]
  exact YV n hn a ha k m (i+1) _ (by omega) (by omega) (by rw [G7];omega) (G6 hp ok)
theorem ZbT (n:Nat) (hn:400≤n) (a:List (ByteArray × Ex)) (ha:LQ a):∃ e,Do n a=some e:=by
 have:=ha.1
 rw [Do,Aj (by rw [decide_eq_true_eq];omega)]
 exact YV n hn a (by omega) a.length n 0 [] (by omega) (by omega) rfl (by simp)
theorem Zfh (n:Nat) (e:Ex):∃ r,EI n e=some r:=by
 rw [EI];split<;>exact ⟨_,rfl⟩
theorem ZiY (n:Nat) (hn:1200000≤n) (e:Ex) (hv:∀ v∈e.value,v.size≤1100000∧v.ok):∃ r,GN n e=some r:=by
 rw [GN]
 split
 ·exact ⟨_,rfl⟩
 split
 ·exact ⟨_,rfl⟩
 split
 ·exact ⟨_,rfl⟩
 split
 ·exact ⟨_,rfl⟩
 split
 ·exact ⟨_,rfl⟩
 split
 ·rw [He]
  split
  ·exact ⟨_,rfl⟩
  split
  ·rename_i c
   have c:=of_decide_eq_true c
   obtain ⟨x,a⟩:=List.length_eq_one_iff.1 (show e.value.length=1 by omega)
   obtain ⟨f,b⟩:=hv x (by rw [a];exact List.mem_singleton.2 rfl)
   rw [a,show B6 [x] 0=some x from rfl,Af,UN n x (by omega) (by have:=x.depth_size;omega) (H7 _ x (Nat.le_refl _) (by omega)) b,Af]
   split
   ·exact ⟨_,rfl⟩
   split<;>exact ⟨_,rfl⟩
  ·exact ⟨_,rfl⟩
 split
 ·obtain ⟨q,ok⟩:=Qp n (by omega) e.text
  have d:=ok.1
  rw [q,Af]
  split
  ·exact ⟨_,rfl⟩
  rw [NS n _ _ (fun x=>Eh x) (fun x _=>rfl) (by omega) (by omega),Af]
  split
  ·exact ⟨_,rfl⟩
  ·exact Zfh n e
 ·exact Zfh n e
theorem ZO (rec:Ex→Int→Int→Option (Int × Int)) (n:Nat) (e:Ex) (lv:Int) (hlv:Bj (lv+1)) (ha:e.args.length≤4)
  (hr:∀ x∈e.args,∀ c:Int,0≤c→c≤256→∃ r,rec x (lv+1) c=some r∧0≤r.2∧r.2≤256):∀ (k m i:Nat) (c:Int),i+k=e.args.length→k<m→0≤c→c≤256→∃ r,DL rec n e lv m i c=some r∧0≤r.2∧r.2≤256
 | k,0,i,_,_,h,_,_=>absurd h (Nat.not_lt_zero _)
 | 0,m+1,i,c,hi,_,c1,c2=>by
  rw [DL,AH,Ac,Aj (by decide)]
  exact ⟨_,rfl,c1,c2⟩
 | k+1,m+1,i,c,hi,hm,c1,c2=>by
  have a:i<e.args.length:=by omega
  obtain ⟨r,q,b,d⟩:=hr _ (List.getElem_mem a) c c1 c2
  rw [DL,AH,Ah a,Ai rfl,AK a,Af,Ai hlv,q,Af]
  split
  ·exact ⟨_,rfl,b,d⟩
  ·rw [Ai (AG (by omega))]
   exact ZO rec n e lv hlv ha hr k m (i+1) r.2 (by omega) (by omega) b d
def Ex.bnd:Nat→Ex→Prop
 | 0,_=>False
 | d+1,e=>(∀ v∈e.value,v.size≤1100000∧v.ok)∧e.args.length≤4∧(∀ x∈e.args,Ex.bnd d x)∧e.value.length≤2
theorem Ex.fits.bnd:∀ {d:Nat} {e:Ex},e.fits d→e.bnd d
 | 0,_,h=>h.elim
 | d+1,e,⟨_,f2,f3,f4,f5⟩=>⟨fun v hv=>⟨by have:=(f2 v hv).1;omega,(f2 v hv).2⟩,f3,fun x a=>(f4 x a).bnd,f5⟩
theorem ZiE:∀ (d n:Nat) (e:Ex) (lv c:Int),e.bnd d→1200001+d≤n→0≤lv→lv≤100→0≤c→c≤256→∃ r,ER n e lv c=some r∧0≤r.2∧r.2≤256
 | 0,_,_,_,_,h,_,_,_,_,_=>h.elim
 | d+1,n,e,lv,c,h,hn,l1,l2,a,b=>by
  obtain ⟨n,rfl⟩:∃ q,n=q+1:=⟨n-1,by omega⟩
  obtain ⟨i,j,f,_⟩:=h
  rw [ER,Jo]
  by_cases z:c=256
  ·rw [Ah z,Ai rfl];exact ⟨_,rfl,a,b⟩
  rw [Ag z,Aj (by decide),Ai (by unfold Bj;omega)]
  split
  ·exact ⟨_,rfl,by simp only;omega,by simp only;omega⟩
  rename_i q
  have q:¬ 8<lv:=of_decide_eq_false (Bool.eq_false_iff.2 q)
  obtain ⟨r,o⟩:=ZiY n (by omega) e i
  rw [o,Af]
  split
  ·exact ⟨_,rfl,by simp only;omega,by simp only;omega⟩
  exact ZO (ER n) n e lv (by unfold Bj;omega) j (fun x g c a b=>ZiE d n x (lv+1) c (f x g) (by omega) (by omega) (by omega) a b) e.args.length n 0 (c+1) (by omega) (by omega) (by omega) (by omega)
theorem ZgE (n d:Nat) (hn:1200002+d≤n) (e:Ex) (h:e.bnd d):∃ r,GK n e=some r:=by
 obtain ⟨r,q,_⟩:=ZiE d n e 1 0 h (by omega) (by decide) (by decide) (by decide) (by decide)
 exact ⟨_,by rw [GK,q];rfl⟩
theorem RD {α:Type} (p:α→Bool) (l:List α):∀ (k j:Nat),j+k=l.length→(l.drop j).find? p=B6 l (OB p l j)
 | 0,j,h=>by rw [I9 p l j (by omega),List.drop_eq_nil_of_le (by omega)];rfl
 | k+1,j,h=>by
  have a:j<l.length:=by omega
  rw [HA p l j a,List.drop_eq_getElem_cons a,List.find?_cons]
  cases hp:p l[j] with
  | true=>rw [Ai rfl,AK a]
  | false=>rw [Aj (by decide)];exact RD p l k (j+1) (by omega)
theorem ZeS {α:Type} (p:α→Bool) (l:List α):l.find? p=B6 l (OB p l 0):=RD p l l.length 0 (by omega)
def IP (t:Ty) (w:ByteArray):Option TF:=t.fields.find? fun x=>G5 x.2.1 w
theorem LU {t:Ty} {w:ByteArray} {p:TF} (h:IP t w=some p):p∈t.fields∧p.2.1=w:=⟨List.mem_of_find?_eq_some h,(Um _ _).1 (List.find?_some (p:=fun x:TF=>G5 x.2.1 w) h)⟩
def ON:Nat→Ty→Vl→Bool
 | 0,_,_=>false
 | d+1,t,v =>
  if t.kind≠v.kind then false
  else if t.kind=2∨t.kind=6∨t.kind=7 then decide (t.min≤v.int)&&decide (v.int≤t.max)
  else if t.kind=3 then decide (v.scale=t.scale)&&(decide (t.min≤v.int)&&decide (v.int≤t.max))
  else if t.kind=4 then (t.words.any fun x=>G5 x v.text)||(decide ((t.words.length:Int)=0)&&ZI t v.text.size)
  else if t.kind=5 then ZI t v.text.size
  else if t.kind=8 then (v.list.all fun x=>t.elem.all fun e=>ON d e x)&&ZI t v.list.length
  else if t.kind=10 then match IP t v.text with
   | some p=>v.list.all fun x=>ON d p.2.2.2.1 x
   | none=>false
  else if t.kind=9 then (v.fields.all fun q=>match IP t q.1 with
   | some p=>ON d p.2.2.2.1 q.2
   | none=>false) && !(t.fields.any (ZeG v))
  else true
theorem Ty.depth_elem {t x:Ty} (hx:x∈t.elem):x.depth<t.depth:=by
 have:=t.depth_eq
 have:=(LO t.elem (Ji t.elem)).1 (Nat.le_refl _) x hx
 omega
theorem Ty.depth_field {t:Ty} {p:TF} (hx:p∈t.fields):p.2.2.2.1.depth<t.depth:=by
 have:=t.depth_eq
 have:=(J4 t.fields (Hr t.fields)).1 (Nat.le_refl _) p hx
 omega
theorem Zcq {v:Vl} (gv:v.Good) (vk:v.kind=10):∃ x,v.list=[x]:=by
 obtain ⟨_,a⟩:=Wx (SQ gv)
 have q:=SQ gv
 rw [GR] at q
 by_cases p1:Gy v=true
 ·rw [Ai p1] at q;exact absurd q (by decide)
 rw [Aj p1,Aa,Aj a,Aa,Aa,Aa,Aa,Aa,Aa,Aa,Aa,Aa] at q
 by_cases p2:FO v.text=true
 ·rw [Ai p2] at q
  by_cases p3:v.list.length=0
  ·rw [Ai p3] at q;exact absurd q (by decide)
  rw [Aj p3] at q
  by_cases p4:1<v.list.length
  ·rw [Ai p4] at q;exact absurd q (by decide)
  exact List.length_eq_one_iff.1 (by omega)
 ·rw [Aj p2] at q;exact absurd q (by decide)
def ZkJ (d:Nat) (t:Ty) (q:ByteArray × Vl):Bool:=match IP t q.1 with
 | some p=>ON d p.2.2.2.1 q.2
 | none=>false
inductive Ty.Fine:Nat→Ty→Prop
 | mk (d:Nat) (t:Ty) (own:Ry t=0) (he:∀ x∈t.elem,Ty.Fine d x) (hf:∀ p∈t.fields,Ty.Fine d p.2.2.2.1) (hd:∀ p∈t.fields,∀ v∈p.2.2.2.2,UD v=0∧ON 12 p.2.2.2.1 v=true):Ty.Fine (d+1) t
theorem Ty.Fine.depth:∀ (d:Nat) (t:Ty),t.Fine d→t.depth≤d
 | 0,t,h=>by cases h
 | d+1,t,h=>by
  cases h with
  | mk _ _ own he hf hd =>
   have c:=(LO t.elem d).2 fun x a=>Ty.Fine.depth d x (he x a)
   have b:=(J4 t.fields d).2 fun x a=>Ty.Fine.depth d _ (hf x a)
   have:=t.depth_eq
   omega
theorem Ty.Fine.own {d:Nat} {t:Ty} (h:t.Fine d):Ry t=0:=by cases h with | mk _ _ a _ _ _=>exact a
theorem Ty.Fine.good:∀ {d:Nat} {t:Ty},t.Fine d→t.Good
 | 0,t,h=>by cases h
 | d+1,t,h=>by
  cases h with
  | mk _ _ own he hf hd=>exact .mk t own (fun x a=>(he x a).good) fun p b=>(hf p b).good
theorem Ty.Fine.elem {d:Nat} {t x:Ty} (h:t.Fine (d+1)) (hx:x∈t.elem):x.Fine d:=by cases h with | mk _ _ _ a _ _=>exact a x hx
theorem Ty.Fine.field {d:Nat} {t:Ty} {p:TF} (h:t.Fine (d+1)) (hx:p∈t.fields):p.2.2.2.1.Fine d:=by cases h with | mk _ _ _ _ a _=>exact a p hx
def QQ (t:Ty):List (Ty × Part) :=
 if t.kind=8 then t.elem.map fun e=>(e,Part.mk 3 0 ⟨#[]⟩)
 else if t.kind=9 then t.fields.map fun f=>(f.2.2.2.1,Part.mk 1 0 f.2.1)
 else if t.kind=10 then t.fields.map fun f=>(f.2.2.2.1,Part.mk 4 0 f.2.1) else []
theorem XG {t:Ty} (ht:t.small) {q:Ty × Part} (h:q∈QQ t):q.1.small:=by
 unfold QQ at h
 split at h
 ·obtain ⟨e,a,rfl⟩:=List.mem_map.1 h;exact Ty.small_elem ht a
 ·split at h
  ·obtain ⟨e,a,rfl⟩:=List.mem_map.1 h;exact Ty.small_field ht a
  ·split at h
   ·obtain ⟨e,a,rfl⟩:=List.mem_map.1 h;exact Ty.small_field ht a
   ·simp at h
theorem Ti {t:Ty} (ht:t.Good) {q:Ty × Part} (h:q∈QQ t):q.1.Good:=by
 unfold QQ at h
 split at h
 ·obtain ⟨e,a,rfl⟩:=List.mem_map.1 h;exact PL ht a
 ·split at h
  ·obtain ⟨e,a,rfl⟩:=List.mem_map.1 h;exact Hk ht a
  ·split at h
   ·obtain ⟨e,a,rfl⟩:=List.mem_map.1 h;exact Hk ht a
   ·simp at h
inductive Leads:Ty→List Part→Ty→Prop
 | nil (t:Ty):Leads t [] t
 | cons {t x:Ty} {q:Ty × Part} {l:List Part} (h:q∈QQ t) (k:Leads q.1 l x):Leads t (q.2::l) x
theorem X6 {k i:Int} {s:ByteArray} (hk:Bj k) (hi:Bj i) (hs:s.size≤maxLen):(Part.mk k i s).wf:=⟨hk,hi,hs⟩
theorem Leads.wf {t x:Ty} {l:List Part} (h:Leads t l x) (tg:t.Good):∀ p∈l,p.wf:=by
 induction h with
 | nil=>simp
 | @cons t x q l h k ih =>
  intro p hp
  rcases List.mem_cons.1 hp with rfl | hp
  ·have own:=tg.own
   have b:∀ f∈t.fields,f.2.1.size≤32:=fun f c=>Vk (own.each f c).1
   unfold QQ at h
   split at h
   ·obtain ⟨e,a,rfl⟩:=List.mem_map.1 h;exact X6 (by unfold Bj;omega) (by unfold Bj;omega) (by decide)
   ·split at h
    ·obtain ⟨e,a,rfl⟩:=List.mem_map.1 h;exact X6 (by unfold Bj;omega) (by unfold Bj;omega) (Nat.le_trans (b e a) (by decide))
    ·split at h
     ·obtain ⟨e,a,rfl⟩:=List.mem_map.1 h;exact X6 (by unfold Bj;omega) (by unfold Bj;omega) (Nat.le_trans (b e a) (by decide))
     ·simp at h
  ·exact ih (Ti tg h) p hp
theorem Y7 (n:Nat) (hn:25≤n) (l:List Part) (hw:∀ p∈l,p.wf) (hl:l.length≤20):∃ b:Bool,I3 n l=some (if b=true then 0 else 3):=by
 rw [I3]
 by_cases h:l.length<1∨16<l.length
 ·exact ⟨false,by rw [Ai (by simp only [Bool.or_eq_true,decide_eq_true_eq];omega)];rfl⟩
 rw [Aj (by simp only [Bool.or_eq_true,decide_eq_true_eq];omega)]
 match l,h,hw,hl with
 | [],h,_,_=>exact absurd (Or.inl (by simp)) h
 | p::r,h,hw,hl =>
 rw [List.length_cons] at hl
 have c:B6 (p::r) 0=some p:=rfl
 rw [c,Af]
 by_cases h1:p.kind=1
 ·rw [Ah h1]
  simp only [Bool.not_true,Bool.false_eq_true,if_false]
  have a:Fp n (p::r) n (-1) 0=_:=QC n (p::r) hw (by rw [List.length_cons];omega) (p::r).length n 0 (-1) (by omega) (by rw [List.length_cons];omega) (by omega) (by omega)
  exact ⟨_,a⟩
 ·rw [Ag h1]
  exact ⟨false,rfl⟩
def HM (rec:Ty→(List Part)→(List (List Part))→Option ((List (List Part)))) (n:Nat) (g:Int→(List (List Part))→Option ((List (List Part)))) (h:List Part) (b:Int) (q:Ty) (b2_k23_0:Int) (b2_k23_2:ByteArray) (pla2_k23:List (List Part)):Option ((List (List Part))) :=
 if h.length*32≤140737488355328 then
  if (h.length+1)*32≤140737488355328∧h.length+1≤4611686018427387904 then
   (rec q (h++([Part.mk b2_k23_0 0 b2_k23_2])) pla2_k23).bind fun y =>
   if Bj (b+1) then
    g (b+1) y
   else none
  else none
 else none
def ET (rec:Ty→(List Part)→(List (List Part))→Option ((List (List Part)))) (n:Nat) (q:Ty) (y:List Part) (g:(List Ty)):Nat→Int→(List (List Part))→Option ((List (List Part)))
 | 0,_,_=>none
 | m+1,b,pla2_l14 =>
  if decide (b<(g.length:Int)) then
   (B6 g b).bind fun h =>
   if decide (q.kind=9) then
    (B6 q.fields b).bind fun z =>
    HM rec n (ET rec n q y g m) y b h 1 z.2.1 pla2_l14
   else
    if decide (q.kind=10) then
     (B6 q.fields b).bind fun x31 =>
     HM rec n (ET rec n q y g m) y b h 4 x31.2.1 pla2_l14
    else
     HM rec n (ET rec n q y g m) y b h 3 (⟨#[]⟩:ByteArray) pla2_l14
  else
   some (pla2_l14)
def Oc (rec:Ty→(List Part)→(List (List Part))→Option ((List (List Part)))) (n:Nat) (h:Ty) (q:List Part) (b:List (List Part)):Option ((List (List Part))) :=
 (JD n h).bind fun y =>
 if decide ((y.length:Int)=0) then
  if q.length*32≤140737488355328 then
   if (b.length+1)*24≤140737488355328∧b.length+1≤4611686018427387904 then
    some (b++([q]))
   else none
  else none
 else
  (JD n h).bind fun g =>
  ET rec n h q g n 0 b
def Lh:Nat→Ty→(List Part)→(List (List Part))→Option ((List (List Part)))
 | 0,_,_,_=>none
 | n+1,g,h,b=>Oc (Lh n) n g h b
def NK (w0:World) (F:Ty→(List Part)→(List (List Part))→Option ((List (List Part)))):Prop:=∀ (B:As) (Rw:Ax) (L:Aw) (g:Ty) (h:List Part) (la2:Nat) (b:List (List Part)) (oa2:Ev.Own) (hla2:B[la2]? = some [.list (b.map (KO AO)) oa2]) (hGa2:Owns Rw Rw [(1,b.length,oa2)] oa2) (la3:Nat) (hla3:B[la3]? = some [.clo 92 [.box la2 0,.box la3 0]]) (r:(List (List Part))),F g h b=some r→ACalls Tryz.prog w0 92 [.agg (g.cs),.list (h.map AO) .none,.box la2 0,.box la3 0] ⟨B,Rw,L⟩ fun x st=>x = .tup []∧∃ (R1:Ax) (o1:Ev.Own),st=⟨(B.set la2 [.list (r.map (KO AO)) o1]),R1,L⟩∧Owns Rw R1 [(1,r.length,o1)] oa2
theorem TY (w0:World) (rec:Ty→(List Part)→(List (List Part))→Option ((List (List Part)))) (ih:NK w0 rec) (n:Nat):NK w0 (Oc rec n):=by
 intro B Rw L a0 a1 G a2 ab g ah J c r h
 rw [Oc] at h
 refine ACalls.finG (E8 (rs:=[]) Tryz.func92 rfl rfl Tryz.ntmps92 (A7 Tryz.func92 rfl (by decide)) (Nat.le_of_ble_eq_true rfl) ?_)
 intro M0 W0 hN K O E hu
 dsimp only at hN K O E hu
 simp only [AB]
 have D:=ah
 have hs:=Ze5
 have aw:=(Ak.1 g).1
 have ar:=(Ak.1 c).1
 have b:G≠J:=fun q=>by have k:=g;rw [q,c] at k;cases k
 have hs:=Ae (An g) hs
 have hs:=Ae (An c) hs
 have hs:=Ae (BC c b) hs
 refine rg [1,2,3,4] hs ?_
 apply Ap;intro K2 ap
 obtain ⟨y4,a4,h⟩:=bind_some h
 refine rc 2 [1,2,3,4,12] hs ?_;intro K3 ag
 refine Az _ (Qv w0 n _ _ _ a0 _ a4) (hv hs) ?_
 refine ne hs ag ?_
 clear ag
 refine Cj h hs ?_ ?_<;>intro hs h
 ·have x:=hs.1
  obtain ⟨a3,h⟩:=Av h
  obtain ⟨aq,h⟩:=Av h
  obtain ⟨o9,au,D,v⟩:=D.append (P:=Tryz.prog) YF (by rw [P1];rfl) (by decide) 1 aq.1 aq.2
  replace v:=fun (ys:List AV) B L o2=>v (a2.map (KO AO)) ys B L o2 E0
  replace v:=fun (y:AV) B L o2=>v [y] B L o2 E0 (by simp +decide only [go_sem,Nat.reduceAdd])
  try simp only [List.mem_singleton,List.mem_cons,List.not_mem_nil,or_false,forall_eq_or_imp,forall_eq,List.map_append,List.map_cons,List.map_nil,Ge,Gi,F3,ES,EY,F7,Dn,D5,F2,CN,CM,Ej,D7,Ef,F4,Ee,FZ] at v
  have hs:=Ae v hs
  apply Ap;intro K6 ae
  refine dk 4 2 1 [] hs OJ ?_
  refine Az _ (SD w0 _ _ _ a1 a3) (hv hs) ?_
  refine dn hs ae ?_
  clear ae
  apply AN;simp +decide only [go_sem,Nat.reduceAdd,An g,An c,BC c b,x,v]
  have hgt:=Option.some.inj h;subst hgt
  have hU:=D.unders
  simp only [List.mem_cons,List.not_mem_nil,or_false,forall_eq_or_imp,forall_eq] at hU
  refine Zam D (A1 (Of E D.len) ow) N9 ev ⟨?_,_,_,?_,(D.sub (List.sublist_append_left [_] _)).len1 E0⟩
  all_goals first | rfl | (simp +decide only [go_sem,Nat.reduceAdd,An g,An c,BC c b,x,v];done) | (simp +decide only [go_sem,Nat.reduceAdd,Vl.cs,Ty.cs,An g,An c,BC c b,x,v];done)
 have x:=hs.1
 refine sk [1,3,4] hs ap ?_
 clear ap
 obtain ⟨F,ao,h⟩:=bind_some h
 refine rc 2 [1,3,4,19,20,21] hs ?_;intro K12 V
 refine Az _ (Qv w0 n _ _ _ a0 _ ao) (hv hs) ?_
 refine ne hs V ?_
 clear V
 apply Au
 refine AC (fun m e st=>∃ (t:Int) (z:List (List Part)) (C:Ev.Own) (Xl14:As) (Rl14:Ax),e=[(1,true,.list (a1.map AO) .none),(3,true,.box J 0),(4,true,.box B.length 0),(19,true,.list (F.map KF) .none),(20,true,Am (F.length:Int)),(21,true,Am t)]∧st=⟨(B.set G ([.list (z.map (KO AO)) C]))++([a0.cs]++Xl14),Rl14,L⟩∧Owns Rw Rl14 [(1,z.length,C)] ab∧ET rec n a0 a1 F m t z=some r) n ⟨0,a2,ab,([]),Rw,ef hs,ef hs,Owns.of_eq (D) E0,h⟩ ?_
 rintro ml14 e st ⟨t,z,C,Xl14,Rl14,rfl,rfl,D,h⟩ Ul14 Vl14
 cases ml14 with
 | zero=>cases h
 | succ ml14 =>
 rw [ET] at h
 have hU:=D.unders
 simp only [List.mem_cons,List.not_mem_nil,or_false,forall_eq_or_imp,forall_eq] at hU
 refine PZ hN K O N9 (A1 (Of E D.len) ow) D ow ow ?_
 refine rg [1,3,4,19,20,21,22] hs ?_
 apply Ap;intro K16 aa
 refine Cj h hs ?_ ?_<;>intro hs h
 rotate_left
 ·have p:=hs.1
  refine RU (Fv [] _) ?_ (GY _ _)
  apply LL;simp +decide only [go_sem,Nat.reduceAdd]
  (repeat' with_reducible apply Ae)<;>first | exact cl | skip
  have hgt:=Option.some.inj h;subst hgt
  have hU:=D.unders
  simp only [List.mem_cons,List.not_mem_nil,or_false,forall_eq_or_imp,forall_eq] at hU
  refine Zam D (A1 (Of E D.len) ow) N9 ev ⟨?_,_,_,?_,(D.sub (List.sublist_append_left [_] _)).len1 E0⟩
  all_goals first | rfl | (simp +decide only [go_sem,Nat.reduceAdd,An g,An c,BC c b,x,p];done) | (simp +decide only [go_sem,Nat.reduceAdd,Vl.cs,Ty.cs,An g,An c,BC c b,x,p];done)
 have p:=hs.1
 refine sk [1,3,4,19,20,21] hs aa ?_
 clear aa
 apply Ap;intro K18 Y
 apply Au
 obtain ⟨H,af,h⟩:=bind_some h
 obtain ⟨ax,az,ad⟩:=Bt af
 have j:=Bv (f:=KF) ad
 have hs:=Ae j hs
 refine rg [1,3,4,6,7,19,20,21] hs ?_
 refine rg [1,3,4,6,7,8,19,20,21] hs ?_
 refine AA (fun e st=>∃ (l:Int) (o:ByteArray) (u:List (List Part)) (w:Ev.Own) (Xk23:As) (Rk23:Ax),e=[(1,true,.list (a1.map AO) .none),(3,true,.box J 0),(4,true,.box B.length 0),(7,true,.box (B.length+1) 0),(8,true,.box (B.length+2) 0),(19,true,.list (F.map KF) .none),(20,true,Am (F.length:Int)),(21,true,Am t)]∧st=⟨(B.set G ([.list (u.map (KO AO)) w]))++([a0.cs,H.cs,[Am l,Am 0,.val (.string o)]]++Xk23),Rk23,L⟩∧Owns Rw Rk23 [(1,u.length,w)] ab∧HM rec n (ET rec n a0 a1 F ml14) a1 t H l o u=some r) ?_ ?_
 ·intro K24 aj
  exact go (tg (a:=([1,3,4,6,7,8,19,20,21,28],[1,3,4,6,7,8,19,20,21,28,29],([1,3,4,7,8,19,20,21],()),[1,3,4,6,7,8,19,20,21,38],([1,3,4,7,8,19,20,21],()),[1,3,4,7,8,19,20,21],()))) h hs hN K O E D trivial (q1 aj)
 ·clear h;rintro e st ⟨l,o,u,w,Xk23,Rk23,rfl,rfl,D,h⟩
  rw [HM] at h
  have hU:=D.unders
  simp only [List.mem_cons,List.not_mem_nil,or_false,forall_eq_or_imp,forall_eq] at hU
  refine PZ hN K O N9 (A1 (Of E D.len) ow) D ow ow ?_
  obtain ⟨am,h⟩:=Av h
  have D:=D.clone 3 a1.length
  obtain ⟨Q,h⟩:=Av h
  obtain ⟨ay,av,D,d⟩:=D.append (P:=Tryz.prog) YB (by rw [R7];rfl) (by decide) 1 Q.1 Q.2
  replace d:=fun (ys:List AV) B L o2=>d (a1.map AO) ys B L o2 E0
  replace d:=fun (y:AV) B L o2=>d [y] B L o2 E0 ev
  try simp only [List.mem_singleton,List.mem_cons,List.not_mem_nil,or_false,forall_eq_or_imp,forall_eq,List.map_append,List.map_cons,List.map_nil,Ge,Gi,F3,ES,EY,F7,Dn,D5,F2,CN,CM,Ej,D7,Ef,F4,Ee,FZ] at d
  have D:=D.swap (List.Perm.swap _ _ _)
  obtain ⟨ak,ai,h⟩:=bind_some h
  apply Zl OJ [3,6,7] [1,3,4,19,20,21] kr (fun s=>∃ (X:As) (rows:Ax) (Z:List AV),s=⟨(B.set G Z)++([a0.cs,H.cs,[Am l,Am 0,.val (.string o)]]++X),rows,L⟩) 4 (B.length+3)
  ·simp +decide only [go_sem,Nat.reduceAdd]
  ·rintro s ⟨X,rows,Z,rfl⟩
   refine ⟨1,?_⟩
   rw [Aq];simp +decide only [go_sem,Nat.reduceAdd,Dw,An g,An c,BC c b,x,p,j,d]
   (repeat' apply Ae)<;>first | rfl | exact cl
  ·refine Good.mk [3] kr ⟨[],_,_,by first | rfl | simp only [List.append_nil,List.nil_append]⟩ ?_ ?_
   ·intro h;exact absurd h (by decide)
   ·intro i hi;simp only [List.mem_cons,List.not_mem_nil,or_false] at hi
    subst hi
    ·apply Cc rfl rfl ev
     ·simp +decide only [go_sem,Nat.reduceAdd,DW,An g,An c,BC c b,x,p,j,d]
      have hs:=Ae d hs
      (repeat' with_reducible apply Ae)<;>first | exact ND (RN w0 _ _ _ a1 am) (hv hs) | rfl | exact cl
     ·simp +decide only [go_sem,Nat.reduceAdd,An g,An c,BC c b,x,p,j,d]
      refine Good.mk [6] kr ⟨[],_,_,by first | rfl | simp only [List.append_nil,List.nil_append]⟩ ?_ ?_
      ·intro h;exact absurd h (by decide)
      ·intro i hi;simp only [List.mem_cons,List.not_mem_nil,or_false] at hi
       subst hi
       ·apply Cc rfl rfl ev
        ·simp +decide only [go_sem,Nat.reduceAdd,DW,An g,An c,BC c b,x,p,j,d]
         (repeat' apply Ae)<;>first | rfl | exact cl
        ·simp +decide only [go_sem,Nat.reduceAdd,An g,An c,BC c b,x,p,j,d]
         refine Good.mk [7] kr ⟨[],_,_,by first | rfl | simp only [List.append_nil,List.nil_append]⟩ ?_ ?_
         ·intro h;exact absurd h (by decide)
         ·intro i hi;simp only [List.mem_cons,List.not_mem_nil,or_false] at hi
          subst hi
          ·apply ZaV rfl rfl ev rfl
           ·simp +decide only [go_sem,Nat.reduceAdd,An g,An c,BC c b,x,p,j,d]
           ·simp +decide only [go_sem,Nat.reduceAdd,An g,An c,BC c b,x,p,j,d]
           ·simp +decide only [go_sem,Nat.reduceAdd,An g,An c,BC c b,x,p,j,d]
            have hs:=Ae d hs
            exact (ih _ _ _ H (a1++([Part.mk l 0 o])) G u w (ef hs) D.enter J (ef hs) _ ai).pub (hv hs)
           ·rintro _ _ ⟨rfl,Rg39,U,rfl,N⟩
            have D:=D.call N
            simp +decide only [go_sem,Nat.reduceAdd,An g,An c,BC c b,x,p,j,d]
            refine Good.mk [] kr ⟨[],_,_,by first | rfl | simp only [List.append_nil,List.nil_append]⟩ ?_ ?_
            ·intro _;refine ⟨_,_,SX [1,3,4,19,20,21] (by first | (simp +decide only [go_sem,Nat.reduceAdd,An g,An c,BC c b,x,p,j,d];done) | (simp +decide only [go_sem,Nat.reduceAdd,An g,An c,BC c b,x,p,j,d];rfl)),?_⟩
             simp +decide only [go_sem,Nat.reduceAdd,An g,An c,BC c b,x,p,j,d]
             (repeat' apply Ae)<;>first | refine Y _ _ ?_ | exact cl
             clear Y
             obtain ⟨a5,h⟩:=Av h
             have hs:=Ae d hs
             refine rl [1,3,4,19,20,21] hs (fun e s=>Vl14 ml14 e s (Nat.lt_succ_self _)) ?_
             exact ⟨(t+1),ak,U,([H.cs,[Am l,Am 0,.val (.string o)]]),Rg39,ef hs,ef hs,Owns.of_eq ((D).sub (List.sublist_append_left [(1,ak.length,U)] [(3,a1.length+1,ay)])) E0,h⟩
            ·intro i hi;cases hi
theorem Qb (w0:World):∀ n:Nat,NK w0 (Lh n)
 | 0=>fun _ _ _ _ _ _ _ _ _ _ _ _ _ h=>(nomatch h)
 | n+1=>TY w0 (Lh n) (Qb w0 n) n
theorem Leads.small {t x:Ty} {l:List Part} (h:Leads t l x):t.small→x.small:=by
 induction h with
 | nil=>exact id
 | cons h _ ih=>exact fun a=>ih (XG a h)
theorem QR (n:Nat) (t:Ty) (w:ByteArray) (hn:t.size+1450000≤n) (ht:t.small) (hk:t.kind=9∨t.kind=10):JK n t w=some ((IP t w).getD NJ,(IP t w).isSome):=by
 have c:JK n t w=(Ku n t (fun x=>some (G5 x.2.1 w))).bind fun b=>some (b.1,b.2):=rfl
 have a:IP t w=B6 t.fields (OB (fun x:TF=>G5 x.2.1 w) t.fields 0):=ZeS _ _
 rw [c]
 rcases ZhD n t (fun x=>G5 x.2.1 w) hn ht with ⟨k1,k2,_⟩ | ⟨_,⟨q1,q2⟩ | ⟨j,hj,q1,q2⟩⟩
 ·omega
 ·rw [q2,a,q1];rfl
 ·rw [q2,a,q1,AK hj];rfl
theorem Z7 (rec:Ty→Vl→Option Bool) (d n:Nat) (t:Ty) (v:Vl) (hn:t.size+1450000≤n) (hn2:v.size<n) (hs:v.size≤1000000000) (ht:t.small) (tk:t.kind=9) (vk:v.kind=9)
  (hr:∀ p∈t.fields,∀ q∈v.fields,rec p.2.2.2.1 q.2=some (ON d p.2.2.2.1 q.2)):∀ (k m i:Nat),i+k=v.fields.length→k<m→I2 rec n t v m i=some ((v.fields.drop i).all (ZkJ d t) && !(t.fields.any (ZeG v)))
 | k,0,i,_,h=>absurd h (Nat.not_lt_zero _)
 | 0,m+1,i,hi,_=>by
  have b:=t.lens.2
  have f:=ht.1
  have e:=Q1 n t.fields (fun x=>Lr n x v) (ZeG v) (fun x _=>by
   obtain ⟨u,j⟩:=ZcJ n v x.2.1 vk hs hn2
   rw [Lr,j];rfl) (by omega) (by omega)
  rw [I2,AH,Ac,Aj (by decide),PO,e,List.drop_eq_nil_of_le (by omega),List.all_nil,Bool.true_and];rfl
 | k+1,m+1,i,hi,hm=>by
  have a:i<v.fields.length:=by omega
  have g:=Ni v
  have ih:=Z7 rec d n t v hn hn2 hs ht tk vk hr k m (i+1) (by omega) (by omega)
  rw [I2,AH,Ah a,Ai rfl,AK a,Af,QR n t _ hn ht (.inl tk),Af,List.drop_eq_getElem_cons a,List.all_cons,ZkJ]
  cases c:IP t v.fields[i].1 with
  | none=>rw [Ai (by rfl)];rfl
  | some p =>
   rw [Aj (by simp),Option.getD_some,hr _ (LU c).1 _ (List.getElem_mem a),Af]
   simp only
   cases ON d p.2.2.2.1 v.fields[i].2 with
   | false=>rfl
   | true =>
    rw [Aj (by decide),Ai (AG (by omega)),Bool.true_and]
    exact ih
theorem Uf:∀ (n d:Nat) (t:Ty) (v:Vl),t.size+1500000≤n→v.size+1500000≤n→v.size≤1000000000→t.small→t.Good→v.Good→t.depth≤d→JR n t v=some (ON d t v)
 | 0,d,t,v,h,_,_,_,_,_,_=>by omega
 | n+1,0,t,v,_,_,_,_,_,_,hd=>by have:=t.depth_eq;omega
 | n+1,d+1,t,v,h1,h2,h3,ht,gt,gv,hd=>by
  obtain ⟨G,C,J⟩:=Sz (VS gt)
  obtain ⟨_,z⟩:=Wx (SQ gv)
  have K:=t.lens
  have F:=ht.1
  have E:=PD v
  have H:=(t.ok_eq.1 ht.2.2).1
  rw [JR,Ul,ON]
  by_cases hk:v.kind=t.kind
  rotate_left
  ·rw [Ag hk,Ai (fun q=>hk q.symm)];rfl
  rw [Ah hk,Aj (show ¬ (t.kind≠v.kind) from fun q=>q hk.symm)]
  simp only [Bool.not_true,Bool.false_eq_true,if_false]
  have i:t.kind≠3→v.scale=t.scale:=fun q=>by rw [Ty.scale0 C q,Vl.scale0 z (by rw [hk];exact q)]
  rcases IQ G with tk | tk | tk | tk | tk | tk | tk | tk | tk | tk
  ·simp [tk,Db,Rx]
  ·have q:=i (by omega);simp [tk,Db,q]
  ·simp [tk,Db,Bool.and_comm]
  ·have r:=X2 n t.words v.text (by omega) (by omega)
   have o:(t.words.any fun x=>G5 v.text x)=t.words.any fun x=>G5 x v.text:=by congr 1;funext x;exact ZcR _ _
   rw [Ag (show ¬ t.kind=2 by omega),Ag (show ¬ t.kind=6 by omega),Ag (show ¬ t.kind=7 by omega),Ag (show ¬ t.kind=3 by omega)]
   simp only [Bool.false_eq_true,if_false]
   rw [Db,Aj (by decide),Ah tk,Ai rfl,Aj (show ¬ (t.kind=2∨t.kind=6∨t.kind=7) by omega),Aj (show ¬ t.kind=3 by omega),Ai tk]
   by_cases H:0<t.words.length
   ·rw [Ai (Ah (by omega)),r,o,Ag (show ¬ (t.words.length:Int)=0 by omega)]
    simp
   ·rw [Aj (by rw [decide_eq_true_eq];omega),Ah (show (t.words.length:Int)=0 by omega)]
    have l:t.words=[]:=List.length_eq_zero_iff.1 (by omega)
    rw [l]
    rfl
  ·simp [tk,Db,ZI]
  ·have q:=i (by omega);simp [tk,Db,q]
  ·have q:=i (by omega);simp [tk,Db,q]
  ·obtain ⟨e,m⟩:=gt.own.elem tk
   have f:e∈t.elem:=by rw [m];simp
   have s:B6 t.elem 0=some e:=by rw [m];rfl
   have r:=XI n v.list (fun x=>Lp (JR n) x t) (fun x => !ON d e x) (fun x j=>by
    have a:=t.elem_size _ f
    have b:=v.list_size x j
    have c:=Ty.depth_elem f
    rw [Lp,s,Af,Uf n d e x (by omega) (by omega) (by omega) (Ty.small_elem ht f) (PL gt f) (QM gv (by rw [Cb,Ai (.inl (by omega))];exact j)) (by omega)];rfl) (by omega) (by omega)
   have o:(v.list.all fun x=>t.elem.all fun e=>ON d e x)=v.list.all fun x=>ON d e x:=by
    congr 1;funext x;rw [m];simp
   rw [o]
   simp only [tk,Db]
   simp only [show decide ((8:Int)=2)=false from rfl,show decide ((8:Int)=6)=false from rfl,show decide ((8:Int)=7)=false from rfl,show decide ((8:Int)=3)=false from rfl,show decide ((8:Int)=4)=false from rfl,show decide ((8:Int)=5)=false from rfl,decide_true,Bool.false_eq_true,if_false,if_true]
   rw [r]
   unfold ZI
   cases hr:decide (t.min≤(v.list.length:Int))&&decide ((v.list.length:Int)≤t.max) with
   | false=>simp
   | true =>
    simp only [if_true,Af,Bool.and_true]
    rw [List.not_any_eq_all_not]
    simp
  ·have y:=Z7 (JR n) d n t v (by omega) (by omega) h3 ht tk (by omega) (fun p g q u=>by
     have a:=t.field_size p g
     have b:=v.field_size q u
     have c:=Ty.depth_field g
     exact Uf n d _ _ (by omega) (by omega) (by omega) (Ty.small_field ht g) (Hk gt g) (QM gv (by rw [Cb,Aa,Ab];exact List.mem_map_of_mem u)) (by omega)) v.fields.length n 0 (by omega) (by omega)
   rw [List.drop_zero] at y
   have k:I2 (JR n) n t v n 0=_:=y
   simp only [tk,Db]
   simp only [show decide ((9:Int)=2)=false from rfl,show decide ((9:Int)=6)=false from rfl,show decide ((9:Int)=7)=false from rfl,show decide ((9:Int)=3)=false from rfl,show decide ((9:Int)=4)=false from rfl,show decide ((9:Int)=5)=false from rfl,show decide ((9:Int)=8)=false from rfl,show decide ((9:Int)=10)=false from rfl,decide_true,Bool.false_eq_true,if_false,if_true]
   exact k
  ·have w:v.kind=10:=by omega
   obtain ⟨x,j⟩:=Zcq gv w
   have e:Db (JR n) n t v false=some (match IP t v.text with
    | some p=>v.list.all fun x=>ON d p.2.2.2.1 x
    | none=>false):=by
    simp only [Db,tk,QR n t _ (show t.size+1450000≤n by omega) ht (.inr tk),Af]
    simp only [show decide ((10:Int)=4)=false from rfl,show decide ((10:Int)=5)=false from rfl,show decide ((10:Int)=8)=false from rfl,decide_true,Bool.false_eq_true,if_false,if_true]
    cases c:IP t v.text with
    | none=>rfl
    | some p =>
     have g:=(LU c).1
     have a:=t.field_size _ g
     have b:=v.list_size x (by rw [j];simp)
     have c:=Ty.depth_field g
     have D:=Uf n d p.2.2.2.1 x (by omega) (by omega) (by omega) (Ty.small_field ht g) (Hk gt g) (QM gv (by rw [Cb,Ai (.inr w),j];simp)) (by omega)
     rw [j,Ai (by rfl),show B6 [x] 0=some x from rfl,Af]
     simp [D]
   simp only [tk]
   exact e
theorem ZgB (n:Nat) (t:Ty) (v:Vl) (h1:t.size+1500000≤n) (h2:v.size+1500000≤n) (h3:v.size<1048576) (ht:t.small) (hv:v.ok) (gt:t.Good):J9 n t v=some (decide (UD v=0)&&ON 12 t v):=by
 rw [J9,WH n v (by omega) h3 hv,Af]
 by_cases h:UD v=0
 ·rw [Ah h,Ai rfl,Uf n 12 t v h1 h2 (by omega) ht gt (YJ h) ht.2.1];rfl
 ·rw [Ag h,Aj (by decide)];rfl
def ZbO (P:Prop) (left:Int) (o:Option (Int × Int)):Prop:=∃ e l,o=some (e,l)∧(e=0→0≤l∧l≤left∧P)
theorem ZbR (r:Ty→Int→Int→Option (Int × Int)) (n D:Nat) (t:Ty) (lv:Int) (hlv:0≤lv∧lv≤9) (hn:t.size+2600000≤n) (ht:t.small) (hk:t.kind=9∨t.kind=10) (hg:∀ x∈t.fields,UY t.kind x)
  (hr:∀ p∈t.fields,∀ left,0≤left→left≤4096→ZbO (p.2.2.2.1.Fine D) left (r p.2.2.2.1 (lv+1) left)):∀ (k m i:Nat) (left:Int),i+k=t.fields.length→k<m→0≤left→left≤4096 →
  ZbO (∀ p∈t.fields.drop i,p.2.2.2.1.Fine D∧∀ v∈p.2.2.2.2,UD v=0∧ON 12 p.2.2.2.1 v=true) left (C0 r n t lv (t.fields.map fun p=>p.2.2.2.1) m i left)
 | k,0,i,_,_,h,_,_=>absurd h (Nat.not_lt_zero _)
 | 0,m+1,i,left,hi,_,h1,h2=>by
  rw [C0,AH,Ag (show ¬ i<(t.fields.map fun p=>p.2.2.2.1).length by rw [List.length_map];omega)]
  refine ⟨0,left,rfl,fun _=>⟨h1,Int.le_refl _,?_⟩⟩
  rw [List.drop_eq_nil_of_le (by omega)];simp
 | k+1,m+1,i,left,hi,hm,h1,h2=>by
  have d:i<t.fields.length:=by omega
  have c:=List.getElem_mem d
  have G:=ht.1
  have Z:=t.lens
  have f:i<(t.fields.map fun p=>p.2.2.2.1).length:=by rw [List.length_map];exact d
  rw [C0,AH,Ah f]
  simp only [if_true,AK f,AK d,Af,List.getElem_map]
  rw [Ai (by unfold Bj;omega)]
  obtain ⟨e,l,J,H⟩:=hr _ c left h1 h2
  rw [J,Af]
  by_cases h0:e=0
  rotate_left
  ·rw [Ag h0]
   exact ⟨e,l,rfl,fun q=>absurd q h0⟩
  obtain ⟨y,U,o⟩:=H h0
  rw [Ah h0]
  simp only [Bool.not_true,Bool.false_eq_true,if_false]
  rw [Ai (AG (by omega))]
  obtain ⟨C,s,q1,q3⟩:=ZbR r n D t lv hlv hn ht hk hg hr k m (i+1) l (by omega) (by omega) y (by omega)
  have fin:(∀ v∈t.fields[i].2.2.2.2,UD v=0∧ON 12 t.fields[i].2.2.2.1 v=true)→ZbO (∀ p∈t.fields.drop i,p.2.2.2.1.Fine D∧∀ v∈p.2.2.2.2,UD v=0∧ON 12 p.2.2.2.1 v=true) left (C0 r n t lv (t.fields.map fun p=>p.2.2.2.1) m ((i:Int)+1) l):=fun hd=>by
   refine ⟨C,s,q1,fun q=>?_⟩
   obtain ⟨K,V,u⟩:=q3 q
   refine ⟨K,by omega,fun x hx=>?_⟩
   rw [List.drop_eq_getElem_cons d] at hx
   rcases List.mem_cons.1 hx with rfl | hx
   ·exact ⟨o,hd⟩
   ·exact u x hx
  obtain ⟨g1,g2,g3,g4⟩:=hg _ c
  by_cases n3:t.fields[i].2.2.1=3
  ·have F:t.kind=9:=by
    rcases hk with hk | hk
    ·exact hk
    ·have:=g2 hk;omega
   obtain ⟨v,hv⟩:=List.length_eq_one_iff.1 (g3 n3)
   have j:B6 t.fields[i].2.2.2.2 0=some v:=by rw [hv];rfl
   obtain ⟨_,N,Q,z⟩:=(t.ok_eq.1 ht.2.2).2.2.2 _ c
   obtain ⟨Y,O,E⟩:=z v (by rw [hv];simp)
   have a:=t.field_size _ c
   have g:=ZgB n t.fields[i].2.2.2.1 v (by omega) (by omega) (by omega) (Ty.small_field ht c) E o.good
   rw [Ah F,Ah n3]
   simp only [if_true,j,Af,g]
   cases b:decide (UD v=0)&&ON 12 t.fields[i].2.2.2.1 v with
   | false=>exact ⟨18,l,rfl,fun q=>absurd q (by decide)⟩
   | true =>
    rw [Bool.and_eq_true,decide_eq_true_eq] at b
    exact fin fun w hw=>by rw [hv,List.mem_singleton] at hw;subst hw;exact b
  ·have hd:t.fields[i].2.2.2.2=[]:=List.length_eq_zero_iff.1 (g4 n3)
   rw [Ag n3]
   simp only [Bool.false_eq_true,if_false,ite_self]
   exact fin fun w hw=>by rw [hd] at hw;simp at hw
theorem N6:∀ (n D:Nat) (t:Ty) (lv left:Int),t.size+2600001≤n→t.small→lv=9-(D:Int)→0≤lv→0≤left→left≤4096→ZbO (t.Fine D) left (JL n t lv left)
 | 0,D,t,_,_,h,_,_,_,_,_=>by omega
 | n+1,D,t,lv,left,h,ht,hD,l1,h1,h2=>by
  have H:=t.lens
  have w:=ht.1
  have f:=Ty.fit_of ht (show t.size+2600000≤n by omega)
  rw [JL,PH]
  by_cases c1:left=0
  ·rw [Ah c1]
   exact ⟨9,left,rfl,fun q=>absurd q (by decide)⟩
  rw [Ag c1]
  simp only [Bool.false_eq_true,if_false]
  have r:Bj (left-1):=by unfold Bj;omega
  by_cases c2:8<lv
  ·rw [Ah c2]
   exact ⟨23,left,rfl,fun q=>absurd q (by decide)⟩
  obtain ⟨d,rfl⟩:∃ d,D=d+1:=⟨D-1,by omega⟩
  rw [Ag c2]
  simp only [Bool.false_eq_true,if_false,Ai r]
  rw [Zhp n t f,Af]
  by_cases c3:Ry t=0
  rotate_left
  ·rw [Ag c3]
   exact ⟨Ry t,left-1,rfl,fun q=>absurd q c3⟩
  obtain ⟨G,u,x,o,F,v⟩:=U7 c3
  rw [Ah c3]
  simp only [Bool.not_true,Bool.false_eq_true,if_false]
  rw [Zc6 n t (by omega) (by omega),Af]
  by_cases k8:t.kind=8
  ·obtain ⟨z,_,_⟩:=x k8
   obtain ⟨e,he⟩:∃ e,t.elem=[e]:=List.length_eq_one_iff.1 z
   have l:e∈t.elem:=by rw [he];simp
   have C:=t.elem_size e l
   obtain ⟨n',rfl⟩:∃ k,n=k+2:=⟨n-2,by omega⟩
   obtain ⟨i,g,q1,q3⟩:=N6 (n'+2) d e (lv+1) (left-1) (by omega) (Ty.small_elem ht l) (by omega) (by omega) (by omega) (by omega)
   have hf0:t.fields=[]:=List.length_eq_zero_iff.1 (o (by omega) (by omega))
   have j:Bj (lv+1):=by unfold Bj;omega
   rw [X3,Ai k8,he,C0,Ai (by simp),show B6 [e] 0=some e from rfl,Af,Ai j,q1,Af]
   by_cases c4:i=0
   ·obtain ⟨c,E,w4⟩:=q3 c4
    subst c4
    rw [Ag (show ¬ t.kind=9 by omega)]
    simp only [decide_true,Bool.not_true,Bool.false_eq_true,if_false]
    rw [Ai (by decide),C0,Aj (by simp)]
    refine ⟨0,g,rfl,fun _=>⟨c,by omega,?_⟩⟩
    exact .mk d t c3 (fun y hy=>by rw [he,List.mem_singleton] at hy;subst hy;exact w4) (fun y hy=>by rw [hf0] at hy;simp at hy) (fun y hy=>by rw [hf0] at hy;simp at hy)
   ·rw [Ag c4]
    exact ⟨i,g,rfl,fun q=>absurd q c4⟩
  ·rw [X3,Aj k8]
   have b:t.elem=[]:=List.length_eq_zero_iff.1 (u k8)
   by_cases k9:t.kind=9∨t.kind=10
   ·rw [Ai k9]
    obtain ⟨i,g,q1,q3⟩:=ZbR (JL n) n d t lv ⟨l1,by omega⟩ (by omega) ht k9 v (fun p m a s c=>by
     have:=t.field_size p m
     exact N6 n d p.2.2.2.1 (lv+1) a (by omega) (Ty.small_field ht m) (by omega) (by omega) s c) t.fields.length n 0 (left-1) (by omega) (by omega) (by omega) (by omega)
    refine ⟨i,g,q1,fun q=>?_⟩
    obtain ⟨c,E,w4⟩:=q3 q
    rw [List.drop_zero] at w4
    exact ⟨c,by omega,.mk d t c3 (fun y hy=>by rw [b] at hy;simp at hy) (fun y hy=>(w4 y hy).1) (fun y hy=>(w4 y hy).2)⟩
   ·rw [Aj k9]
    have hf0:t.fields=[]:=List.length_eq_zero_iff.1 (o (by omega) (by omega))
    obtain ⟨n',rfl⟩:∃ k,n=k+1:=⟨n-1,by omega⟩
    rw [C0,Aj (by simp)]
    exact ⟨0,left-1,rfl,fun _=>⟨by omega,by omega,.mk d t c3 (fun y hy=>by rw [b] at hy;simp at hy) (fun y hy=>by rw [hf0] at hy;simp at hy) (fun y hy=>by rw [hf0] at hy;simp at hy)⟩⟩
theorem Zd3 {c:Int} (h:1≤c):1≤(if 4097<c then 4097 else c)∧(if 4097<c then 4097 else c)≤4097:=by split<;>omega
theorem Ui:∀ (n:Nat) (t:Ty),t.size+10≤n→t.small→t.Good→∃ a,DO n t=some a∧1≤a∧a≤4097
 | 0,t,h,_,_=>by omega
 | n+1,t,h,ht,gt=>by
  have hl:=t.lens
  have C:=ht.1
  obtain ⟨Y,G,D,Q,y,z⟩:=U7 (VS gt)
  rw [DO,JY]
  by_cases k8:t.kind=8
  ·obtain ⟨N,V,U⟩:=D k8
   have r:B6 t.elem 0=some t.elem[0]:=AK (k:=0) (by omega)
   rw [Ah k8,Ai rfl]
   by_cases l:0<t.min
   ·have d:=List.getElem_mem (show 0<t.elem.length by omega)
    have:=t.elem_size _ d
    obtain ⟨a,g,s,v⟩:=Ui n t.elem[0] (by omega) (Ty.small_elem ht d) (PL gt d)
    have q1:0≤t.min*a:=Int.mul_nonneg (by omega) (by omega)
    have q2:0≤(256-t.min)*a:=Int.mul_nonneg (by omega) (by omega)
    rw [Int.sub_mul] at q2
    rw [Ah l,Ai rfl,r,Af,g,Af,Ai (by unfold Bj;omega),Ai (by unfold Bj;omega)]
    exact ⟨_,rfl,Zd3 (by omega)⟩
   ·rw [Ag l,Aj (by decide)]
    exact ⟨_,rfl,Zd3 (by omega)⟩
  rw [Ag k8,Aj (by decide)]
  by_cases k10:t.kind=10
  ·have u:=y k10
   have e:=List.getElem_mem u
   have:=t.field_size _ e
   obtain ⟨a,g,s,v⟩:=Ui n t.fields[0].2.2.2.1 (by omega) (Ty.small_field ht e) (Hk gt e)
   rw [Ah k10,Ai rfl,show B6 t.fields 0=some t.fields[0] from AK (k:=0) u,Af,g,Af,Ai (by unfold Bj;omega)]
   exact ⟨_,rfl,Zd3 (by omega)⟩
  rw [Ag k10,Aj (by decide)]
  by_cases k9:t.kind=9
  ·rw [Ah k9,Ai rfl]
   have j:∀ (k m i:Nat) (a:Int),i+k=t.fields.length→k<m→1≤a→a≤2000000*(i+1)→∃ a',BQ (DO n) n t m a i=some a'∧1≤a'∧a'≤4097:=by
    intro k
    induction k with
    | zero =>
     intro m i a x l p _
     obtain ⟨m,rfl⟩:∃ q,m=q+1:=⟨m-1,by omega⟩
     rw [BQ,AH,Ag (show ¬ i<t.fields.length by omega)]
     exact ⟨_,rfl,Zd3 p⟩
    | succ k ih =>
     intro m i a x l p K
     obtain ⟨m,rfl⟩:∃ q,m=q+1:=⟨m-1,by omega⟩
     have f:i<t.fields.length:=by omega
     have b:=List.getElem_mem f
     have a1:=t.field_size _ b
     have go:∀ c:Int,1≤c→c≤2000000*((i:Int)+1+1)→∃ a',Et (DO n) n (BQ (DO n) n t m) i c=some a'∧1≤a'∧a'≤4097:=fun c q1 q2=>by
      rw [Et,Ai (AG (by omega))]
      exact ih m (i+1) c (by omega) (by omega) q1 (by push_cast;exact q2)
     rw [BQ,AH,Ah f,Ai rfl,AK f,Af]
     by_cases n1:t.fields[i].2.2.1=1
     ·obtain ⟨c,g,s,v⟩:=Ui n t.fields[i].2.2.2.1 (by omega) (Ty.small_field ht b) (Hk gt b)
      rw [Ah n1,Ai rfl,g,Af,Ai (by unfold Bj;omega)]
      exact go _ (by omega) (by omega)
     rw [Ag n1,Aj (by decide)]
     by_cases n3:t.fields[i].2.2.1=3
     ·have hd:=(z _ b).2.2.1 n3
      have o:B6 t.fields[i].2.2.2.2 0=some t.fields[i].2.2.2.2[0]:=AK (k:=0) (by omega)
      obtain ⟨_,E,J,w⟩:=(t.ok_eq.1 ht.2.2).2.2.2 _ b
      obtain ⟨Z,F,H⟩:=w _ (List.getElem_mem (show 0<t.fields[i].2.2.2.2.length by omega))
      have O:=Qn _ t.fields[i].2.2.2.2[0] 1 (Nat.le_refl _)
      rw [Ah n3,Ai rfl,o,Af,Zew _ (by omega),Af,Ai (by unfold Bj;omega)]
      exact go _ (by omega) (by omega)
     ·rw [Ag n3,Aj (by decide)]
      exact go a p (by omega)
   exact j t.fields.length n 0 1 (by omega) (by omega) (by decide) (by decide)
  ·rw [Ag k9,Aj (by decide)]
   exact ⟨_,rfl,Zd3 (by omega)⟩
theorem XX:∀ (n:Nat) (t:Ty),t.size+11≤n→t.small→t.Good→∃ a,C9 n t=some a
 | 0,t,h,_,_=>by omega
 | n+1,t,h,ht,gt=>by
  have r:=t.lens
  have o:=ht.1
  obtain ⟨a,l,_,_⟩:=Ui n t (by omega) ht gt
  have e:∀ (k m i:Nat) (a:Int),i+k=t.fields.length→k<m→∃ a',CY (C9 n) n t m a i=some a':=by
   intro k
   induction k with
   | zero =>
    intro m i a f j
    obtain ⟨m,rfl⟩:∃ q,m=q+1:=⟨m-1,by omega⟩
    rw [CY,AH,Ag (show ¬ i<t.fields.length by omega)]
    exact ⟨_,rfl⟩
   | succ k ih =>
    intro m i a f j
    obtain ⟨m,rfl⟩:∃ q,m=q+1:=⟨m-1,by omega⟩
    have d:i<t.fields.length:=by omega
    have b:=List.getElem_mem d
    have a1:=t.field_size _ b
    obtain ⟨c,g⟩:=XX n t.fields[i].2.2.2.1 (by omega) (Ty.small_field ht b) (Hk gt b)
    rw [CY,AH,Ah d,Ai rfl,AK d,Af,g,Af,Ai (AG (by omega))]
    exact ih m (i+1) _ (by omega) (by omega)
  have p:∀ (k m i:Nat) (a:Int),i+k=t.elem.length→k<m→∃ a',Dp (C9 n) n t m a i=some a':=by
   intro k
   induction k with
   | zero =>
    intro m i a f j
    obtain ⟨m,rfl⟩:∃ q,m=q+1:=⟨m-1,by omega⟩
    rw [Dp,AH,Ag (show ¬ i<t.elem.length by omega)]
    exact e t.fields.length n 0 a (by omega) (by omega)
   | succ k ih =>
    intro m i a f j
    obtain ⟨m,rfl⟩:∃ q,m=q+1:=⟨m-1,by omega⟩
    have d:i<t.elem.length:=by omega
    have b:=List.getElem_mem d
    have a1:=t.elem_size _ b
    obtain ⟨c,g⟩:=XX n t.elem[i] (by omega) (Ty.small_elem ht b) (PL gt b)
    rw [Dp,AH,Ah d,Ai rfl,AK d,Af,g,Af,Ai (AG (by omega))]
    exact ih m (i+1) _ (by omega) (by omega)
  rw [C9,HO,l,Af]
  exact p t.elem.length n 0 a (by omega) (by omega)
theorem Zs (n:Nat) (t:Ty) (hn:3000000≤n) (ht:t.small):∃ c,JO n t=some c∧(c=0→t.Fine 8):=by
 have f:=ht.1
 obtain ⟨e,l,b,d⟩:=N6 n 8 t 1 4096 (by omega) ht (by decide) (by decide) (by decide) (by decide)
 rw [JO,b,Af]
 by_cases h:e=0
 ·obtain ⟨_,_,g⟩:=d h
  obtain ⟨a,q1⟩:=XX n t (by omega) ht g.good
  rw [Ah h,Aj (by decide),q1,Af]
  by_cases c:4096<a
  ·rw [Ah c]
   exact ⟨9,rfl,fun q=>absurd q (by decide)⟩
  ·rw [Ag c]
   exact ⟨0,rfl,fun _=>g⟩
 ·rw [Ag h]
  exact ⟨e,rfl,fun q=>absurd q h⟩
theorem Ao {B:List (List AV)} {l:Nat} {c:List AV} (h:B[l]? = some c):B.set l c=B:=by
 apply List.ext_getElem?
 intro i
 by_cases q:l=i
 ·subst q
  rw [List.getElem?_set_self (Ak.1 h).1,h]
 ·rw [List.getElem?_set_ne q]
@[go_sem] theorem ZkV:FY Tryz.prog 100=none∧KB Tryz.prog 330=false∧DD Tryz.prog 103 0=some (0,1,false)∧DD Tryz.prog 103 1=some (1,1,false)∧DD Tryz.prog 124 0=some (0,1,false)∧DD Tryz.prog 124 2=some (2,7,true)∧DD Tryz.prog 132 0=some (0,1,true)∧DD Tryz.prog 132 1=some (1,7,true)∧OM Tryz.prog 330=some .u64∧Dy Tryz.prog 100=some [(0,1),(1,1)]∧Fh Tryz.prog 330=false∧Ip Tryz.prog 101=some (1,false):=by (repeat' apply Ae)<;>kernel_rfl
@[go_sem] theorem ZlO:Ip Tryz.prog 330=some (1,false)∧BX Tryz.prog 100=some [.val (.string ⟨#[]⟩),Am 0]∧BX Tryz.prog 330=some [.val (.int .u64 0)]∧BX Tryz.prog 5=some [.val (.int .u8 0)]:=by (repeat' apply Ae)<;>kernel_rfl
end Go.Proofs.YtmcnjijeocmkgaaGreatDoor
namespace Go.Ev
open Go Go.RowKit
theorem Z8 (B:As) (i j:Nat) (c d:List AV):((B.set i c).set j d).length=B.length:=by simp only [List.length_set]
@[go_sem] theorem ZjK (B X:As) (R:Ax) (L:Aw) (i j k o:Nat) (c d:List AV):Ed ⟨(B.set i c).set j d++X,R,L⟩ (.box (B.length+k) o)=decide (k<X.length):=by have h:=Zc5 ((B.set i c).set j d) X R L k o;rwa [Z8] at h
@[go_sem] theorem Zjd (B X:As) (R:Ax) (L:Aw) (i j o:Nat) (c d:List AV):Ed ⟨(B.set i c).set j d++X,R,L⟩ (.box B.length o)=decide (0<X.length):=by have h:=Za9 ((B.set i c).set j d) X R L o;rwa [Z8] at h
@[go_sem] theorem ZeE (B X:As) (i j k:Nat) (c d:List AV):((B.set i c).set j d++X).getD (B.length+k) []=X.getD k []:=by have h:=W7 (B.set i c) X j k d;rwa [List.length_set] at h
@[go_sem] theorem Zc4 (B X:As) (i j:Nat) (c d:List AV):((B.set i c).set j d++X).getD B.length []=X.getD 0 []:=by have h:=UT (B.set i c) X j d;rwa [List.length_set] at h
@[go_sem] theorem Zio (B X:As) (R:Ax) (L:Aw) (i j k o:Nat) (c d:List AV):BB ⟨(B.set i c).set j d++X,R,L⟩ (.box (B.length+k) o)=X.getD k []:=ZeE B X i j k c d
@[go_sem] theorem ZgF (B X:As) (R:Ax) (L:Aw) (i j o:Nat) (c d:List AV):BB ⟨(B.set i c).set j d++X,R,L⟩ (.box B.length o)=X.getD 0 []:=Zc4 B X i j c d
@[go_sem] theorem Zll (B X:As) (i j k:Nat) (c d x:List AV):((B.set i c).set j d++X).set (B.length+k) x=(B.set i c).set j d++X.set k x:=by have h:=ZdE (B.set i c) X j k d x;rwa [List.length_set] at h
@[go_sem] theorem Zkk (B X:As) (i j:Nat) (c d x:List AV):((B.set i c).set j d++X).set B.length x=(B.set i c).set j d++X.set 0 x:=by have h:=ZcQ (B.set i c) X j d x;rwa [List.length_set] at h
@[go_sem] theorem Zlf (B X:As) (i j k:Nat) (c d:List AV):((B.set i c).set j d++X)[B.length+k]? = X[k]? := by have h:=BJ (B.set i c) X j k d;rwa [List.length_set] at h
@[go_sem] theorem ZkM (B X:As) (i j:Nat) (c d:List AV):((B.set i c).set j d++X)[B.length]? = X[0]? := by have h:=Bl (B.set i c) X j d;rwa [List.length_set] at h
theorem IU {P:Program} {w0:World} {st:St} {d:Bool} {fv:AV} {args:List AV} {k:AV→St→Prop} (h:k (.val (.bool false)) st):KV P w0 false d fv args st k := .inl ⟨.val (.bool false),fun q=>(nomatch q),h⟩
end Go.Ev
namespace Go.Proofs.YtmcnjijeocmkgaaGreatDoor
open Go Go.RowKit Go.Ev
def DR (n:Nat) (g:List Part) (b:List Part):Option Bool :=
 if decide ((b.length:Int)≤(g.length:Int)) then
  if 0≤0∧0≤(b.length:Int)∧(b.length:Int)≤(g.length:Int) then
   (E6 n (g.take b.length) b).bind fun h =>
   some (h)
  else none
 else
  some (false)
theorem DX (w0:World) (n:Nat) (B:As) (Rw:Ax) (L:Aw) (a0:List Part) (a1:List Part) (r:Bool) (h:DR n a0 a1=some r) :
  ACalls Tryz.prog w0 90 [.list (a0.map AO) .none,.list (a1.map AO) .none] ⟨B,Rw,L⟩ fun x st=>x = .val (.bool r)∧st=⟨B,Rw,L⟩:=by
 rw [DR] at h
 refine hd [.tmp 4] Tryz.func90 Tryz.ntmps90 fun M0 W0 e d c b g f hs=>?_
 simp only [AB]
 exact go (tg (a:=([0,1],([4],()),[4],()))) h hs e d c b f (q1 (Nb w0 n)) trivial
def Hv (b:Part) (g:Part):Bool :=
 ((decide (b.kind=g.kind)&&(decide (b.index=g.index)&&(G5 b.name g.name)))||((decide (b.kind=3))&&(decide (g.kind=2))))||((decide (b.kind=2))&&(decide (g.kind=3)))
theorem TZ (w0:World) (B:As) (Rw:Ax) (L:Aw) (a0:Part) (a1:Part) (r:Bool) (h:Hv a0 a1=r) :
  ACalls Tryz.prog w0 178 [.agg (Am a0.kind::(Am a0.index::([.val (.string a0.name)]))),.agg (Am a1.kind::(Am a1.index::([.val (.string a1.name)])))] ⟨B,Rw,L⟩ fun x st=>x = .val (.bool r)∧st=⟨B,Rw,L⟩:=by
 rw [Hv] at h
 refine hd [.tmp 4] Tryz.func178 Tryz.ntmps178 fun M0 W0 e d b a f c hs=>?_
 simp only [AB]
 refine rg [2,3] hs ?_
 refine rg [4] hs ?_
 exact rT h hs a c
theorem S7 (w0:World) (B:As) (Rw:Ax) (L:Aw) (a0:Part) (a1:Part) :
  ACalls Tryz.prog w0 178 [.agg (Am a0.kind::(Am a0.index::([.val (.string a0.name)]))),.agg (Am a1.kind::(Am a1.index::([.val (.string a1.name)])))] ⟨B,Rw,L⟩ fun x st=>x = .val (.bool (Hv a0 a1))∧st=⟨B,Rw,L⟩:=TZ w0 B Rw L a0 a1 _ rfl
def Hj (n:Nat)  : Option Bool :=
 some (true)
def E1 (n:Nat) (q:List Part) (a1:List Part) (z:Part→Part→Option Bool):Nat→Int→Option Bool
 | 0,_=>none
 | m+1,b =>
  if decide (b<(q.length:Int)) then
   (B6 q b).bind fun g =>
   (B6 a1 b).bind fun h =>
   (z g h).bind fun y =>
   if !y then
    some (false)
   else
    if Bj (b+1) then
     (E1 n q a1 z m) (b+1)
    else none
  else
   Hj n 
def Ie (n:Nat) (b:List Part) (g:List Part) (h:Part→Part→Option Bool):Option Bool :=
 if !(decide ((b.length:Int)=(g.length:Int))) then
  some (false)
 else
  E1 n b g h n 0
theorem O6 (w0:World) (n:Nat) (B:As) (Rw:Ax) (L:Aw) (a0:List Part) (a1:List Part) (fa2:FuncId) (ca2:List AV) (a2:Part→Part→Option Bool) (ha2:∀ (x0:Part) (x1:Part) r,a2 x0 x1=some r→∀ B' rows,B <+: B'→Rw <+: rows→ACalls Tryz.prog w0 fa2 ([.agg (Am x0.kind::(Am x0.index::([.val (.string x0.name)]))),.agg (Am x1.kind::(Am x1.index::([.val (.string x1.name)])))]++ca2) ⟨B',rows,L⟩ fun v s=>v = .val (.bool r)∧s=⟨B',rows,L⟩) (r:Bool) (h:Ie n a0 a1 a2=some r) :
  ACalls Tryz.prog w0 177 [.list (a0.map AO) .none,.list (a1.map AO) .none,.clo fa2 ca2] ⟨B,Rw,L⟩ fun x st=>x = .val (.bool r)∧st=⟨B,Rw,L⟩:=by
 rw [Ie] at h
 refine hd [.tmp 6] Tryz.func177 Tryz.ntmps177 fun M0 W0 l i g b o f hs=>?_
 simp only [AB]
 have d:=BN (o (.clo fa2 ca2) (by simp))
 refine rg [0,1,2] hs ?_
 apply Ap;intro K2 j
 refine rg [0,1,2,14] hs ?_
 refine Cj h hs ?_ ?_<;>intro hs h
 ·refine rg [6] hs ?_
  exact rt h hs b f
 refine sk [0,1,2] hs j ?_
 clear j
 refine AA (fun e st=>Ck e st B Rw L [] [] [] (Hj n  = some r)) ?_ ?_
 ·intro K8 k
  refine rg [1,2,15,16,17] hs ?_
  apply Au
  refine AC (fun m e st=>∃ (c:Int),Ck e st B Rw L [(1,true,.list (a1.map AO) .none),(2,true,.clo fa2 ca2),(15,true,.list (a0.map AO) .none),(16,true,Am (a0.length:Int)),(17,true,Am c)] [] [] (E1 n a0 a1 a2 m c=some r)) n ⟨0,([]),Rw,ef hs,ef hs,f,h⟩ ?_
  rintro ml10 e st ⟨c,Xl10,Rl10,rfl,rfl,f,h⟩ Ul10 Vl10
  cases ml10 with
  | zero=>cases h
  | succ ml10 =>
  rw [E1] at h
  refine A4 l i g rfl b f (Ln d f) (Ln d f) ?_
  exact go (tg (a:=([1,2,15,16,17,18],([1,2,15,16,17],[1,2,7,8,15,16,17],[1,2,8,9,15,16,17],[1,2,15,16,17,30],([6],()),[1,2,15,16,17],[1,2,15,16,17],()),[],()))) h hs l i g b f (q1 ha2) (q2 k (fun e s=>Vl10 ml10 e s (Nat.lt_succ_self _)))
 ·clear h;rintro e st ⟨Xk7,Rk7,rfl,rfl,f,h⟩
  rw [Hj] at h
  refine A4 l i g rfl b f (Ln d f) (Ln d f) ?_
  refine rg [6] hs ?_
  exact rt h hs b f
def Ob (n:Nat) (b:List Part) (g:List Part):Option Bool :=
 if 0≤0∧0≤(if (g.length:Int)<(b.length:Int) then (g.length:Int) else (b.length:Int))∧(if (g.length:Int)<(b.length:Int) then (g.length:Int) else (b.length:Int))≤(b.length:Int) then
  if 0≤0∧0≤(if (g.length:Int)<(b.length:Int) then (g.length:Int) else (b.length:Int))∧(if (g.length:Int)<(b.length:Int) then (g.length:Int) else (b.length:Int))≤(g.length:Int) then
   (Ie n (b.take ((if (g.length:Int)<(b.length:Int) then (g.length:Int) else (b.length:Int))).toNat) (g.take ((if (g.length:Int)<(b.length:Int) then (g.length:Int) else (b.length:Int))).toNat) (fun (y:Part) (q:Part)=>some (Hv y q))).bind fun h =>
   some (h)
  else none
 else none
theorem V6 (w0:World) (n:Nat) (B:As) (Rw:Ax) (L:Aw) (a0:List Part) (a1:List Part) (r:Bool) (h:Ob n a0 a1=some r) :
  ACalls Tryz.prog w0 98 [.list (a0.map AO) .none,.list (a1.map AO) .none] ⟨B,Rw,L⟩ fun x st=>x = .val (.bool r)∧st=⟨B,Rw,L⟩:=by
 rw [Ob] at h
 refine hd [.tmp 4] Tryz.func98 Tryz.ntmps98 fun M0 W0 l j c a o d hs=>?_
 simp only [AB]
 refine rg [0,1] hs ?_
 refine rg [0,1,5] hs ?_
 obtain ⟨e,h⟩:=Av h
 obtain ⟨i,h⟩:=Av h
 obtain ⟨m,hy6,h⟩:=bind_some h
 apply Ap;intro K3 b
 refine dk 8 2 1 [4] hs OJ ?_
 refine Az _ (O6 w0 n _ _ _ (a0.take ((if (a1.length:Int)<(a0.length:Int) then (a1.length:Int) else (a0.length:Int))).toNat) (a1.take ((if (a1.length:Int)<(a0.length:Int) then (a1.length:Int) else (a0.length:Int))).toNat) 178 [] (fun (x0:Part) (x1:Part)=>some (Hv x0 x1)) (fun x0 x1 r hx k rows' g f=>by cases hx;exact S7 w0 _ _ _ x0 x1) _ hy6) (hv hs) ?_
 refine dn hs b ?_
 clear b
 exact rt h hs a d
def H2 (n:Nat) (z:ByteArray) (g:List Part) (a2:List Part):Option Bool :=
 (CZ n z).bind fun b =>
 if decide (b.2=0) then
  (DR n g b.1).bind fun y =>
  if y then
   some (true)
  else
   (DR n b.1 g).bind fun q =>
   if q then
    if 0≤(g.length:Int)∧(g.length:Int)≤(b.1.length:Int)∧(b.1.length:Int)≤(b.1.length:Int) then
     (Ob n (b.1.drop g.length) a2).bind fun h =>
     some (h)
    else none
   else
    some (false)
 else
  some (false)
theorem Rn (w0:World) (hE:Jl w0) (hM:Jh w0) (hP:Pow10 w0) (n:Nat) (B:As) (Rw:Ax) (L:Aw) (a0:ByteArray) (la1:Nat) (a1:List Part) (hla1:B[la1]? = some ([.list (a1.map AO) .none])) (la2:Nat) (a2:List Part) (hla2:B[la2]? = some ([.list (a2.map AO) .none])) (r:Bool) (h:H2 n a0 a1 a2=some r) :
  ACalls Tryz.prog w0 182 [.val (.string a0),.box la1 0,.box la2 0] ⟨B,Rw,L⟩ fun x st=>x = .val (.bool r)∧st=⟨B,Rw,L⟩:=by
 rw [H2] at h
 refine hd [.tmp 4] Tryz.func182 Tryz.ntmps182 fun M0 W0 u o t a v j hs=>?_
 simp only [AB]
 have i:=(Ak.1 hla1).1
 have k:=(Ak.1 hla2).1
 have hs:=Ae (An hla1) hs
 have hs:=Ae (An hla2) hs
 refine rg [0,1,2] hs ?_
 obtain ⟨d,l,h⟩:=bind_some h
 refine rc 2 [1,2,5,6] hs ?_;intro K2 g
 refine Az _ (GG w0 hE hM hP n _ _ _ a0 _ l) (hv hs) ?_
 refine ne hs g ?_
 clear g
 apply Ap;intro K4 b
 rcases Bool.eq_false_or_eq_true (decide (d.2=0)) with hf5 | hf5
 ·replace h:=AW h hf5
  obtain ⟨q,c,h⟩:=bind_some h
  rcases Bool.eq_false_or_eq_true (q) with hf7 | hf7
  ·replace h:=AW h hf7
   have hs:=Ae hf5 hs
   have hs:=Ae hf7 hs
   refine dk 21 4 1 [4] hs OJ ?_
   refine Az _ (DX w0 n _ _ _ a1 d.1 _ c) (hv hs) ?_
   refine nc hs ?_
   refine IU ?_
   refine nc hs ?_
   refine IU ?_
   refine dn hs b ?_
   clear b
   exact rt h hs a j
  ·replace h:=AX h hf7
   obtain ⟨s,f,h⟩:=bind_some h
   rcases Bool.eq_false_or_eq_true (s) with hf9 | hf9
   ·replace h:=AW h hf9
    obtain ⟨m,h⟩:=Av h
    obtain ⟨p,e,h⟩:=bind_some h
    have hs:=Ae hf5 hs
    have hs:=Ae hf7 hs
    have hs:=Ae hf9 hs
    refine dk 21 4 1 [4] hs OJ ?_
    refine Az _ (DX w0 n _ _ _ a1 d.1 _ c) (hv hs) ?_
    refine nc hs ?_
    refine Az _ (DX w0 n _ _ _ d.1 a1 _ f) (hv hs) ?_
    refine nc hs ?_
    refine Az _ (V6 w0 n _ _ _ (d.1.drop a1.length) a2 _ e) (hv hs) ?_
    refine dn hs b ?_
    clear b
    exact rt h hs a j
   ·replace h:=AX h hf9
    have hs:=Ae hf5 hs
    have hs:=Ae hf7 hs
    have hs:=Ae hf9 hs
    refine dk 21 4 1 [4] hs OJ ?_
    refine Az _ (DX w0 n _ _ _ a1 d.1 _ c) (hv hs) ?_
    refine nc hs ?_
    refine Az _ (DX w0 n _ _ _ d.1 a1 _ f) (hv hs) ?_
    refine nc hs ?_
    refine IU ?_
    refine dn hs b ?_
    clear b
    exact rt h hs a j
 ·replace h:=AX h hf5
  have hs:=Ae hf5 hs
  refine dk 21 4 1 [4] hs OJ ?_
  refine IU ?_
  refine nc hs ?_
  refine IU ?_
  refine nc hs ?_
  refine IU ?_
  refine dn hs b ?_
  clear b
  exact rt h hs a j
def LN (n:Nat) (g:List ByteArray) (y:List Part) (h:List Part):Option Bool :=
 (FD n g (fun (q:ByteArray)=>H2 n q y h)).bind fun b =>
 some (b)
theorem T9 (w0:World) (hE:Jl w0) (hM:Jh w0) (hP:Pow10 w0) (n:Nat) (B:As) (Rw:Ax) (L:Aw) (a0:List ByteArray) (a1:List Part) (a2:List Part) (r:Bool) (h:LN n a0 a1 a2=some r) :
  ACalls Tryz.prog w0 101 [.list (a0.map Eo) .none,.list (a1.map AO) .none,.list (a2.map AO) .none] ⟨B,Rw,L⟩ fun x st=>x = .val (.bool r)∧st=⟨B,Rw,L⟩:=by
 rw [LN] at h
 refine hd [.tmp 6] Tryz.func101 Tryz.ntmps101 fun M0 W0 m k f a p i hs=>?_
 simp only [AB]
 refine rg [0,4,5] hs ?_
 obtain ⟨o,d,h⟩:=bind_some h
 refine rc 2 [6] hs ?_;intro K2 b
 refine Az _ (L8 w0 n _ _ _ a0 182 [.box B.length 0,.box (B.length+1) 0] (fun (e:ByteArray)=>H2 n e a1 a2) (fun e r g l rows' c j=>by exact Rn w0 hE hM hP n _ _ _ e _ a1 (EV c ev) _ a2 (EV c ev) _ g) _ d) (hv hs) ?_
 refine ne hs b ?_
 clear b
 exact rt h hs a i
def GT (b:Part):Bool :=
 !(decide (b.kind=1))
theorem SA (w0:World) (B:As) (Rw:Ax) (L:Aw) (a0:Part) (r:Bool) (h:GT a0=r) :
  ACalls Tryz.prog w0 151 [.agg (Am a0.kind::(Am a0.index::([.val (.string a0.name)])))] ⟨B,Rw,L⟩ fun x st=>x = .val (.bool r)∧st=⟨B,Rw,L⟩:=by
 rw [GT] at h
 refine hd [.tmp 2] Tryz.func151 Tryz.ntmps151 fun M0 W0 e d b a f c hs=>?_
 simp only [AB]
 refine rg [1] hs ?_
 refine rg [2] hs ?_
 exact rT h hs a c
theorem Rm (w0:World) (B:As) (Rw:Ax) (L:Aw) (a0:Part) :
  ACalls Tryz.prog w0 151 [.agg (Am a0.kind::(Am a0.index::([.val (.string a0.name)])))] ⟨B,Rw,L⟩ fun x st=>x = .val (.bool (GT a0))∧st=⟨B,Rw,L⟩:=SA w0 B Rw L a0 _ rfl
def JX (n:Nat)  : Option Int :=
 some (0)
def FK (n:Nat) (h:List Int):Nat→Int→Option Int
 | 0,_=>none
 | m+1,b =>
  if decide (b<(h.length:Int)) then
   (B6 h b).bind fun g =>
   if !(decide (g=0)) then
    some (g)
   else
    if Bj (b+1) then
     (FK n h m) (b+1)
    else none
  else
   JX n 
def Jg (n:Nat) (b:List Int):Option Int :=
 FK n b n 0
theorem Qh (w0:World) (n:Nat) (B:As) (Rw:Ax) (L:Aw) (a0:List Int) (r:Int) (h:Jg n a0=some r) :
  ACalls Tryz.prog w0 72 [.list (a0.map Yg) .none] ⟨B,Rw,L⟩ fun x st=>x=Am r∧st=⟨B,Rw,L⟩:=by
 rw [Jg] at h
 refine hd [.tmp 2] Tryz.func72 Tryz.ntmps72 fun M0 W0 j g f b k d hs=>?_
 simp only [AB]
 refine rg [0] hs ?_
 refine AA (fun e st=>Ck e st B Rw L [] [] [] (JX n  = some r)) ?_ ?_
 ·intro K4 i
  refine rg [5,6,7] hs ?_
  apply Au
  refine AC (fun m e st=>∃ (c:Int),Ck e st B Rw L [(5,true,.list (a0.map Yg) .none),(6,true,Am (a0.length:Int)),(7,true,Am c)] [] [] (FK n a0 m c=some r)) n ⟨0,([]),Rw,ef hs,ef hs,d,h⟩ ?_
  rintro ml6 e st ⟨c,Xl6,Rl6,rfl,rfl,d,h⟩ Ul6 Vl6
  cases ml6 with
  | zero=>cases h
  | succ ml6 =>
  rw [FK] at h
  exact go (tg (a:=([5,6,7,8],([5,6,7],[4,5,6,7],[4,5,6,7,12],([2],()),[5,6,7],[5,6,7],()),[],()))) h hs j g f b d trivial (q2 i (fun e s=>Vl6 ml6 e s (Nat.lt_succ_self _)))
 ·clear h;rintro e st ⟨Xk3,Rk3,rfl,rfl,d,h⟩
  rw [JX] at h
  refine td j g f b d ?_
  refine rg [2] hs ?_
  exact rt h hs b d
def QT (n:Nat) (g:Ty):Option ((List (List Part))) :=
 (JO n g).bind fun h =>
 if !(decide (h=0)) then
  some ([])
 else
  (Lh n g ([]) ([])).bind fun b =>
  some (b)
theorem Zg (w0:World) (hT:Lib.Utf8Tabs 2 3 w0) (n:Nat) (B:As) (Rw:Ax) (L:Aw) (a0:Ty) (r:(List (List Part))) (h:QT n a0=some r) :
  ACalls Tryz.prog w0 33 [.agg (a0.cs)] ⟨B,Rw,L⟩ fun x st=>x = .list (r.map (KO AO)) .none∧st=⟨B,Rw,L⟩:=by
 rw [QT] at h
 refine hd [.tmp 2] Tryz.func33 Tryz.ntmps33 fun M0 W0 p m l a q d hs=>?_
 simp only [AB]
 refine rg [1] hs ?_
 apply Ap;intro K2 e
 obtain ⟨o,i,h⟩:=bind_some h
 refine rc 2 [1,7] hs ?_;intro K3 g
 refine Az _ (Qz w0 hT n _ _ _ a0 _ i) (hv hs) ?_
 refine ne hs g ?_
 clear g
 refine Cj h hs ?_ ?_<;>intro hs h
 ·refine rg [2] hs ?_
  exact rt h hs a d
 refine sk [1] hs e ?_
 clear e
 refine rg [1,3] hs ?_
 refine rg [1,3,4] hs ?_
 refine rg [1,3,4] hs ?_
 have d:=d.full 1 0
 obtain ⟨k,f,h⟩:=bind_some h
 refine rc 2 [3] hs ?_;intro K10 c
 refine Ey _ (Qb w0 n _ _ _ a0 ([]) (B.length+1) ([]) .full (ef hs) d.enter (B.length+2) (ef hs) _ f) (hv hs) ?_;rintro _ _ ⟨rfl,Rg13,j,rfl,b⟩
 have d:=d.call b
 refine ne hs c ?_
 clear c
 refine rg [2] hs ?_
 exact rt h hs a d
def LW (n:Nat)  (b:List (List Part)):Option ((List (List Part))) :=
 some (b)
def Jp (n:Nat) (h:(List (List Part))):Nat→(List (List Part))→Int→Option ((List (List Part)))
 | 0,_,_=>none
 | m+1,b,g =>
  if decide (g<(h.length:Int)) then
   (B6 h g).bind fun q =>
   if (b.length+1)*24≤140737488355328∧b.length+1≤4611686018427387904 then
    if Bj (g+1) then
     (Jp n h m) (b++([q])) (g+1)
    else none
   else none
  else
   LW n b
def MX (n:Nat) (b:Ty):Option ((List (List Part))) :=
 (QT n b).bind fun g =>
 Jp n g n ([]) 0
theorem Ve (w0:World) (hT:Lib.Utf8Tabs 2 3 w0) (n:Nat) (B:As) (Rw:Ax) (L:Aw) (a0:Ty) (r:(List (List Part))) (h:MX n a0=some r) :
  ACalls Tryz.prog w0 84 [.agg (a0.cs)] ⟨B,Rw,L⟩ fun x st=>x = .list (r.map (KO AO)) .none∧st=⟨B,Rw,L⟩:=by
 rw [MX] at h
 refine hd [.tmp 2] Tryz.func84 Tryz.ntmps84 fun M0 W0 u o k i v l hs=>?_
 simp only [AB]
 refine rg [1] hs ?_
 refine rg [1,3] hs ?_
 refine AA (fun e st=>∃ (f:List (List Part)) (d:Ev.Own),Ck e st B Rw L [(3,true,.list (f.map (KO AO)) d)] [a0.cs] [(1,f.length,d)] (LW n f=some r)) ?_ ?_
 ·intro K5 p
  obtain ⟨t,q,h⟩:=bind_some h
  refine rc 2 [3,7,8,9] hs ?_;intro K6 j
  refine Az _ (Zg w0 hT n _ _ _ a0 _ q) (hv hs) ?_
  refine ne hs j ?_
  clear j
  apply Au
  refine AC (fun m e st=>∃ (b:List (List Part)) (g:Int) (c:Ev.Own),Ck e st B Rw L [(3,true,.list (b.map (KO AO)) c),(7,true,.list (t.map (KO AO)) .none),(8,true,Am (t.length:Int)),(9,true,Am g)] [a0.cs] [(1,b.length,c)] (Jp n t m b g=some r)) n ⟨([]),0,.full,([]),Rw,ef hs,ef hs,Owns.of_eq ((l).full 1 0) E0,h⟩ ?_
  rintro ml8 e st ⟨b,g,c,Xl8,Rl8,rfl,rfl,l,h⟩ Ul8 Vl8
  cases ml8 with
  | zero=>cases h
  | succ ml8 =>
  rw [Jp] at h
  exact go (tg (a:=([3,7,8,9,10],([3,7,8,9],[3,5,7,8,9],[3,7,8,9],[3,7,8,9],()),[3],()))) h hs u o k i l (q1 (ae YF P1)) (q2 p (fun e s=>Vl8 ml8 e s (Nat.lt_succ_self _)))
 ·clear h;rintro e st ⟨f,d,Xk4,Rk4,rfl,rfl,l,h⟩
  rw [LW] at h
  exact go (tg (a:=([2],()))) h hs u o k i l trivial trivial
def Ep (n:Nat)  (b:Int):Option Int :=
 some (b)
def FX (n:Nat) (b:Ty):Option Int :=
 (JO n b).bind fun g =>
 if (decide (g=0))&&(!(decide (b.kind=9))) then
  Ep n 11
 else
  Ep n g
theorem OA (w0:World) (hT:Lib.Utf8Tabs 2 3 w0) (n:Nat) (B:As) (Rw:Ax) (L:Aw) (a0:Ty) (r:Int) (h:FX n a0=some r) :
  ACalls Tryz.prog w0 73 [.agg (a0.cs)] ⟨B,Rw,L⟩ fun x st=>x=Am r∧st=⟨B,Rw,L⟩:=by
 rw [FX] at h
 refine hd [.tmp 2] Tryz.func73 Tryz.ntmps73 fun M0 W0 l g d b o i hs=>?_
 simp only [AB]
 refine rg [1] hs ?_
 obtain ⟨m,k,h⟩:=bind_some h
 refine rc 2 [1,3] hs ?_;intro K2 f
 refine Az _ (Qz w0 hT n _ _ _ a0 _ k) (hv hs) ?_
 refine ne hs f ?_
 clear f
 refine AA (fun e st=>∃ (c:Int),Ck e st B Rw L [(3,true,Am c)] [a0.cs] [] (Ep n c=some r)) ?_ ?_
 ·intro K6 j
  exact go (tg (a:=([3,12],([3],()),[3],()))) h hs l g d b i trivial (q1 j)
 ·clear h;rintro e st ⟨c,Xk5,Rk5,rfl,rfl,i,h⟩
  rw [Ep] at h
  refine td l g d b i ?_
  refine rg [2] hs ?_
  exact rt h hs b i
def Oj (n:Nat)  (b:ByteArray):Option (ByteArray × Int) :=
 if 0≤1∧1≤(b.size:Int)∧(b.size:Int)≤(b.size:Int) then
  some ((b.extract 1 b.size,0))
 else none
def IB (n:Nat) (y:List Part):Nat→ByteArray→Int→Option (ByteArray × Int)
 | 0,_,_=>none
 | m+1,g,b =>
  if decide (b<(y.length:Int)) then
   (B6 y b).bind fun q =>
   (DT q).bind fun h =>
   if g.size+h.size≤9223372036854775807 then
    if Bj (b+1) then
     (IB n y m) (g++h) (b+1)
    else none
   else none
  else
   Oj n g
def J7 (n:Nat) (g:List Part):Option (ByteArray × Int) :=
 (I3 n g).bind fun b =>
 if !(decide (b=0)) then
  some (((⟨#[]⟩:ByteArray),b))
 else
  IB n g n (⟨#[]⟩:ByteArray) 0
theorem SG (w0:World) (hP:Pow10 w0) (n:Nat) (B:As) (Rw:Ax) (L:Aw) (a0:List Part) (r:ByteArray × Int) (h:J7 n a0=some r) :
  ACalls Tryz.prog w0 152 [.list (a0.map AO) .none] ⟨B,Rw,L⟩ fun x st=>x = .tup [.val (.string r.1),Am r.2]∧st=⟨B,Rw,L⟩:=by
 rw [J7] at h
 refine hd [.tmp 2,.tmp 3] Tryz.func152 Tryz.ntmps152 fun M0 W0 D k o c O i hs=>?_
 simp only [AB]
 refine rg [0] hs ?_
 apply Ap;intro K2 y
 obtain ⟨N,F,h⟩:=bind_some h
 refine rc 2 [0,4] hs ?_;intro K3 v
 refine Az _ (UO w0 hP n _ _ _ a0 _ F) (hv hs) ?_
 refine ne hs v ?_
 clear v
 refine rg [0,4,11] hs ?_
 refine Cj h hs ?_ ?_<;>intro hs h
 ·refine rg [2,3] hs ?_
  exact rt h hs c i
 refine sk [0] hs y ?_
 clear y
 refine rg [0,5] hs ?_
 refine AA (fun e st=>∃ (g:ByteArray),Ck e st B Rw L [(5,true,.val (.string g))] [] [] (Oj n g=some r)) ?_ ?_
 ·intro K11 z
  refine rg [5,13,14,15] hs ?_
  apply Au
  refine AC (fun m e st=>∃ (b:ByteArray) (d:Int),Ck e st B Rw L [(5,true,.val (.string b)),(13,true,.list (a0.map AO) .none),(14,true,Am (a0.length:Int)),(15,true,Am d)] [] [] (IB n a0 m b d=some r)) n ⟨(⟨#[]⟩:ByteArray),0,([]),Rw,ef hs,ef hs,i,h⟩ ?_
  rintro ml13 e st ⟨b,d,Xl13,Rl13,rfl,rfl,i,h⟩ Ul13 Vl13
  cases ml13 with
  | zero=>cases h
  | succ ml13 =>
  rw [IB] at h
  refine td D k o c i ?_
  refine rg [5,13,14,15,16] hs ?_
  apply Ap;intro K15 j
  refine Cj h hs ?_ ?_<;>intro hs h
  rotate_left
  ·refine sx [5] hs z ?_
   exact ⟨b,([]),Rl13,ef hs,ef hs,i,h⟩
  refine sk [5,13,14,15] hs j ?_
  clear j
  apply Ap;intro K17 t
  apply Au
  obtain ⟨J,w,h⟩:=bind_some h
  obtain ⟨E,C,l⟩:=Bt w
  have p:=Bv (f:=AO) l
  have hs:=Ae p hs
  refine rg [5,7,13,14,15] hs ?_
  obtain ⟨K,G,h⟩:=bind_some h
  obtain ⟨u,h⟩:=Av h
  have q:=u
  try simp +decide only [go_sem] at q
  exact go (tg (a:=([5,13,14,15],[5,13,14,15],()))) h hs D k o c i (q1 (O4 w0 hP)) (q2 t (fun e s=>Vl13 ml13 e s (Nat.lt_succ_self _)))
 ·clear h;rintro e st ⟨g,Xk10,Rk10,rfl,rfl,i,h⟩
  rw [Oj] at h
  refine td D k o c i ?_
  obtain ⟨H,h⟩:=Av h
  refine rg [2,3] hs ?_
  exact rt h hs c i
def Iw (n:Nat) (g:(List ByteArray)→(List ByteArray)→Int→Option ((List ByteArray) × (List ByteArray) × Int)) (b:Int) (h:List ByteArray) (q:List ByteArray):Option ((List ByteArray) × (List ByteArray) × Int) :=
 if Bj (b+1) then
  g h q (b+1)
 else none
def KN (n:Nat)  (g:List ByteArray) (b:List ByteArray):Option ((List ByteArray) × (List ByteArray) × Int) :=
 some ((g,b,0))
def E5 (n:Nat) (y:((List Part) × Int)) (z:(List ByteArray)) (q:(List (List Part))):Nat→(List ByteArray)→(List ByteArray)→Int→Option ((List ByteArray) × (List ByteArray) × Int)
 | 0,_,_,_=>none
 | m+1,b,h,g =>
  if decide (g<(q.length:Int)) then
   (B6 q g).bind fun x36 =>
   (J7 n x36).bind fun y38 =>
   (LN n z y.1 x36).bind fun y40 =>
   if y40 then
    if (b.length+1)*16≤140737488355328∧b.length+1≤4611686018427387904 then
     Iw n (E5 n y z q m) g (b++([y38.1])) h
    else none
   else
    if (h.length+1)*16≤140737488355328∧h.length+1≤4611686018427387904 then
     Iw n (E5 n y z q m) g b (h++([y38.1]))
    else none
  else
   KN n b h
def MV (n:Nat) (z:List (ByteArray × Ex)) (a1:Ty) (a2:ByteArray):Option ((List ByteArray) × (List ByteArray) × Int) :=
 (Do n z).bind fun y4 =>
 (FX n a1).bind fun y5 =>
 (Jg n ([y4,y5])).bind fun y =>
 if !(decide (y=0)) then
  some (([],[],y))
 else
  (CZ n a2).bind fun b =>
  if !(decide (b.2=0)) then
   some (([],[],b.2))
  else
   (Bq n b.1 (fun (x0:Part)=>some (GT x0))).bind fun h =>
   if h then
    some (([],[],22))
   else
    (Ja n z).bind fun g =>
    (MX n a1).bind fun q =>
    E5 n b g q n ([]) ([]) 0
theorem Vw (w0:World) (hE:Jl w0) (hM:Jh w0) (hP:Pow10 w0) (hT:Lib.Utf8Tabs 2 3 w0) (n:Nat) (B:As) (Rw:Ax) (L:Aw) (a0:List (ByteArray × Ex)) (a1:Ty) (a2:ByteArray) (r:(List ByteArray) × (List ByteArray) × Int) (h:MV n a0 a1 a2=some r) :
  ACalls Tryz.prog w0 63 [.agg ([.list (a0.map AP) .none]),.agg (a1.cs),.val (.string a2)] ⟨B,Rw,L⟩ fun x st=>x = .tup [.list (r.1.map Eo) .none,.list (r.2.1.map Eo) .none,Am r.2.2]∧st=⟨B,Rw,L⟩:=by
 rw [MV] at h
 refine hd [.tmp 6,.tmp 7,.tmp 8] Tryz.func63 Tryz.ntmps63 fun M0 W0 hN F H i hu z hs=>?_
 simp only [AB]
 refine rg [2,3,4,6,7] hs ?_
 apply Ap;intro K2 ar
 obtain ⟨y4,a3,h⟩:=bind_some h
 obtain ⟨y5,a4,h⟩:=bind_some h
 obtain ⟨y6,au,h⟩:=bind_some h
 apply Ap;intro K3 ai
 refine dk 7 4 1 [2,3,4,6,7,9] hs OJ ?_
 refine Az _ (GL w0 hE hM hP n _ _ _ a0 _ a3) (hv hs) ?_
 refine nc hs ?_
 refine Az _ (OA w0 hT n _ _ _ a1 _ a4) (hv hs) ?_
 refine nc hs ?_
 refine Az _ (Qh w0 n _ _ _ ([y4,y5]) _ au) (hv hs) ?_
 refine dn hs ai ?_
 clear ai
 refine rg [2,3,4,6,7,9,23] hs ?_
 refine Cj h hs ?_ ?_<;>intro hs h
 ·refine rg [6,7,8] hs ?_
  exact rt h hs i z
 refine sk [2,3,4,6,7] hs ar ?_
 clear ar
 obtain ⟨D,ah,h⟩:=bind_some h
 refine rc 2 [3,4,6,7,8,10] hs ?_;intro K10 Z
 refine Az _ (GG w0 hE hM hP n _ _ _ a2 _ ah) (hv hs) ?_
 refine ne hs Z ?_
 clear Z
 apply Ap;intro K12 U
 refine rg [3,4,6,7,8,10,31] hs ?_
 refine Cj h hs ?_ ?_<;>intro hs h
 ·refine rg [6,7,8] hs ?_
  exact rt h hs i z
 refine sk [3,4,6,7,10] hs U ?_
 clear U
 apply Ap;intro K16 ab
 obtain ⟨ba,hy18,h⟩:=bind_some h
 refine rc 2 [3,4,6,7,10,34] hs ?_;intro K17 N
 refine Az _ (Ec w0 n _ _ _ D.1 151 [] (fun (x0:Part)=>some (GT x0)) (fun x0 r hx B' rows' a7 a8=>by cases hx;exact Rm w0 _ _ _ x0) _ hy18) (hv hs) ?_
 refine ne hs N ?_
 clear N
 refine Cj h hs ?_ ?_<;>intro hs h
 ·refine rg [6,7,8] hs ?_
  exact rt h hs i z
 refine sk [3,4,6,7,10] hs ab ?_
 clear ab
 obtain ⟨E,ao,h⟩:=bind_some h
 refine rc 2 [4,6,7,10,11] hs ?_;intro K21 Y
 refine Az _ (QI w0 hE hM hP hT n _ _ _ a0 _ ao) (hv hs) ?_
 refine ne hs Y ?_
 clear Y
 refine AA (fun e st=>∃ (u:List ByteArray) (t:List ByteArray) (v:Ev.Own) (w:Ev.Own),Ck e st B Rw L [(6,true,.list (u.map Eo) v),(7,true,.list (t.map Eo) w)] [[.list (a0.map AP) .none],a1.cs] [(1,u.length,v),(1,t.length,w)] (KN n u t=some r)) ?_ ?_
 ·intro K25 aq
  obtain ⟨C,am,h⟩:=bind_some h
  refine rc 2 [6,7,10,11,38,39,40] hs ?_;intro K26 Q
  refine Az _ (Ve w0 hT n _ _ _ a1 _ am) (hv hs) ?_
  refine ne hs Q ?_
  clear Q
  apply Au
  refine AC (fun m e st=>∃ (c:List ByteArray) (g:List ByteArray) (b:Int) (k:Ev.Own) (d:Ev.Own),Ck e st B Rw L [(6,true,.list (c.map Eo) k),(7,true,.list (g.map Eo) d),(10,true,.list (D.1.map AO) .none),(11,true,.list (E.map Eo) .none),(38,true,.list (C.map (KO AO)) .none),(39,true,Am (C.length:Int)),(40,true,Am b)] [[.list (a0.map AP) .none],a1.cs] [(1,c.length,k),(1,g.length,d)] (E5 n D E C m c g b=some r)) n ⟨([]),([]),0,.full,.full,([]),Rw,ef hs,ef hs,Owns.of_eq (((z).full 1 0).full 1 0) E0,h⟩ ?_
  rintro ml28 e st ⟨c,g,b,k,d,Xl28,Rl28,rfl,rfl,z,h⟩ Ul28 Vl28
  cases ml28 with
  | zero=>cases h
  | succ ml28 =>
  rw [E5] at h
  have hU:=z.unders
  simp only [List.mem_cons,List.not_mem_nil,or_false,forall_eq_or_imp,forall_eq] at hU
  obtain ⟨ay,av⟩:=hU
  refine td hN F H i z ?_
  refine rg [6,7,10,11,38,39,40,41] hs ?_
  apply Ap;intro K30 J
  refine Cj h hs ?_ ?_<;>intro hs h
  rotate_left
  ·refine sx [6,7] hs aq ?_
   exact ⟨c,g,k,d,([]),Rl28,ef hs,ef hs,Owns.of_eq (((z).swap (List.Perm.swap _ _ _)).swap (List.Perm.swap _ _ _)) E0,h⟩
  refine sk [6,7,10,11,38,39,40] hs J ?_
  clear J
  refine AA (fun e st=>∃ (o:List ByteArray) (j:List ByteArray) (l:Ev.Own) (p:Ev.Own),Ck e st B Rw L [(6,true,.list (o.map Eo) l),(7,true,.list (j.map Eo) p),(10,true,.list (D.1.map AO) .none),(11,true,.list (E.map Eo) .none),(38,true,.list (C.map (KO AO)) .none),(39,true,Am (C.length:Int)),(40,true,Am b)] [[.list (a0.map AP) .none],a1.cs] [(1,o.length,l),(1,j.length,p)] (Iw n (E5 n D E C ml28) b o j=some r)) ?_ ?_
  ·intro K34 aa
   apply Au
   obtain ⟨ag,ak,h⟩:=bind_some h
   obtain ⟨az,ax,ad⟩:=Bt ak
   have af:=Bv (f:=(KO AO)) ad
   have hs:=Ae af hs
   refine rg [6,7,10,11,13,38,39,40] hs ?_
   obtain ⟨aw,aj,h⟩:=bind_some h
   refine rc 2 [6,7,10,11,13,14,38,39,40] hs ?_;intro K37 V
   refine Az _ (SG w0 hP n _ _ _ ag _ aj) (hv hs) ?_
   refine ne hs V ?_
   clear V
   obtain ⟨a9,ap,h⟩:=bind_some h
   refine rc 2 [6,7,10,11,14,38,39,40,52] hs ?_;intro K39 O
   refine Az _ (T9 w0 hE hM hP n _ _ _ E D.1 ag _ ap) (hv hs) ?_
   refine ne hs O ?_
   clear O
   refine Cj h hs ?_ ?_<;>intro hs h
   ·obtain ⟨K,h⟩:=Av h
    obtain ⟨a5,G,z,q⟩:=z.append (P:=Tryz.prog) Vb (by rw [Rq];rfl) (by decide) 1 K.1 K.2
    replace q:=fun (ys:List AV) B L o2=>q (c.map Eo) ys B L o2 E0
    replace q:=fun (y:AV) B L o2=>q [y] B L o2 E0 ev
    try simp only [List.mem_singleton,List.mem_cons,List.not_mem_nil,or_false,forall_eq_or_imp,forall_eq,List.map_append,List.map_cons,List.map_nil,Ge,Gi,F3,ES,EY,F7,Dn,D5,F2,CN,CM,Ej,D7,Ef,F4,Ee,FZ] at q
    have hs:=Ae q hs
    refine rl [6,7,10,11,38,39,40] hs aa ?_
    exact ⟨(c++([aw.1])),g,a5,d,([]),G,ef hs,ef hs,Owns.of_eq (((z).swap (List.Perm.swap _ _ _)).swap (List.Perm.swap _ _ _)) E0,h⟩
   exact go (tg (a:=([6,7,10,11,38,39,40],()))) h hs hN F H i z (q1 (ae Vb Rq)) (q1 aa)
  ·clear h;rintro e st ⟨o,j,l,p,Xk33,Rk33,rfl,rfl,z,h⟩
   rw [Iw] at h
   have hU:=z.unders
   simp only [List.mem_cons,List.not_mem_nil,or_false,forall_eq_or_imp,forall_eq] at hU
   obtain ⟨ay,av⟩:=hU
   refine td hN F H i z ?_
   obtain ⟨a6,h⟩:=Av h
   refine rl [6,7,10,11,38,39,40] hs (fun e s=>Vl28 ml28 e s (Nat.lt_succ_self _)) ?_
   exact ⟨o,j,(b+1),l,p,([]),Rk33,ef hs,ef hs,Owns.of_eq (((z).swap (List.Perm.swap _ _ _)).swap (List.Perm.swap _ _ _)) E0,h⟩
 ·clear h;rintro e st ⟨u,t,v,w,Xk24,Rk24,rfl,rfl,z,h⟩
  rw [KN] at h
  exact go (tg (a:=([6,7,8],()))) h hs hN F H i z trivial trivial
def JQ (n:Nat)  : Option Bool :=
 some (true)
def EP (n:Nat) (y:List Part) (q:List Part):Nat→Int→Option Bool
 | 0,_=>none
 | m+1,b =>
  if decide (b<(q.length:Int)) then
   (B6 y b).bind fun h =>
   (B6 q b).bind fun g =>
   if !(decide (h.kind=g.kind)&&(decide (h.index=g.index)&&(G5 h.name g.name))) then
    some (false)
   else
    if Bj (b+1) then
     (EP n y q m) (b+1)
    else none
  else
   JQ n 
def HY (n:Nat) (b:List Part) (g:List Part):Option Bool :=
 if decide ((b.length:Int)<(g.length:Int)) then
  some (false)
 else
  EP n b g n 0
theorem Ql (w0:World) (n:Nat) (B:As) (Rw:Ax) (L:Aw) (a0:List Part) (a1:List Part) (r:Bool) (h:HY n a0 a1=some r) :
  ACalls Tryz.prog w0 158 [.list (a0.map AO) .none,.list (a1.map AO) .none] ⟨B,Rw,L⟩ fun x st=>x = .val (.bool r)∧st=⟨B,Rw,L⟩:=by
 rw [HY] at h
 refine hd [.tmp 4] Tryz.func158 Tryz.ntmps158 fun M0 W0 k i f b l d hs=>?_
 simp only [AB]
 refine rg [0,1] hs ?_
 apply Ap;intro K2 g
 refine rg [0,1,10] hs ?_
 refine Cj h hs ?_ ?_<;>intro hs h
 ·refine rg [4] hs ?_
  exact rt h hs b d
 refine sk [0,1] hs g ?_
 clear g
 refine AA (fun e st=>Ck e st B Rw L [] [] [] (JQ n  = some r)) ?_ ?_
 ·intro K8 j
  refine rg [0,1,5] hs ?_
  apply Au
  refine AC (fun m e st=>∃ (c:Int),Ck e st B Rw L [(0,true,.list (a0.map AO) .none),(1,true,.list (a1.map AO) .none),(5,true,Am c)] [] [] (EP n a0 a1 m c=some r)) n ⟨0,([]),Rw,ef hs,ef hs,d,h⟩ ?_
  rintro ml10 e st ⟨c,Xl10,Rl10,rfl,rfl,d,h⟩ Ul10 Vl10
  cases ml10 with
  | zero=>cases h
  | succ ml10 =>
  rw [EP] at h
  exact go (tg (a:=([0,1,5,14],([0,1,5],[9,0,1,5,25],([4],()),[0,1,5],[0,1,5],()),[],()))) h hs k i f b d trivial (q2 j (fun e s=>Vl10 ml10 e s (Nat.lt_succ_self _)))
 ·clear h;rintro e st ⟨Xk7,Rk7,rfl,rfl,d,h⟩
  rw [JQ] at h
  refine td k i f b d ?_
  refine rg [4] hs ?_
  exact rt h hs b d
theorem S4 (n:Nat) (l f:List Part) (hl:l.length≤1000000) (hn:l.length<n):DR n l f=some (Md l f):=by
 rw [DR,Md]
 by_cases h:f.length≤l.length
 ·have a:(l.take f.length).length=f.length:=by rw [List.length_take];omega
  rw [Ad,Ai rfl,Ai ⟨by decide,by omega,by omega⟩,ZeT n _ f a (by omega) (by omega),Ss,Af,Ah h,Bool.true_and]
 ·rw [Ac,Aj (by decide),Ag h,Bool.false_and]
theorem U0 (n:Nat) (a b:List Part) (h:b.length≤a.length) (hl:b.length≤1000000):∀ (k m i:Nat),i+k=b.length→k<m→EP n a b m i=some (P4 pEq (a.drop i) (b.drop i))
 | k,0,i,_,h=>absurd h (Nat.not_lt_zero _)
 | 0,m+1,i,hi,_=>by
  rw [EP,AH,Ac,Aj (by decide),JQ,Zdg _ (by omega)]
 | k+1,m+1,i,hi,hm=>by
  have d:i<a.length:=by omega
  have c:i<b.length:=by omega
  have ih:=U0 n a b h hl k m (i+1) (by omega) (by omega)
  rw [EP,AH,Ah c,Ai rfl,AK d,Af,AK c,Af,WE _ d c]
  show (if (!pEq a[i] b[i])=true then _ else _)=_
  cases pEq a[i] b[i] with
  | false=>rfl
  | true =>
   rw [Aj (by decide),Ai (AG (by omega)),Bool.true_and]
   exact ih
theorem Xl (n:Nat) (l f:List Part) (hl:f.length≤1000000) (hn:f.length<n):HY n l f=some (Md l f):=by
 rw [HY,Md]
 by_cases h:f.length≤l.length
 ·rw [Ac,Aj (by decide),Ah h,Bool.true_and]
  have:=U0 n l f h hl f.length n 0 (by omega) hn
  rw [List.drop_zero,List.drop_zero] at this
  exact this
 ·rw [Ad,Ai rfl,Ag h,Bool.false_and]
def Part.plain (p:Part):Prop:=p.kind=3→p.index=0∧p.name=⟨#[]⟩
theorem Zfc {l f:List Part} (h:Md l f=true):f.length≤l.length:=by
 unfold Md at h
 rw [Bool.and_eq_true] at h
 exact of_decide_eq_true h.1
theorem Leads.pOk {t x:Ty} {l:List Part} (h:Leads t l x) (tg:t.Good):∀ p∈l,p.wf∧pOk p=true:=by
 intro p hp
 refine ⟨h.wf tg p hp,?_⟩
 induction h with
 | nil=>simp at hp
 | @cons t x q l h k ih =>
  rcases List.mem_cons.1 hp with rfl | hp
  ·have own:=tg.own
   unfold QQ at h
   split at h
   ·obtain ⟨e,a,rfl⟩:=List.mem_map.1 h;rfl
   ·split at h
    ·obtain ⟨e,a,rfl⟩:=List.mem_map.1 h
     have:=(own.each e a).1
     show (if (1:Int)=1∨(1:Int)=4 then decide ((0:Int)=0)&&FO e.2.1 else _)=true
     rw [Ai (by decide),this];rfl
    ·split at h
     ·obtain ⟨e,a,rfl⟩:=List.mem_map.1 h
      have:=(own.each e a).1
      show (if (4:Int)=1∨(4:Int)=4 then decide ((0:Int)=0)&&FO e.2.1 else _)=true
      rw [Ai (by decide),this];rfl
     ·simp at h
  ·exact ih (Ti tg h) hp
def KC (n:Nat)  : Option Int :=
 some (0)
def En (n:Nat) (q:List (ByteArray × Ex)):Nat→Int→Option Int
 | 0,_=>none
 | m+1,b =>
  if decide (b<(q.length:Int)) then
   (B6 q b).bind fun h =>
   (GK n h.2).bind fun g =>
   if !(decide (g=0)) then
    some (g)
   else
    if Bj (b+1) then
     (En n q m) (b+1)
    else none
  else
   KC n 
def Gg (n:Nat) (b:List (ByteArray × Ex)):Option Int :=
 En n b n 0
theorem KH (w0:World) (hE:Jl w0) (hM:Jh w0) (hP:Pow10 w0) (hT:Lib.Utf8Tabs 2 3 w0) (n:Nat) (B:As) (Rw:Ax) (L:Aw) (a0:List (ByteArray × Ex)) (r:Int) (h:Gg n a0=some r) :
  ACalls Tryz.prog w0 74 [.agg ([.list (a0.map AP) .none])] ⟨B,Rw,L⟩ fun x st=>x=Am r∧st=⟨B,Rw,L⟩:=by
 rw [Gg] at h
 refine hd [.tmp 2] Tryz.func74 Tryz.ntmps74 fun M0 W0 v g k b D d hs=>?_
 simp only [AB]
 refine rg [1] hs ?_
 refine AA (fun e st=>Ck e st B Rw L [] [[.list (a0.map AP) .none]] [] (KC n  = some r)) ?_ ?_
 ·intro K4 z
  refine rg [7,8,9] hs ?_
  apply Au
  refine AC (fun m e st=>∃ (c:Int),Ck e st B Rw L [(7,true,.list (a0.map AP) .none),(8,true,Am (a0.length:Int)),(9,true,Am c)] [[.list (a0.map AP) .none]] [] (En n a0 m c=some r)) n ⟨0,([]),Rw,ef hs,ef hs,d,h⟩ ?_
  rintro ml6 e st ⟨c,Xl6,Rl6,rfl,rfl,d,h⟩ Ul6 Vl6
  cases ml6 with
  | zero=>cases h
  | succ ml6 =>
  rw [En] at h
  refine td v g k b d ?_
  refine rg [7,8,9,10] hs ?_
  apply Ap;intro K8 t
  refine Cj h hs ?_ ?_<;>intro hs h
  rotate_left
  ·refine sx [] hs z ?_
   exact ⟨([]),Rl6,ef hs,ef hs,d,h⟩
  refine sk [7,8,9] hs t ?_
  clear t
  apply Ap;intro K10 q
  apply Au
  obtain ⟨y,o,h⟩:=bind_some h
  obtain ⟨w,u,i⟩:=Bt o
  have j:=Bv (f:=AP) i
  have hs:=Ae j hs
  refine rg [4,7,8,9] hs ?_
  obtain ⟨C,p,h⟩:=bind_some h
  refine rc 2 [5,7,8,9] hs ?_;intro K13 l
  refine Az _ (MZ w0 hE hM hP hT n _ _ _ y.2 _ p) (hv hs) ?_
  exact go (tg (a:=([5,7,8,9,17],([2],()),[7,8,9],[7,8,9],()))) h hs v g k b d trivial (q3 l q (fun e s=>Vl6 ml6 e s (Nat.lt_succ_self _)))
 ·clear h;rintro e st ⟨Xk3,Rk3,rfl,rfl,d,h⟩
  rw [KC] at h
  refine td v g k b d ?_
  refine rg [2] hs ?_
  exact rt h hs b d
def CL (n:Nat) (b:List Part) (h:List Part):Option Bool :=
 (DR n b h).bind fun g =>
 some (g)
theorem L6 (w0:World) (n:Nat) (B:As) (Rw:Ax) (L:Aw) (a0:List Part) (la1:Nat) (a1:List Part) (hla1:B[la1]? = some ([.list (a1.map AO) .none])) (r:Bool) (h:CL n a0 a1=some r) :
  ACalls Tryz.prog w0 304 [.list (a0.map AO) .none,.box la1 0] ⟨B,Rw,L⟩ fun x st=>x = .val (.bool r)∧st=⟨B,Rw,L⟩:=by
 rw [CL] at h
 refine hd [.tmp 3] Tryz.func304 Tryz.ntmps304 fun M0 W0 f e d b i g hs=>?_
 simp only [AB]
 have c:=(Ak.1 hla1).1
 have hs:=Ae (An hla1) hs
 exact go (tg (a:=([0,1],[3],()))) h hs f e d b g (q1 (DX w0 n)) trivial
def Dk (n:Nat) (h:Cps) (q:List Part):Option Bool :=
 (B1 n h.targets (fun (g:List Part)=>CL n g q)).bind fun b =>
 some (b)
theorem Nv (w0:World) (n:Nat) (B:As) (Rw:Ax) (L:Aw) (la0:Nat) (a0:Cps) (hla0:B[la0]? = some (.list (a0.rules.map AP) .none::(.list (a0.targets.map (KO AO)) .none::(a0.mid.cs)))) (a1:List Part) (r:Bool) (h:Dk n a0 a1=some r) :
  ACalls Tryz.prog w0 243 [.box la0 0,.list (a1.map AO) .none] ⟨B,Rw,L⟩ fun x st=>x = .val (.bool r)∧st=⟨B,Rw,L⟩:=by
 rw [Dk] at h
 refine hd [.tmp 4] Tryz.func243 Tryz.ntmps243 fun M0 W0 o l g a q j hs=>?_
 simp only [AB]
 have c:=(Ak.1 hla0).1
 have hs:=Ae (An hla0) hs
 refine rg [0,3] hs ?_
 obtain ⟨p,d,h⟩:=bind_some h
 refine rc 2 [4] hs ?_;intro K2 b
 refine Az _ (Iq w0 n _ _ _ a0.targets 304 [.box B.length 0] (fun (f:List Part)=>CL n f a1) (fun f r i m rows' e k=>by exact L6 w0 n _ _ _ f _ a1 (EV e (ef hs)) _ i) _ d) (hv hs) ?_
 refine ne hs b ?_
 clear b
 exact rt h hs a j
def It (n:Nat)  (b:Bool) (b0_k3:Ty) (b1_k3:Int × ByteArray × Int × Ty × List Vl):Option ((Int × ByteArray × Int × Ty × List Vl) × Bool) :=
 some ((b1_k3,b))
def Eu (n:Nat) (y:List Part):Nat→Bool→Int→Ty→(Int × ByteArray × Int × Ty × List Vl)→Option ((Int × ByteArray × Int × Ty × List Vl) × Bool)
 | 0,_,_,_,_=>none
 | m+1,h,b,b0_l6,b1_l6 =>
  if decide (b<(y.length:Int)) then
   (B6 y b).bind fun q =>
   if (!(decide (q.kind=1)))||(!(decide (b0_l6.kind=9))) then
    some (((0,(⟨#[]⟩:ByteArray),0,Ty.mk 0 0 0 0 ([]) ([]) ([]),[]),false))
   else
    (JK n b0_l6 q.name).bind fun g =>
    if !g.2 then
     some (((0,(⟨#[]⟩:ByteArray),0,Ty.mk 0 0 0 0 ([]) ([]) ([]),[]),false))
    else
     if Bj (b+1) then
      (Eu n y m) g.2 (b+1) g.1.2.2.2.1 g.1
     else none
  else
   It n h b0_l6 b1_l6
def Gj (n:Nat) (b:Ty) (g:List Part):Option ((Int × ByteArray × Int × Ty × List Vl) × Bool) :=
 Eu n g n false 0 b ((0,(⟨#[]⟩:ByteArray),0,Ty.mk 0 0 0 0 ([]) ([]) ([]),[]))
theorem Ox (w0:World) (n:Nat) (B:As) (Rw:Ax) (L:Aw) (a0:Ty) (a1:List Part) (r:(Int × ByteArray × Int × Ty × List Vl) × Bool) (h:Gj n a0 a1=some r) :
  ACalls Tryz.prog w0 165 [.agg (a0.cs),.list (a1.map AO) .none] ⟨B,Rw,L⟩ fun x st=>x = .tup [.agg (Am r.1.1::(.val (.string r.1.2.1)::(Am r.1.2.2.1::((r.1.2.2.2.1.cs)++([.list (r.1.2.2.2.2.map BZ) .none]))))),.val (.bool r.2)]∧st=⟨B,Rw,L⟩:=by
 rw [Gj] at h
 refine hd [.cell 4 95,.tmp 5] Tryz.func165 Tryz.ntmps165 fun M0 W0 Y H N i hu t hs=>?_
 simp only [AB]
 refine rg [1,2,4,5] hs ?_
 refine AA (fun e st=>∃ (j:Bool) (q:Ty) (b:Int × ByteArray × Int × Ty × List Vl) (k:List AV) (o:List AV),Ck e st B Rw L [(4,true,.box (B.length+1) 0),(5,true,.val (.bool j))] [k,o] [] (k.map AV.pubCell=q.cs∧o.map AV.pubCell=Am b.1::(.val (.string b.2.1)::(Am b.2.2.1::((b.2.2.2.1.cs)++([.list (b.2.2.2.2.map BZ) .none]))))∧It n j q b=some r)) ?_ ?_
 ·intro K4 V
  refine rg [2,4,5,8,9,10] hs ?_
  apply Au
  refine AC (fun m e st=>∃ (g:Bool) (c:Int) (d:Ty) (a:Int × ByteArray × Int × Ty × List Vl) (p:List AV) (l:List AV),Ck e st B Rw L [(2,true,.box B.length 0),(4,true,.box (B.length+1) 0),(5,true,.val (.bool g)),(8,true,.list (a1.map AO) .none),(9,true,Am (a1.length:Int)),(10,true,Am c)] [p,l] [] (p.map AV.pubCell=d.cs∧l.map AV.pubCell=Am a.1::(.val (.string a.2.1)::(Am a.2.2.1::((a.2.2.2.1.cs)++([.list (a.2.2.2.2.map BZ) .none]))))∧Eu n a1 m g c d a=some r)) n ⟨false,0,a0,((0,(⟨#[]⟩:ByteArray),0,Ty.mk 0 0 0 0 ([]) ([]) ([]),[])),_,_,([]),Rw,ef hs,ef hs,t,ef hs,ef hs,h⟩ ?_
  rintro ml6 e st ⟨g,c,d,a,p,l,Xl6,Rl6,rfl,rfl,t,C,D,h⟩ Ul6 Vl6
  cases ml6 with
  | zero=>cases h
  | succ ml6 =>
  rw [Eu] at h
  refine Ba B.length (by first | rfl | (simp only [CG,BK,BJ,Bl];rfl)) C ?_;simp +decide only [go_sem,Nat.reduceAdd]
  refine Ba (B.length+1) (by first | rfl | (simp only [CG,BK,BJ,Bl];rfl)) D ?_;simp +decide only [go_sem,Nat.reduceAdd]
  show Em _ _ _ _ _ _ _ _ [(2,true,.box B.length 0),(4,true,.box (B.length+1) 0),(5,true,.val (.bool g)),(8,true,.list (a1.map AO) .none),(9,true,Am (a1.length:Int)),(10,true,Am c)] ⟨B++([d.cs,Am a.1::(.val (.string a.2.1)::(Am a.2.2.1::((a.2.2.2.1.cs)++([.list (a.2.2.2.2.map BZ) .none]))))]++Xl6),Rl6,L⟩
  refine td Y H N i t ?_
  refine rg [2,4,5,8,9,10,11] hs ?_
  apply Ap;intro K8 O
  refine Cj h hs ?_ ?_<;>intro hs h
  rotate_left
  ·refine sx [4,5] hs V ?_
   exact ⟨g,d,a,_,_,([]),Rl6,ef hs,ef hs,t,ef hs,ef hs,h⟩
  refine sk [2,4,8,9,10] hs O ?_
  clear O
  apply Ap;intro K10 z
  apply Au
  obtain ⟨u,K,h⟩:=bind_some h
  obtain ⟨U,Q,E⟩:=Bt K
  have F:=Bv (f:=AO) E
  have hs:=Ae F hs
  refine rg [2,4,7,8,9,10] hs ?_
  apply Ap;intro K13 y
  refine rg [2,4,7,8,9,10,21] hs ?_
  refine Cj h hs ?_ ?_<;>intro hs h
  ·refine rg [4,5] hs ?_
   exact rt h hs i t
  refine sk [2,4,7,8,9,10] hs y ?_
  clear y
  apply Ap;intro K17 v
  obtain ⟨G,J,h⟩:=bind_some h
  refine rc 2 [2,4,5,8,9,10] hs ?_;intro K18 w
  refine Az _ (QZ w0 n _ _ _ d u.name _ J) (hv hs) ?_
  refine ne hs w ?_
  clear w
  refine rg [2,4,5,8,9,10,31] hs ?_
  refine Cj h hs ?_ ?_<;>intro hs h
  ·refine rg [4,5] hs ?_
   exact rt h hs i t
  refine sk [2,4,5,8,9,10] hs v ?_
  clear v
  refine rl [2,4,5,8,9,10] hs z ?_
  clear z
  obtain ⟨Z,h⟩:=Av h
  refine rl [2,4,5,8,9,10] hs (fun e s=>Vl6 ml6 e s (Nat.lt_succ_self _)) ?_
  exact ⟨G.2,(c+1),G.1.2.2.2.1,G.1,_,_,([Am u.kind::(Am u.index::([.val (.string u.name)]))]),Rl6,ef hs,ef hs,t,ef hs,ef hs,h⟩
 ·clear h;rintro e st ⟨j,q,b,k,o,Xk3,Rk3,rfl,rfl,t,C,D,h⟩
  rw [It] at h
  refine Ba B.length (by first | rfl | (simp only [CG,BK,BJ,Bl];rfl)) C ?_;simp +decide only [go_sem,Nat.reduceAdd]
  refine Ba (B.length+1) (by first | rfl | (simp only [CG,BK,BJ,Bl];rfl)) D ?_;simp +decide only [go_sem,Nat.reduceAdd]
  show Em _ _ _ _ _ _ _ _ [(4,true,.box (B.length+1) 0),(5,true,.val (.bool j))] ⟨B++([q.cs,Am b.1::(.val (.string b.2.1)::(Am b.2.2.1::((b.2.2.2.1.cs)++([.list (b.2.2.2.2.map BZ) .none]))))]++Xk3),Rk3,L⟩
  refine td Y H N i t ?_
  refine rg [4,5] hs ?_
  exact rt h hs i t
def Dc (b:Part):Bool :=
 decide (b.kind=3)
theorem XS (w0:World) (B:As) (Rw:Ax) (L:Aw) (a0:Part) (r:Bool) (h:Dc a0=r) :
  ACalls Tryz.prog w0 341 [.agg (Am a0.kind::(Am a0.index::([.val (.string a0.name)])))] ⟨B,Rw,L⟩ fun x st=>x = .val (.bool r)∧st=⟨B,Rw,L⟩:=by
 rw [Dc] at h
 refine hd [.tmp 2] Tryz.func341 Tryz.ntmps341 fun M0 W0 e d b a f c hs=>?_
 simp only [AB]
 refine rg [1] hs ?_
 refine rg [2] hs ?_
 exact rT h hs a c
theorem Ws (w0:World) (B:As) (Rw:Ax) (L:Aw) (a0:Part) :
  ACalls Tryz.prog w0 341 [.agg (Am a0.kind::(Am a0.index::([.val (.string a0.name)])))] ⟨B,Rw,L⟩ fun x st=>x = .val (.bool (Dc a0))∧st=⟨B,Rw,L⟩:=XS w0 B Rw L a0 _ rfl
def Lq (n:Nat) (b:List Part):Option Bool :=
 (Bq n b (fun (g:Part)=>some (Dc g))).bind fun h =>
 some (h)
theorem VX (w0:World) (n:Nat) (B:As) (Rw:Ax) (L:Aw) (a0:List Part) (r:Bool) (h:Lq n a0=some r) :
  ACalls Tryz.prog w0 306 [.list (a0.map AO) .none] ⟨B,Rw,L⟩ fun x st=>x = .val (.bool r)∧st=⟨B,Rw,L⟩:=by
 rw [Lq] at h
 refine hd [.tmp 2] Tryz.func306 Tryz.ntmps306 fun M0 W0 j g c a l d hs=>?_
 simp only [AB]
 refine rg [0] hs ?_
 obtain ⟨k,hy3,h⟩:=bind_some h
 refine rc 2 [2] hs ?_;intro K2 b
 refine Az _ (Ec w0 n _ _ _ a0 341 [] (fun (x0:Part)=>some (Dc x0)) (fun x0 r hx i rows' f e=>by cases hx;exact Ws w0 _ _ _ x0) _ hy3) (hv hs) ?_
 refine ne hs b ?_
 clear b
 exact rt h hs a d
def HV (g:Part) (b:Vl):Bool :=
 if decide (g.kind=1) then
  decide (b.kind=9)
 else
  if decide (g.kind=4) then
   (decide (b.kind=10))&&(decide ((b.list.length:Int)=1))
  else
   decide (b.kind=8)
theorem Q5 (w0:World) (B:As) (Rw:Ax) (L:Aw) (a0:Part) (a1:Vl) (r:Bool) (h:HV a0 a1=r) :
  ACalls Tryz.prog w0 339 [.agg (Am a0.kind::(Am a0.index::([.val (.string a0.name)]))),.agg (a1.cs)] ⟨B,Rw,L⟩ fun x st=>x = .val (.bool r)∧st=⟨B,Rw,L⟩:=by
 rw [HV] at h
 refine hd [.tmp 4] Tryz.func339 Tryz.ntmps339 fun M0 W0 e d c b g f hs=>?_
 simp only [AB]
 exact go (tg (a:=([2,3],[3,6],[3,6,7],([4],()),[3,12],([4],()),[3],[4],()))) h hs e d c b f trivial trivial
theorem QY (w0:World) (B:As) (Rw:Ax) (L:Aw) (a0:Part) (a1:Vl) :
  ACalls Tryz.prog w0 339 [.agg (Am a0.kind::(Am a0.index::([.val (.string a0.name)]))),.agg (a1.cs)] ⟨B,Rw,L⟩ fun x st=>x = .val (.bool (HV a0 a1))∧st=⟨B,Rw,L⟩:=Q5 w0 B Rw L a0 a1 _ rfl
def Gn (b:ByteArray × Vl) (g:ByteArray):Bool :=
 G5 b.1 g
theorem Ys (w0:World) (B:As) (Rw:Ax) (L:Aw) (a0:ByteArray × Vl) (la1:Nat) (a1:ByteArray) (hla1:B[la1]? = some ([.val (.string a1)])) (r:Bool) (h:Gn a0 a1=r) :
  ACalls Tryz.prog w0 373 [.agg (.val (.string a0.1)::(a0.2.cs)),.box la1 0] ⟨B,Rw,L⟩ fun x st=>x = .val (.bool r)∧st=⟨B,Rw,L⟩:=by
 rw [Gn] at h
 refine hd [.tmp 3] Tryz.func373 Tryz.ntmps373 fun M0 W0 f e c a g d hs=>?_
 simp only [AB]
 have b:=(Ak.1 hla1).1
 have hs:=Ae (An hla1) hs
 refine rg [1,2] hs ?_
 refine rg [3] hs ?_
 exact rT h hs a d
theorem V4 (w0:World) (B:As) (Rw:Ax) (L:Aw) (a0:ByteArray × Vl) (la1:Nat) (a1:ByteArray) (hla1:B[la1]? = some ([.val (.string a1)])) :
  ACalls Tryz.prog w0 373 [.agg (.val (.string a0.1)::(a0.2.cs)),.box la1 0] ⟨B,Rw,L⟩ fun x st=>x = .val (.bool (Gn a0 a1))∧st=⟨B,Rw,L⟩:=Ys w0 B Rw L a0 la1 a1 hla1 _ rfl
def PX (n:Nat) (q:Vl) (g:ByteArray):Option Int :=
 (C6 n q.fields (fun (h:ByteArray × Vl)=>some (Gn h g))).bind fun b =>
 some (b)
theorem Zaw (w0:World) (n:Nat) (B:As) (Rw:Ax) (L:Aw) (a0:Vl) (a1:ByteArray) (r:Int) (h:PX n a0 a1=some r) :
  ACalls Tryz.prog w0 363 [.agg (a0.cs),.val (.string a1)] ⟨B,Rw,L⟩ fun x st=>x=Am r∧st=⟨B,Rw,L⟩:=by
 rw [PX] at h
 refine hd [.tmp 4] Tryz.func363 Tryz.ntmps363 fun M0 W0 i f c a k d hs=>?_
 simp only [AB]
 refine rg [2,3] hs ?_
 obtain ⟨j,hy3,h⟩:=bind_some h
 refine rc 2 [4] hs ?_;intro K2 b
 refine Az _ (Jy w0 n _ _ _ a0.fields 373 [.box (B.length+1) 0] (fun (x0:ByteArray × Vl)=>some (Gn x0 a1)) (fun x0 r hx g rows' hB' e=>by cases hx;exact V4 w0 _ _ _ x0 _ a1 (EV hB' ev)) _ hy3) (hv hs) ?_
 refine ne hs b ?_
 clear b
 exact rt h hs a d
def Jj (n:Nat)  : Option ((List Vl)) :=
 some ([])
def Ir (n:Nat) (b:Part) (g:Vl):Option ((List Vl)) :=
 if decide (b.kind=1) then
  (PX n g b.name).bind fun q =>
  if decide (0≤q) then
   (B6 g.fields q).bind fun h =>
   some ([h.2])
  else
   Jj n 
 else
  if (decide (b.kind=3))||((decide (b.kind=4))&&(G5 g.text b.name)) then
   some (g.list)
  else
   if (decide (b.kind=2))&&(decide (b.index<(g.list.length:Int))) then
    if Bj (b.index+1) then
     if 0≤b.index∧b.index≤b.index+1∧b.index+1≤(g.list.length:Int) then
      some ((g.list.take (b.index+1).toNat).drop b.index.toNat)
     else none
    else none
   else
    Jj n 
theorem UP (w0:World) (n:Nat) (B:As) (Rw:Ax) (L:Aw) (a0:Part) (a1:Vl) (r:(List Vl)) (h:Ir n a0 a1=some r) :
  ACalls Tryz.prog w0 340 [.agg (Am a0.kind::(Am a0.index::([.val (.string a0.name)]))),.agg (a1.cs)] ⟨B,Rw,L⟩ fun x st=>x = .list (r.map BZ) .none∧st=⟨B,Rw,L⟩:=by
 rw [Ir] at h
 refine hd [.tmp 4] Tryz.func340 Tryz.ntmps340 fun M0 W0 i d c b j f hs=>?_
 simp only [AB]
 refine rg [2,3] hs ?_
 refine AA (fun e st=>Ck e st B Rw L [] [Am a0.kind::(Am a0.index::([.val (.string a0.name)])),a1.cs] [] (Jj n  = some r)) ?_ ?_
 ·intro K4 g
  exact go (tg (a:=([2,3,6],([3,5],[3,5,15],([4],()),[],()),[2,3,23],([4],()),[2,3,41],([4],()),[],()))) h hs i d c b f (q1 (Zaw w0 n)) (q1 g)
 ·clear h;rintro e st ⟨Xk3,Rk3,rfl,rfl,f,h⟩
  rw [Jj] at h
  refine td i d c b f ?_
  refine rg [4] hs ?_
  exact rt h hs b f
def NN (n:Nat) (g:(List Vl)→Int→Option ((List Vl) × Int)) (b:Int) (h:List Vl):Option ((List Vl) × Int) :=
 if Bj (b+1) then
  g h (b+1)
 else none
def QU (n:Nat)  (b:List Vl):Option ((List Vl) × Int) :=
 some ((b,0))
def Qq (n:Nat)  (b:List Vl):Option ((List Vl) × Int) :=
 some ((b,0))
def N1 (n:Nat) (b:(List Vl)→Int→Option ((List Vl) × Int)) (g:Int) (h:List Vl):Option ((List Vl) × Int) :=
 NN n b g h
def HB (n:Nat) (q:List Vl):Nat→(List Vl)→(List Vl)→Int→Option ((List Vl) × Int)
 | 0,_,_,_=>none
 | m+1,b,h,g =>
  if decide (g<(q.length:Int)) then
   (B6 h g).bind fun z =>
   (D4 n z).bind fun y =>
   if (b.length+1)*88≤140737488355328∧b.length+1≤4611686018427387904 then
    if Bj (g+1) then
     (HB n q m) (b++([y])) h (g+1)
    else none
   else none
  else
   QU n b
def Hh (n:Nat) (q:List Vl):Nat→(List Vl)→(List Vl)→Int→Option ((List Vl) × Int)
 | 0,_,_,_=>none
 | m+1,b,h,g =>
  if decide (g<(q.length:Int)) then
   (B6 h g).bind fun y =>
   (D4 n y).bind fun z =>
   if (b.length+1)*88≤140737488355328∧b.length+1≤4611686018427387904 then
    if Bj (g+1) then
     (Hh n q m) (b++([z])) h (g+1)
    else none
   else none
  else
   Qq n b
def IM (n:Nat) (h:(List Vl)→Int→Option ((List Vl) × Int)) (z:List Vl) (y:Int) (x21:Part):Nat→(List Vl)→(List Vl)→Int→Option ((List Vl) × Int)
 | 0,_,_,_=>none
 | m+1,g,q,b =>
  if decide (b<(z.length:Int)) then
   (B6 q b).bind fun x33 =>
   if !(HV x21 x33) then
    some (([],22))
   else
    (Ir n x21 x33).bind fun y38 =>
    if (g.length+y38.length)*88≤140737488355328∧g.length+y38.length≤4611686018427387904 then
     if Bj (b+1) then
      (IM n h z y x21 m) (g++y38) q (b+1)
     else none
    else none
  else
   N1 n h y g
def LF (n:Nat) (h:List Part) (b:List Vl):Option ((List Vl) × Int) :=
 if decide ((b.length:Int)=0) then
  (Lq n h).bind fun g =>
  if !g then
   some (([],19))
  else
   HB n b n ([]) b 0
 else
  Hh n b n ([]) b 0
def EX (n:Nat) (h:List Part):Nat→(List Vl)→Int→Option ((List Vl) × Int)
 | 0,_,_=>none
 | m+1,g,b =>
  if decide (b<(h.length:Int)) then
   (B6 h b).bind fun q =>
   IM n (EX n h m) g b q n ([]) g 0
  else
   LF n h g
def Pe (n:Nat) (h:Vl) (g:List Part):Option ((List Vl) × Int) :=
 (I3 n g).bind fun b =>
 if !(decide (b=0)) then
  some (([],b))
 else
  EX n g n ([h]) 0
theorem Zct (w0:World) (hP:Pow10 w0) (n:Nat) (B:As) (Rw:Ax) (L:Aw) (a0:Vl) (a1:List Part) (r:(List Vl) × Int) (h:Pe n a0 a1=some r) :
  ACalls Tryz.prog w0 305 [.agg (a0.cs),.list (a1.map AO) .none] ⟨B,Rw,L⟩ fun x st=>x = .tup [.list (r.1.map BZ) .none,Am r.2]∧st=⟨B,Rw,L⟩:=by
 rw [Pe] at h
 refine hd [.tmp 4,.tmp 5] Tryz.func305 Tryz.ntmps305 fun M0 W0 hN af ad j hu l hs=>?_
 simp only [AB]
 refine rg [1,2] hs ?_
 apply Ap;intro K2 bh
 obtain ⟨y4,ca,h⟩:=bind_some h
 refine rc 2 [1,2,6] hs ?_;intro K3 bj
 refine Az _ (UO w0 hP n _ _ _ a1 _ ca) (hv hs) ?_
 refine ne hs bj ?_
 clear bj
 refine rg [1,2,6,19] hs ?_
 refine Cj h hs ?_ ?_<;>intro hs h
 ·refine rg [4,5] hs ?_
  exact rt h hs j l
 refine sk [1,2] hs bh ?_
 clear bh
 refine rg [1,7] hs ?_
 refine AA (fun e st=>∃ (c:List Vl) (E:Ev.Own),Ck e st B Rw L [(1,true,.list (a1.map AO) .none),(7,true,.list (c.map BZ) E)] [a0.cs] [(6,c.length,E)] (LF n a1 c=some r)) ?_ ?_
 ·intro K11 bp
  refine rg [1,7,23,24,25] hs ?_
  apply Au
  refine AC (fun m e st=>∃ (k:List Vl) (b:Int) (D:Ev.Own),Ck e st B Rw L [(1,true,.list (a1.map AO) .none),(7,true,.list (k.map BZ) D),(23,true,.list (a1.map AO) .none),(24,true,Am (a1.length:Int)),(25,true,Am b)] [a0.cs] [(6,k.length,D)] (EX n a1 m k b=some r)) n ⟨([a0]),0,.full,([]),Rw,ef hs,ef hs,Owns.of_eq ((l).full 6 (([a0]).length)) E0,h⟩ ?_
  rintro ml13 e st ⟨k,b,D,Xl13,Rl13,rfl,rfl,l,h⟩ Ul13 Vl13
  cases ml13 with
  | zero=>cases h
  | succ ml13 =>
  rw [EX] at h
  have hU:=l.unders
  simp only [List.mem_cons,List.not_mem_nil,or_false,forall_eq_or_imp,forall_eq] at hU
  refine td hN af ad j l ?_
  refine rg [1,7,23,24,25,26] hs ?_
  apply Ap;intro K15 ao
  refine Cj h hs ?_ ?_<;>intro hs h
  rotate_left
  ·refine sx [1,7] hs bp ?_
   exact ⟨k,D,([]),Rl13,ef hs,ef hs,Owns.of_eq (l) E0,h⟩
  refine sk [1,7,23,24,25] hs ao ?_
  clear ao
  refine AA (fun e st=>∃ (aa:List Vl) (ab:Ev.Own),Ck e st B Rw L [(1,true,.list (a1.map AO) .none),(7,true,.list (aa.map BZ) ab),(23,true,.list (a1.map AO) .none),(24,true,Am (a1.length:Int)),(25,true,Am b)] [a0.cs] [(6,aa.length,ab)] (NN n (EX n a1 ml13) b aa=some r)) ?_ ?_
  ·intro K19 bs
   apply Au
   obtain ⟨ae,bk,h⟩:=bind_some h
   obtain ⟨b5,b6,a8⟩:=Bt bk
   have a5:=Bv (f:=AO) a8
   have hs:=Ae a5 hs
   refine rg [1,7,9,23,24,25] hs ?_
   refine rg [1,7,9,10,23,24,25] hs ?_
   refine AA (fun e st=>∃ (F:List Vl) (U:Ev.Own),Ck e st B Rw L [(1,true,.list (a1.map AO) .none),(10,true,.list (F.map BZ) U),(23,true,.list (a1.map AO) .none),(24,true,Am (a1.length:Int)),(25,true,Am b)] [a0.cs,Am ae.kind::(Am ae.index::([.val (.string ae.name)]))] [(6,F.length,U)] (N1 n (EX n a1 ml13) b F=some r)) ?_ ?_
   ·intro K25 be
    refine rg [1,9,10,23,24,25,29,30,31] hs ?_
    apply Au
    refine AC (fun m e st=>∃ (g:List Vl) (p:List Vl) (G:Int) (o:Ev.Own) (u:Ev.Own),Ck e st B Rw L [(1,true,.list (a1.map AO) .none),(9,true,.box (B.length+1) 0),(10,true,.list (g.map BZ) o),(23,true,.list (a1.map AO) .none),(24,true,Am (a1.length:Int)),(25,true,Am b),(29,true,.list (p.map BZ) u),(30,true,Am (k.length:Int)),(31,true,Am G)] [a0.cs,Am ae.kind::(Am ae.index::([.val (.string ae.name)]))] [(6,g.length,o),(6,p.length,u)] (IM n (EX n a1 ml13) k b ae m g p G=some r)) n ⟨([]),k,0,.full,D,([]),Rl13,ef hs,ef hs,Owns.of_eq ((l).full 6 0) E0,h⟩ ?_
    rintro ml27 e st ⟨g,p,G,o,u,Xl27,Rl27,rfl,rfl,l,h⟩ Ul27 Vl27
    cases ml27 with
    | zero=>cases h
    | succ ml27 =>
    rw [IM] at h
    have hU:=l.unders
    simp only [List.mem_cons,List.not_mem_nil,or_false,forall_eq_or_imp,forall_eq] at hU
    obtain ⟨bf,br⟩:=hU
    refine td hN af ad j l ?_
    refine rg [1,9,10,23,24,25,29,30,31,32] hs ?_
    apply Ap;intro K29 aw
    refine Cj h hs ?_ ?_<;>intro hs h
    rotate_left
    ·refine sx [1,10,23,24,25] hs be ?_
     exact ⟨g,o,([]),Rl27,ef hs,ef hs,Owns.of_eq ((l).sub (List.sublist_append_left [(6,g.length,o)] [(6,p.length,u)])) E0,h⟩
    refine sk [1,9,10,23,24,25,29,30,31] hs aw ?_
    clear aw
    apply Ap;intro K31 ar
    apply Au
    obtain ⟨ba,bn,h⟩:=bind_some h
    obtain ⟨b8,b4,a4⟩:=Bt bn
    have a7:=Bv (f:=BZ) a4
    have hs:=Ae a7 hs
    refine rg [1,9,10,12,23,24,25,29,30,31] hs ?_
    apply Ap;intro K34 ay
    refine rc 2 [1,9,10,12,23,24,25,29,30,31,38] hs ?_;intro K35 av
    refine Az _ (QY w0 _ _ _ ae ba) (hv hs) ?_
    refine ne hs av ?_
    clear av
    refine Cj h hs ?_ ?_<;>intro hs h
    ·refine rg [4,5] hs ?_
     exact rt h hs j l
    refine sk [1,9,10,12,23,24,25,29,30,31] hs ay ?_
    clear ay
    obtain ⟨bc,bt,h⟩:=bind_some h
    obtain ⟨ap,h⟩:=Av h
    obtain ⟨b2,ai,l,V⟩:=l.append (P:=Tryz.prog) M4 (by rw [Ij];rfl) (by decide) bc.length ap.1 ap.2
    replace V:=fun (ys:List AV) B L o2=>V (g.map BZ) ys B L o2 E0
    replace V:=fun B L o2=>V (bc.map BZ) B L o2 E0 ev
    try simp only [List.mem_singleton,List.mem_cons,List.not_mem_nil,or_false,forall_eq_or_imp,forall_eq,List.map_append,List.map_cons,List.map_nil,Ge,Gi,F3,ES,EY,F7,Dn,D5,F2,CN,CM,Ej,D7,Ef,F4,Ee,FZ] at V
    have hs:=Ae V hs
    refine rk 2 [1,9,10,23,24,25,29,30,31] hs ?_
    refine Az _ (UP w0 n _ _ _ ae ba _ bt) (hv hs) ?_
    refine ne hs ar ?_
    clear ar
    obtain ⟨cc,h⟩:=Av h
    refine rl [1,9,10,23,24,25,29,30,31] hs (fun e s=>Vl27 ml27 e s (Nat.lt_succ_self _)) ?_
    exact ⟨(g++bc),p,(G+1),b2,u,([ba.cs]),ai,ef hs,ef hs,Owns.of_eq (((l).swap (List.Perm.swap _ _ _)).swap (List.Perm.swap _ _ _)) E0,h⟩
   ·clear h;rintro e st ⟨F,U,Xk24,Rk24,rfl,rfl,l,h⟩
    rw [N1] at h
    exact go (tg (a:=([1,7,23,24,25],()))) h hs hN af ad j l trivial (q1 bs)
  ·clear h;rintro e st ⟨aa,ab,Xk18,Rk18,rfl,rfl,l,h⟩
   rw [NN] at h
   exact go (tg (a:=([1,7,23,24,25],()))) h hs hN af ad j l trivial (q1 (fun e s=>Vl13 ml13 e s (Nat.lt_succ_self _)))
 ·clear h;rintro e st ⟨c,E,Xk10,Rk10,rfl,rfl,l,h⟩
  rw [LF] at h
  have hU:=l.unders
  simp only [List.mem_cons,List.not_mem_nil,or_false,forall_eq_or_imp,forall_eq] at hU
  refine td hN af ad j l ?_
  apply Ap;intro K45 ah
  apply Ap;intro K46 ag
  rcases Bool.eq_false_or_eq_true (decide ((c.length:Int)=0)) with hf47 | hf47
  ·replace h:=AW h hf47
   obtain ⟨ce,bi,h⟩:=bind_some h
   have hs:=Ae hf47 hs
   refine rk 2 [7,54] hs ?_
   refine Az _ (VX w0 n _ _ _ a1 _ bi) (hv hs) ?_
   refine ne hs ag ?_
   clear ag
   refine Cj h hs ?_ ?_<;>intro hs h
   ·refine rg [4,5] hs ?_
    exact rt h hs j l
   refine sk [7] hs ah ?_
   clear ah
   refine rg [7,13] hs ?_
   refine AA (fun e st=>∃ (N:List Vl) (Q:Ev.Own),Ck e st B Rw L [(13,true,.list (N.map BZ) Q)] [a0.cs] [(6,N.length,Q)] (QU n N=some r)) ?_ ?_
   ·intro K54 bu
    refine rg [13,55,56,57] hs ?_
    apply Au
    refine AC (fun m e st=>∃ (i:List Vl) (z:List Vl) (H:Int) (C:Ev.Own) (v:Ev.Own),Ck e st B Rw L [(13,true,.list (i.map BZ) C),(55,true,.list (z.map BZ) v),(56,true,Am (c.length:Int)),(57,true,Am H)] [a0.cs] [(6,i.length,C),(6,z.length,v)] (HB n c m i z H=some r)) n ⟨([]),c,0,.full,E,([]),Rk10,ef hs,ef hs,Owns.of_eq ((l).full 6 0) E0,h⟩ ?_
    rintro ml56 e st ⟨i,z,H,C,v,Xl56,Rl56,rfl,rfl,l,h⟩ Ul56 Vl56
    cases ml56 with
    | zero=>cases h
    | succ ml56 =>
    rw [HB] at h
    have hU:=l.unders
    simp only [List.mem_cons,List.not_mem_nil,or_false,forall_eq_or_imp,forall_eq] at hU
    obtain ⟨bf,br⟩:=hU
    refine td hN af ad j l ?_
    refine rg [13,55,56,57,58] hs ?_
    apply Ap;intro K58 a2
    refine Cj h hs ?_ ?_<;>intro hs h
    rotate_left
    ·refine sx [13] hs bu ?_
     exact ⟨i,C,([]),Rl56,ef hs,ef hs,Owns.of_eq ((l).sub (List.sublist_append_left [(6,i.length,C)] [(6,z.length,v)])) E0,h⟩
    refine sk [13,55,56,57] hs a2 ?_
    clear a2
    apply Ap;intro K60 az
    apply Au
    obtain ⟨bq,bl,h⟩:=bind_some h
    obtain ⟨bw,b1,a9⟩:=Bt bl
    have a3:=Bv (f:=BZ) a9
    have hs:=Ae a3 hs
    refine rg [13,15,55,56,57] hs ?_
    obtain ⟨b3,bv,h⟩:=bind_some h
    obtain ⟨am,h⟩:=Av h
    obtain ⟨bz,ak,l,Y⟩:=l.append (P:=Tryz.prog) M4 (by rw [Ij];rfl) (by decide) 1 am.1 am.2
    replace Y:=fun (ys:List AV) B L o2=>Y (i.map BZ) ys B L o2 E0
    replace Y:=fun (y:AV) B L o2=>Y [y] B L o2 E0 ev
    try simp only [List.mem_singleton,List.mem_cons,List.not_mem_nil,or_false,forall_eq_or_imp,forall_eq,List.map_append,List.map_cons,List.map_nil,Ge,Gi,F3,ES,EY,F7,Dn,D5,F2,CN,CM,Ej,D7,Ef,F4,Ee,FZ] at Y
    have hs:=Ae Y hs
    refine rk 2 [13,55,56,57] hs ?_
    refine Az _ (JJ w0 n _ _ _ bq _ bv) (hv hs) ?_
    refine ne hs az ?_
    clear az
    obtain ⟨cb,h⟩:=Av h
    refine rl [13,55,56,57] hs (fun e s=>Vl56 ml56 e s (Nat.lt_succ_self _)) ?_
    exact ⟨(i++([b3])),z,(H+1),bz,v,([bq.cs]),ak,ef hs,ef hs,Owns.of_eq (((l).swap (List.Perm.swap _ _ _)).swap (List.Perm.swap _ _ _)) E0,h⟩
   ·clear h;rintro e st ⟨N,Q,Xk53,Rk53,rfl,rfl,l,h⟩
    rw [QU] at h
    exact go (tg (a:=([4,5],()))) h hs hN af ad j l trivial trivial
  ·replace h:=AX h hf47
   have hs:=Ae hf47 hs
   refine rk 2 [7,54] hs ?_
   refine Dq ?_
   refine ne hs ag ?_
   clear ag
   refine AL false ev (ef hs) (fun hb70=>by cases hb70) (fun hb70=>?_)
   refine sk [7] hs ah ?_
   clear ah
   refine rg [7,13] hs ?_
   refine AA (fun e st=>∃ (K:List Vl) (Z:Ev.Own),Ck e st B Rw L [(13,true,.list (K.map BZ) Z)] [a0.cs] [(6,K.length,Z)] (Qq n K=some r)) ?_ ?_
   ·intro K74 bo
    refine rg [13,55,56,57] hs ?_
    apply Au
    refine AC (fun m e st=>∃ (d:List Vl) (t:List Vl) (J:Int) (w:Ev.Own) (q:Ev.Own),Ck e st B Rw L [(13,true,.list (d.map BZ) w),(55,true,.list (t.map BZ) q),(56,true,Am (c.length:Int)),(57,true,Am J)] [a0.cs] [(6,d.length,w),(6,t.length,q)] (Hh n c m d t J=some r)) n ⟨([]),c,0,.full,E,([]),Rk10,ef hs,ef hs,Owns.of_eq ((l).full 6 0) E0,h⟩ ?_
    rintro ml76 e st ⟨d,t,J,w,q,Xl76,Rl76,rfl,rfl,l,h⟩ Ul76 Vl76
    cases ml76 with
    | zero=>cases h
    | succ ml76 =>
    rw [Hh] at h
    have hU:=l.unders
    simp only [List.mem_cons,List.not_mem_nil,or_false,forall_eq_or_imp,forall_eq] at hU
    obtain ⟨bf,br⟩:=hU
    refine td hN af ad j l ?_
    refine rg [13,55,56,57,58] hs ?_
    apply Ap;intro K78 au
    refine Cj h hs ?_ ?_<;>intro hs h
    rotate_left
    ·refine sx [13] hs bo ?_
     exact ⟨d,w,([]),Rl76,ef hs,ef hs,Owns.of_eq ((l).sub (List.sublist_append_left [(6,d.length,w)] [(6,t.length,q)])) E0,h⟩
    refine sk [13,55,56,57] hs au ?_
    clear au
    apply Ap;intro K80 aq
    apply Au
    obtain ⟨bd,bm,h⟩:=bind_some h
    obtain ⟨b7,b9,bb⟩:=Bt bm
    have a6:=Bv (f:=BZ) bb
    have hs:=Ae a6 hs
    refine rg [13,15,55,56,57] hs ?_
    obtain ⟨bx,bg,h⟩:=bind_some h
    obtain ⟨ax,h⟩:=Av h
    obtain ⟨b0,aj,l,O⟩:=l.append (P:=Tryz.prog) M4 (by rw [Ij];rfl) (by decide) 1 ax.1 ax.2
    replace O:=fun (ys:List AV) B L o2=>O (d.map BZ) ys B L o2 E0
    replace O:=fun (y:AV) B L o2=>O [y] B L o2 E0 ev
    try simp only [List.mem_singleton,List.mem_cons,List.not_mem_nil,or_false,forall_eq_or_imp,forall_eq,List.map_append,List.map_cons,List.map_nil,Ge,Gi,F3,ES,EY,F7,Dn,D5,F2,CN,CM,Ej,D7,Ef,F4,Ee,FZ] at O
    have hs:=Ae O hs
    refine rk 2 [13,55,56,57] hs ?_
    refine Az _ (JJ w0 n _ _ _ bd _ bg) (hv hs) ?_
    refine ne hs aq ?_
    clear aq
    obtain ⟨cd,h⟩:=Av h
    refine rl [13,55,56,57] hs (fun e s=>Vl76 ml76 e s (Nat.lt_succ_self _)) ?_
    exact ⟨(d++([bx])),t,(J+1),b0,q,([bd.cs]),aj,ef hs,ef hs,Owns.of_eq (((l).swap (List.Perm.swap _ _ _)).swap (List.Perm.swap _ _ _)) E0,h⟩
   ·clear h;rintro e st ⟨K,Z,Xk73,Rk73,rfl,rfl,l,h⟩
    rw [Qq] at h
    exact go (tg (a:=([4,5],()))) h hs hN af ad j l trivial trivial
def NQ (n:Nat) (y:Vl) (h:List Part):Option (Vl × Int) :=
 (Pe n y h).bind fun b =>
 if !(decide (b.2=0)) then
  some ((Vl.mk 0 0 0 (⟨#[]⟩:ByteArray) ([]) ([]),b.2))
 else
  (Lq n h).bind fun q =>
  if q then
   some ((Vl.mk 8 0 0 (⟨#[]⟩:ByteArray) b.1 ([]),0))
  else
   (B6 b.1 0).bind fun g =>
   some ((g,0))
theorem Ux (w0:World) (hP:Pow10 w0) (n:Nat) (B:As) (Rw:Ax) (L:Aw) (a0:Vl) (a1:List Part) (r:Vl × Int) (h:NQ n a0 a1=some r) :
  ACalls Tryz.prog w0 244 [.agg (a0.cs),.list (a1.map AO) .none] ⟨B,Rw,L⟩ fun x st=>x = .tup [.agg (r.1.cs),Am r.2]∧st=⟨B,Rw,L⟩:=by
 rw [NQ] at h
 refine hd [.cell 4 34,.tmp 5] Tryz.func244 Tryz.ntmps244 fun M0 W0 e d c b g f hs=>?_
 simp only [AB]
 exact go (tg (a:=([1,2,4],[1,4,6,7],[1,4,6,7,14],([4,5],()),[4,6,19],([4,5],()),[4,6],[4,5],()))) h hs e d c b f (q2 (Zct w0 hP n) (VX w0 n)) trivial
def Dj (n:Nat)  (b2_k31:Vl):Option (Ex × Bool × Bool) :=
 some ((Ex.mk 1 0 (⟨#[]⟩:ByteArray) ([b2_k31]) ([]),true,true))
def Cf (n:Nat)  : Option (Ex × Bool × Bool) :=
 some ((Ex.mk 0 0 (⟨#[]⟩:ByteArray) ([]) ([]),false,false))
def Bn (n:Nat) (a0:Cps) (g:List Part):Nat→Int→Option (Ex × Bool × Bool)
 | 0,_=>none
 | m+1,b =>
  if decide (b<(g.length:Int)) then
   if Bj (b+1) then
    if 0≤0∧0≤b+1∧b+1≤(g.length:Int) then
     if Bj (b+1) then
      if 0≤b+1∧b+1≤(g.length:Int)∧(g.length:Int)≤(g.length:Int) then
       (Gj n a0.mid (g.take (b+1).toNat)).bind fun h =>
       (Dk n a0 (g.take (b+1).toNat)).bind fun z =>
       if (!h.2)||((decide (h.1.2.2.1=2))&&(!z)) then
        Cf n 
       else
        if (!(decide (h.1.2.2.1=3)))||z then
         if Bj (b+1) then
          (Bn n a0 g m) (b+1)
         else none
        else
         (B6 h.1.2.2.2.2 0).bind fun y =>
         if decide (0<(((g.drop (b+1).toNat).length:Int))) then
          (NQ n y (g.drop (b+1).toNat)).bind fun q =>
          if !(decide (q.2=0)) then
           Cf n 
          else
           Dj n q.1
         else
          Dj n y
      else none
     else none
    else none
   else none
  else
   Cf n 
def CP (n:Nat) (b:Cps) (g:List Part):Option (Ex × Bool × Bool) :=
 Bn n b g n 0
theorem Mc (w0:World) (hP:Pow10 w0) (n:Nat) (B:As) (Rw:Ax) (L:Aw) (la0:Nat) (a0:Cps) (hla0:B[la0]? = some (.list (a0.rules.map AP) .none::(.list (a0.targets.map (KO AO)) .none::(a0.mid.cs)))) (a1:List Part) (r:Ex × Bool × Bool) (h:CP n a0 a1=some r) :
  ACalls Tryz.prog w0 164 [.box la0 0,.list (a1.map AO) .none] ⟨B,Rw,L⟩ fun x st=>x = .tup [.agg (r.1.cs),.val (.bool r.2.1),.val (.bool r.2.2)]∧st=⟨B,Rw,L⟩:=by
 rw [CP] at h
 refine hd [.cell 4 65,.tmp 5,.tmp 6] Tryz.func164 Tryz.ntmps164 fun M0 W0 E k l b hu j hs=>?_
 simp only [AB]
 have U:=(Ak.1 hla0).1
 have hs:=Ae (An hla0) hs
 refine rg [0,1,4] hs ?_
 refine AA (fun e st=>Ck e st B Rw L [(4,true,.box B.length 0)] [[Am 0,Am 0,.val (.string (⟨#[]⟩:ByteArray)),.list ([]) .full,.list ([]) .full]] [] (Cf n  = some r)) ?_ ?_
 ·intro K4 C
  refine rg [0,1,4,17,18] hs ?_
  apply Au
  refine AC (fun m e st=>∃ (c:Int),Ck e st B Rw L [(0,true,.box la0 0),(1,true,.list (a1.map AO) .none),(4,true,.box B.length 0),(17,true,Am (a1.length:Int)),(18,true,Am c)] [[Am 0,Am 0,.val (.string (⟨#[]⟩:ByteArray)),.list ([]) .full,.list ([]) .full]] [] (Bn n a0 a1 m c=some r)) n ⟨0,([]),Rw,ef hs,ef hs,j,h⟩ ?_
  rintro ml6 e st ⟨c,Xl6,Rl6,rfl,rfl,j,h⟩ Ul6 Vl6
  cases ml6 with
  | zero=>cases h
  | succ ml6 =>
  rw [Bn] at h
  refine td E k l b j ?_
  refine rg [0,1,4,17,18,19] hs ?_
  apply Ap;intro K8 N
  refine Cj h hs ?_ ?_<;>intro hs h
  rotate_left
  ·refine sx [4] hs C ?_
   exact ⟨([]),Rl6,ef hs,ef hs,j,h⟩
  refine sk [0,1,4,17,18] hs N ?_
  clear N
  apply Ap;intro K10 K
  apply Au
  refine rg [0,1,4,7,17,18] hs ?_
  obtain ⟨ad,h⟩:=Av h
  obtain ⟨ab,h⟩:=Av h
  obtain ⟨ae,h⟩:=Av h
  obtain ⟨aa,h⟩:=Av h
  refine dg 10 1 1 [0,1,4,8,9,17,18] hs OJ ?_
  obtain ⟨i,H,h⟩:=bind_some h
  refine rc 2 [0,1,4,8,9,10,11,17,18] hs ?_;intro K17 p
  refine Az _ (Ox w0 n _ _ _ a0.mid (a1.take (c+1).toNat) _ H) (hv hs) ?_
  refine ne hs p ?_
  clear p
  obtain ⟨af,J,h⟩:=bind_some h
  refine rc 2 [0,1,4,9,10,11,12,17,18] hs ?_;intro K19 t
  refine Az _ (Nv w0 n _ _ _ la0 a0 (ef hs) (a1.take (c+1).toNat) _ J) (hv hs) ?_
  refine ne hs t ?_
  clear t
  apply Ap;intro K21 y
  refine rg [0,1,4,9,10,12,17,18,51] hs ?_
  refine Cj h hs ?_ ?_<;>intro hs h
  ·exact go (tg (a:=([4],()))) h hs E k l b j trivial (q1 C)
  refine sk [0,1,4,9,10,12,17,18] hs y ?_
  clear y
  apply Ap;intro K24 u
  refine rg [0,1,4,9,10,17,18,57] hs ?_
  refine Cj h hs ?_ ?_<;>intro hs h
  ·exact go (tg (a:=([0,1,4,17,18],[0,1,4,17,18],()))) h hs E k l b j trivial (q2 K (fun e s=>Vl6 ml6 e s (Nat.lt_succ_self _)))
  refine sk [4,9,10] hs u ?_
  clear u
  obtain ⟨Q,O,h⟩:=bind_some h
  obtain ⟨Z,Y,z⟩:=Bt O
  have o:=Bv (f:=BZ) z
  have D:(i.1.2.2.2.2.map BZ).getD 0 .junk=_:=o
  have hs:=Ae o hs
  have hs:=Ae D hs
  refine rg [4,9,13] hs ?_
  refine AA (fun e st=>∃ (d:Vl) (g:List AV),Ck e st B Rw L [(4,true,.box B.length 0),(13,true,.box (B.length+2) 0)] [[Am 0,Am 0,.val (.string (⟨#[]⟩:ByteArray)),.list ([]) .full,.list ([]) .full],Am i.1.1::(.val (.string i.1.2.1)::(Am i.1.2.2.1::((i.1.2.2.2.1.cs)++([.list (i.1.2.2.2.2.map BZ) .none])))),g] [] (g.map AV.pubCell=d.cs∧Dj n d=some r)) ?_ ?_
  ·intro K32 q
   refine rg [4,9,13,64] hs ?_
   refine Cj h hs ?_ ?_<;>intro hs h
   ·obtain ⟨G,F,h⟩:=bind_some h
    refine rc 2 [4,13,14,15] hs ?_;intro K35 w
    refine Az _ (Ux w0 hP n _ _ _ Q (a1.drop (c+1).toNat) _ F) (hv hs) ?_
    refine ne hs w ?_
    clear w
    apply Ap;intro K37 v
    refine rg [4,13,14,72] hs ?_
    refine Cj h hs ?_ ?_<;>intro hs h
    ·exact go (tg (a:=([4],()))) h hs E k l b j trivial (q1 C)
    refine sk [4,13,14] hs v ?_
    clear v
    refine rl [4,13] hs q ?_
    exact ⟨G.1,_,([G.1.cs]),Rl6,ef hs,ef hs,j,ef hs,h⟩
   refine sk [4,13] hs q ?_
   exact ⟨Q,_,([]),Rl6,ef hs,ef hs,j,ef hs,h⟩
  ·clear h;rintro e st ⟨d,g,Xk31,Rk31,rfl,rfl,j,V,h⟩
   rw [Dj] at h
   refine Ba (B.length+2) (by first | rfl | (simp only [CG,BK,BJ,Bl];rfl)) V ?_;simp +decide only [go_sem,Nat.reduceAdd]
   show Em _ _ _ _ _ _ _ _ [(4,true,.box B.length 0),(13,true,.box (B.length+2) 0)] ⟨B++([[Am 0,Am 0,.val (.string (⟨#[]⟩:ByteArray)),.list ([]) .full,.list ([]) .full],Am i.1.1::(.val (.string i.1.2.1)::(Am i.1.2.2.1::((i.1.2.2.2.1.cs)++([.list (i.1.2.2.2.2.map BZ) .none])))),d.cs]++Xk31),Rk31,L⟩
   refine td E k l b j ?_
   refine rg [4,5,6] hs ?_
   exact rt h hs b j
 ·clear h;rintro e st ⟨Xk3,Rk3,rfl,rfl,j,h⟩
  rw [Cf] at h
  refine td E k l b j ?_
  refine rg [4,5,6] hs ?_
  exact rt h hs b j
def Bo (n:Nat) (b:List Part) (h:List Part):Option Bool :=
 if decide (0<(b.length:Int)) then
  (DR n h b).bind fun g =>
  some (g)
 else
  some (false)
theorem J6 (w0:World) (n:Nat) (B:As) (Rw:Ax) (L:Aw) (a0:List Part) (la1:Nat) (a1:List Part) (hla1:B[la1]? = some ([.list (a1.map AO) .none])) (r:Bool) (h:Bo n a0 a1=some r) :
  ACalls Tryz.prog w0 163 [.list (a0.map AO) .none,.box la1 0] ⟨B,Rw,L⟩ fun x st=>x = .val (.bool r)∧st=⟨B,Rw,L⟩:=by
 rw [Bo] at h
 refine hd [.tmp 3] Tryz.func163 Tryz.ntmps163 fun M0 W0 f e d b i g hs=>?_
 simp only [AB]
 have c:=(Ak.1 hla1).1
 have hs:=Ae (An hla1) hs
 exact go (tg (a:=([0,1],([3],()),[3],()))) h hs f e d b g (q1 (DX w0 n)) trivial
def Da (rec:Ty→Option Bool) (b:Int × ByteArray × Int × Ty × List Vl):Option Bool :=
 if decide (b.2.2.1=3) then
  some (true)
 else
  (rec b.2.2.2.1).bind fun g =>
  some (g)
theorem OI (w0:World) (rec:Ty→Option Bool) (ih:∀ (B:As) (Rw:Ax) (L:Aw) (a0:Ty) (r:Bool) (h:rec a0=some r),ACalls Tryz.prog w0 166 [.agg (a0.cs)] ⟨B,Rw,L⟩ fun x st=>x = .val (.bool r)∧st=⟨B,Rw,L⟩) (B:As) (Rw:Ax) (L:Aw) (a0:Int × ByteArray × Int × Ty × List Vl) (r:Bool) (h:Da rec a0=some r) :
  ACalls Tryz.prog w0 246 [.agg (Am a0.1::(.val (.string a0.2.1)::(Am a0.2.2.1::((a0.2.2.2.1.cs)++([.list (a0.2.2.2.2.map BZ) .none])))))] ⟨B,Rw,L⟩ fun x st=>x = .val (.bool r)∧st=⟨B,Rw,L⟩:=by
 rw [Da] at h
 refine hd [.tmp 2] Tryz.func246 Tryz.ntmps246 fun M0 W0 e d c b g f hs=>?_
 simp only [AB]
 exact go (tg (a:=([1],([2],()),[2],()))) h hs e d c b f (q1 ih) trivial
end Go.Proofs.YtmcnjijeocmkgaaGreatDoor
