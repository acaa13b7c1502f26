/-
  Part 2 of the proof: rules and walks that the claim's last text uses.
-/
import Derived.Attr
import Derived.Laws.BytesArg
import Derived.Laws.IdiomStrings
import Derived.Laws.MakeOwn
import Derived.Laws.Runes
import Derived.Lib.ConvBytes
import Derived.OrdersIn
import Derived.RangeFuncIn
import Derived.StillTail
import Derived.Test.YtmcnjijeocmkgaaGreatDoorLh1
set_option linter.unusedSimpArgs false
set_option linter.unusedVariables false
set_option maxRecDepth 100000
set_option maxHeartbeats 4000000
namespace Go.Ev
open Go Go.RowKit
section
variable {P:Program} {w0:World} {n:Nat} {M:Mem} {e:Env} {st:St} {a:Act} {w:World}
def flat (us:Nat→Value) (m:Nat):List Value:=(List.range m).flatMap fun i=>(us i).cells.toList
theorem Xr (us:Nat→Value) (m:Nat):flat us (m+1)=flat us m++(us m).cells.toList:=by
 simp [flat,List.range_succ]
theorem A1 {us:Nat→Value} {sz:Nat}:∀ {m:Nat},(∀ i,i<m→(us i).cells.size=sz)→(flat us m).length=m*sz
 | 0,_=>by simp [flat]
 | m+1,h=>by
  rw [Xr,List.length_append,A1 (fun i a=>h i (by omega)),Array.length_toList,h m (by omega),Nat.succ_mul]
theorem Jf {us:Nat→Value} {sz:Nat}:∀ {m:Nat},(∀ i,i<m→(us i).cells.size=sz)→∀ i,i<m→∀ j,j<sz→(flat us m)[i*sz+j]? = (us i).cells[j]?
 | 0,_,i,a,_,_=>absurd a (by omega)
 | m+1,h,i,a,j,hj=>by
  have b:=A1 (us:=us) (m:=m) (fun i a=>h i (by omega))
  rw [Xr,List.getElem?_append,b]
  by_cases c:i=m
  ·subst c
   rw [Aa,show i*sz+j-i*sz=j from by omega,Array.getElem?_toList]
  ·have d:(i+1)*sz≤m*sz:=Nat.mul_le_mul_right _ (by omega)
   rw [Nat.succ_mul] at d
   rw [Ab]
   exact Jf (fun i a=>h i (by omega)) i (by omega) j hj
theorem GE {us:Nat→Value} {sz m:Nat} (hs:∀ i,i<m→(us i).cells.size=sz) {b off:Nat} (hsz:0<sz) (hc:∀ i,i<m→∀ j,j<sz→w.cell? ⟨b,off+i*sz+j,none⟩=(us i).cells[j]?) :
  ∀ j u,(flat us m)[j]? = some u→w.cell? ((⟨b,off,none⟩:Addr).add j)=some u:=by
 intro j u f
 have k:=A1 hs
 have l:j<m*sz:=by rw [←k];exact (Ak.1 f).1
 have e:=Nat.div_add_mod j sz
 have g:j / sz<m:=(Nat.div_lt_iff_lt_mul hsz).2 l
 have a:=Nat.mod_lt j hsz
 have c:=Jf hs (j / sz) g (j % sz) a
 have h:=hc (j / sz) g (j % sz) a
 have d:j / sz*sz+j % sz=j:=by rw [Nat.mul_comm];exact e
 rw [d] at c
 rw [Nat.add_assoc,d] at h
 rw [E0,h,←c,f]
theorem R.list_open {v:Value} {xs:List AV} {o:Own} {sz:Nat} (h:R w0 M w v (.list xs o)) (hs:∀ y∈xs,y.cells.length=sz) :
  ∃ us:Nat→Value,(∀ i (hi:i<xs.length),(us i).cells.size=sz∧R w0 M w (us i) xs[i]) ∧
   (((v = .slice none 0 0∨∃ ad,v = .slice (some ad) 0 0)∧xs=[]∧∀ id,o ≠ .row id)∨∃ b off cap sz',v = .slice (some ⟨b,off,none⟩) xs.length cap∧xs.length≤cap∧cap≤maxLen∧ZfM M b off cap xs.length sz' o ∧
    ∀ i,i<xs.length→∀ j,j<sz→w.cell? ⟨b,off+i*sz+j,none⟩=(us i).cells[j]?):=by
 cases h with
 | nil ho=>exact ⟨fun _=>undef,fun i hi=>absurd hi (by simp),.inl ⟨.inl rfl,rfl,ho⟩⟩
 | emp ho=>exact ⟨fun _=>undef,fun i hi=>absurd hi (by simp),.inl ⟨.inr ⟨_,rfl⟩,rfl,ho⟩⟩
 | @list b off cap _ _ sz' us hc hm hcell hu ho =>
  have a:∀ i (hi:i<xs.length),(us i).cells.size=sz:=fun i hi=>by rw [(hu i hi).cells.1];exact hs _ (List.getElem_mem _)
  refine ⟨us,fun i hi=>⟨a i hi,hu i hi⟩,.inr ⟨b,off,cap,sz',rfl,hc,hm,ho,fun i hi j c=>?_⟩⟩
  have e:sz'=sz:=by rw [←(hcell i hi).1,a i hi]
  subst e
  exact ((hcell i hi).2 j c).2
theorem ZG {us:Nat→Value} {xs:List AV} {sz:Nat} (hu:∀ i (hi:i<xs.length),(us i).cells.size=sz∧R w0 M w (us i) xs[i]) (hn:∀ y∈xs,A3 y=true):∀ u∈flat us xs.length,u.oneCell'=true:=by
 intro u g
 obtain ⟨i,hi,b⟩:=List.mem_flatMap.1 g
 have a:i<xs.length:=List.mem_range.1 hi
 obtain ⟨hs,d⟩:=hu i a
 obtain ⟨k,f,rfl⟩:=List.getElem_of_mem b
 simp only [Array.length_toList] at f
 rw [Array.getElem_toList]
 have c:=d.cellsOne (fun vs e=>by have:=hn _ (List.getElem_mem a);rw [e] at this;cases this)
 exact (d.cells.2 k f (by rw [←d.cells.1];exact f)).oneCell (c _ (List.getElem_mem _))
def Mem.addRow (M:Mem) (b cap k sz tp:Nat):Mem :=
  { M with NR:=M.NR+1,fr:=fun i=>if i=M.NR then k else M.fr i,blk:=fun i=>if i=M.NR then b else M.blk i,cap:=fun i=>if i=M.NR then cap else M.cap i,
           rsz:=fun i=>if i=M.NR then sz else M.rsz i,top:=fun x=>if x=b then tp else M.top x }
def Mem.growRow (M:Mem) (id b cap k tp:Nat):Mem :=
 { M with fr:=fun i=>if i=id then k else M.fr i,blk:=fun i=>if i=id then b else M.blk i,cap:=fun i=>if i=id then cap else M.cap i,top:=fun x=>if x=b then tp else M.top x }
theorem RelSt.addRow' (h:RelSt w0 M st w) {cs:Array Value} {ty:TypeId} {cap k sz tp:Nat} {x:RowA}
  (hnew:Ext w0 M w (M.addRow w.heap.size cap k sz tp) (w.alloc (.cells cs ty))→(∀ l,l<M.N→M.bx l≠w.heap.size)→RowOk w0 (M.addRow w.heap.size cap k sz tp) (w.alloc (.cells cs ty)) M.NR x) :
  RelSt w0 (M.addRow w.heap.size cap k sz tp) { st with rows:=st.rows++[x] } (w.alloc (.cells cs ty))∧Ext w0 M w (M.addRow w.heap.size cap k sz tp) (w.alloc (.cells cs ty)):=by
 have f:∀ b,b<w.heap.size→(M.addRow w.heap.size cap k sz tp).top b=M.top b:=fun b q=>by simp [Mem.addRow];omega
 have a:∀ i,i<M.NR→(M.addRow w.heap.size cap k sz tp).fr i=M.fr i∧(M.addRow w.heap.size cap k sz tp).blk i=M.blk i∧(M.addRow w.heap.size cap k sz tp).cap i=M.cap i∧(M.addRow w.heap.size cap k sz tp).rsz i=M.rsz i:=by
  intro i p
  have:¬ i=M.NR:=by omega
  simp [Mem.addRow,this]
 have g:Ext w0 M w (M.addRow w.heap.size cap k sz tp) (w.alloc (.cells cs ty)) :=
  RB _ _ (.inl rfl) (fun _ _=>rfl) (Nat.le_succ _) (fun i p=>by obtain ⟨a1,a2,a3,a4⟩:=a i p;exact ⟨by omega,fun _=>⟨a2,a3,a4⟩⟩) (fun b q=>by rw [f b q];exact Nat.le_refl _)
 have t:∀ l,l<M.N→M.bx l≠w.heap.size:=fun l s=>by have:=h.box_lt s;omega
 refine ⟨⟨h.below.alloc h.base_le _,h.N,by simp [Mem.addRow,h.NR],fun b q=>?_,h.inj,fun l c s=>?_,fun id y hid=>?_,fun i j p H d=>?_,h.loop.mono g rfl (KeepsObj.alloc _ _)⟩,g⟩
 ·simp at q
  have:(M.addRow w.heap.size cap k sz tp).top b=M.top b:=by simp [Mem.addRow];omega
  rw [this]
  exact h.top b (by omega)
 ·obtain ⟨a1,a2,F,r,a3,a4,a5,a6⟩:=h.box l c s
  have n:=(Array.getElem?_eq_some_iff.1 a3).1
  exact ⟨a1,by rw [show (M.addRow w.heap.size cap k sz tp).bx l=M.bx l from rfl,f _ n];exact a2,F,r,by rw [show (M.addRow w.heap.size cap k sz tp).bx l=M.bx l from rfl,Bq _ _ n];exact a3,a4,a5,fun i E z=>(a6 i E z).mono g⟩
 ·by_cases e1:id=M.NR
  ·subst e1
   simp only [h.NR,List.getElem?_concat_length,Option.some.injEq] at hid
   subst hid
   exact hnew g t
  ·have e:id<M.NR:=by
    have:id<(st.rows++[x]).length:=(Ak.1 hid).1
    have u:=h.NR
    simp at this
    omega
   rw [List.getElem?_append_left (by rw [←h.NR];exact e)] at hid
   have o:=h.row id y hid
   obtain ⟨G,v,D,C⟩:=a id e
   exact o.keep g G C v D (f _ o.lt) o.ne (Bq _ _ o.lt)
 ·have u:(M.addRow w.heap.size cap k sz tp).NR=M.NR+1:=rfl
  rw [u] at p H
  have m:(M.addRow w.heap.size cap k sz tp).blk M.NR=w.heap.size:=by simp [Mem.addRow]
  by_cases e1:i=M.NR
  ·by_cases e2:j=M.NR
   ·omega
   ·subst e1
    rw [m,(a j (by omega)).2.1] at d
    have:=h.row_lt (i:=j) (by omega)
    omega
  ·by_cases e2:j=M.NR
   ·subst e2
    rw [m,(a i (by omega)).2.1] at d
    have:=h.row_lt (i:=i) (by omega)
    omega
   ·rw [(a i (by omega)).2.1,(a j (by omega)).2.1] at d
    exact h.rowinj i j (by omega) (by omega) d
theorem RelSt.addRow (h:RelSt w0 M st w) {cs:Array Value} {ty:TypeId} {cap k sz:Nat} (hm:cap≤maxLen) (hk:k≤cap) (hs:cs.size=cap*sz) :
  RelSt w0 (M.addRow w.heap.size cap k sz (k*sz)) { st with rows:=st.rows++[.grow k sz] } (w.alloc (.cells cs ty))∧Ext w0 M w (M.addRow w.heap.size cap k sz (k*sz)) (w.alloc (.cells cs ty)) :=
 h.addRow' fun _ a=>by
  have q:(M.addRow w.heap.size cap k sz (k*sz)).fr M.NR=k∧(M.addRow w.heap.size cap k sz (k*sz)).blk M.NR=w.heap.size∧(M.addRow w.heap.size cap k sz (k*sz)).cap M.NR=cap∧(M.addRow w.heap.size cap k sz (k*sz)).rsz M.NR=sz∧(M.addRow w.heap.size cap k sz (k*sz)).top w.heap.size=k*sz:=by simp [Mem.addRow]
  obtain ⟨q1,q2,q3,b,c⟩:=q
  simp only [RowOk,q1,q2,q3,b,c]
  exact ⟨trivial,trivial,h.base_le,trivial,a,hm,hk,cs,ty,heap_alloc_new w _,hs⟩
theorem RelSt.addVec (h:RelSt w0 M st w) {cs:Array Value} {ty:TypeId} {cap sz:Nat} {xs:List AV} (hm:cap≤maxLen) (hz:0<sz) (hs:cs.size=cap*sz) (hl:xs.length≤cs.size) (h1:∀ x∈xs,x.one=true) (hR:∀ (i:Nat) (v:Value) (x:AV),cs[i]? = some v→xs[i]? = some x→R w0 M w v x) :
  RelSt w0 (M.addRow w.heap.size cap 0 sz 0) { st with rows:=st.rows++[.vec 0 sz xs] } (w.alloc (.cells cs ty))∧Ext w0 M w (M.addRow w.heap.size cap 0 sz 0) (w.alloc (.cells cs ty)) :=
 h.addRow' fun e c=>by
  have q:(M.addRow w.heap.size cap 0 sz 0).fr M.NR=0∧(M.addRow w.heap.size cap 0 sz 0).blk M.NR=w.heap.size∧(M.addRow w.heap.size cap 0 sz 0).cap M.NR=cap∧(M.addRow w.heap.size cap 0 sz 0).rsz M.NR=sz∧(M.addRow w.heap.size cap 0 sz 0).top w.heap.size=0:=by simp [Mem.addRow]
  obtain ⟨q1,q2,q3,d,f⟩:=q
  simp only [RowOk,q1,q2,q3,d,f]
  exact ⟨trivial,trivial,h.base_le,trivial,c,hm,hz,cs,ty,heap_alloc_new w _,hs,hl,h1,fun i a b=>(hR i _ _ (Array.getElem?_eq_getElem a) (List.getElem?_eq_getElem b)).mono e⟩
theorem RelSt.growRow' (h:RelSt w0 M st w) {id:Nat} {x0 x:RowA} (hid:st.rows[id]? = some x0) {w':World} {b cap k tp:Nat} (hbelow:Below w0.heap.size w w')
  (hsize:w.heap.size≤w'.heap.size) (hbw:b<w'.heap.size) (hbox:∀ l,l<M.N→M.bx l≠b∧w'.heap[M.bx l]? = w.heap[M.bx l]?) (hrow:∀ i,i<M.NR→i≠id→M.blk i≠b∧w'.heap[M.blk i]? = w.heap[M.blk i]?)
  (hnew:RowOk w0 (M.growRow id b cap k tp) w' id x) (hx:Ext w0 M w (M.growRow id b cap k tp) w') (hko:KeepsObj w w') :
  RelSt w0 (M.growRow id b cap k tp) { st with rows:=st.rows.set id x } w':=by
 have e:id<st.rows.length:=(Ak.1 hid).1
 refine ⟨h.below.trans hbelow,h.N,by simp [Mem.growRow,h.NR],fun y C=>?_,h.inj,fun l c r=>?_,fun i y hi=>?_,fun i j hi n a=>?_,h.loop.mono hx rfl hko⟩
 ·have:(M.growRow id b cap k tp).top y=M.top y:=by simp [Mem.growRow];omega
  rw [this]
  exact h.top y (by omega)
 ·obtain ⟨a1,a2,u,o,a3,a4,a5,a6⟩:=h.box l c r
  have p:l<M.N:=by rw [h.N];exact (Ak.1 r).1
  obtain ⟨f,g⟩:=hbox l p
  refine ⟨a1,?_,u,o,by rw [show (M.growRow id b cap k tp).bx l=M.bx l from rfl,g];exact a3,a4,a5,fun i f g=>(a6 i f g).mono hx⟩
  show (M.growRow id b cap k tp).top (M.bx l)=0
  simp [Mem.growRow,f,a2]
 ·by_cases e1:i=id
  ·subst e1
   rw [List.getElem?_set_self e] at hi
   cases hi
   exact hnew
  ·rw [List.getElem?_set_ne (Ne.symm e1)] at hi
   have m:i<M.NR:=by rw [h.NR];exact (Ak.1 hi).1
   have s:=h.row i y hi
   obtain ⟨f,g⟩:=hrow i m e1
   have q:(M.growRow id b cap k tp).fr i=M.fr i∧(M.growRow id b cap k tp).blk i=M.blk i∧(M.growRow id b cap k tp).cap i=M.cap i∧(M.growRow id b cap k tp).rsz i=M.rsz i∧(M.growRow id b cap k tp).top (M.blk i)=M.top (M.blk i):=by simp [Mem.growRow,e1,f]
   obtain ⟨q1,q2,q3,t,z⟩:=q
   exact s.keep hx q1 t q2 q3 z s.ne g
 ·have d:∀ j,(M.growRow id b cap k tp).blk j=if j=id then b else M.blk j:=fun j=>rfl
  rw [d,d] at a
  have v:(M.growRow id b cap k tp).NR=M.NR:=rfl
  rw [v] at hi n
  by_cases e1:i=id
  ·by_cases e2:j=id
   ·omega
   ·rw [Ai e1,Aj e2] at a
    exact absurd a.symm (hrow j n e2).1
  ·by_cases e2:j=id
   ·rw [Aj e1,Ai e2] at a
    exact absurd a (hrow i hi e1).1
   ·rw [Aj e1,Aj e2] at a
    exact h.rowinj i j hi n a
theorem RelSt.growRow (h:RelSt w0 M st w) {id:Nat} {k0 sz:Nat} (hid:st.rows[id]? = some (.grow k0 sz)) {w':World} {b cap k:Nat} (hb0:w0.heap.size≤b) (hbelow:Below w0.heap.size w w')
  (hsize:w.heap.size≤w'.heap.size) (hbw:b<w'.heap.size) (hm:cap≤maxLen) (hk:k≤cap) (hbox:∀ l,l<M.N→M.bx l≠b∧w'.heap[M.bx l]? = w.heap[M.bx l]?) (hrow:∀ i,i<M.NR→i≠id→M.blk i≠b∧w'.heap[M.blk i]? = w.heap[M.blk i]?)
  {cs:Array Value} {ty:TypeId} (hcs:w'.heap[b]? = some (.cells cs ty (0,0))) (hs:cs.size=cap*sz) (hx:Ext w0 M w (M.growRow id b cap k (k*sz)) w') (hko:KeepsObj w w') :
  RelSt w0 (M.growRow id b cap k (k*sz)) { st with rows:=st.rows.set id (.grow k sz) } w':=by
 refine h.growRow' hid hbelow hsize hbw hbox hrow ?_ hx hko
 have q:(M.growRow id b cap k (k*sz)).fr id=k∧(M.growRow id b cap k (k*sz)).blk id=b∧(M.growRow id b cap k (k*sz)).cap id=cap∧(M.growRow id b cap k (k*sz)).rsz id=M.rsz id∧(M.growRow id b cap k (k*sz)).top b=k*sz:=by simp [Mem.growRow]
 obtain ⟨q1,q2,q3,a,c⟩:=q
 simp only [RowOk,q1,q2,q3,a,c]
 exact ⟨trivial,(h.row id _ hid).2.1,hb0,trivial,fun l d=>(hbox l d).1,hm,hk,cs,ty,hcs,hs⟩
def YX (us ux:Nat→Value) (k:Nat):Nat→Value:=fun i=>if i<k then us i else ux (i-k)
theorem ZbA {us ux:Nat→Value} {xs ys:List AV} {sz:Nat} {M':Mem} {w':World} (hx:Ext w0 M w M' w') (h1:∀ i (hi:i<xs.length),(us i).cells.size=sz∧R w0 M w (us i) xs[i]) (h2:∀ i (hi:i<ys.length),(ux i).cells.size=sz∧R w0 M w (ux i) ys[i]) :
  ∀ i (hi:i<(xs++ys.map AV.pub).length),(YX us ux xs.length i).cells.size=sz∧R w0 M' w' (YX us ux xs.length i) (xs++ys.map AV.pub)[i]:=by
 intro i hi
 unfold YX
 by_cases c:i<xs.length
 ·rw [Ai c,List.getElem_append_left c]
  exact ⟨(h1 i c).1,((h1 i c).2).mono hx⟩
 ·simp at hi
  rw [Aj c,List.getElem_append_right (by omega),List.getElem_map]
  exact ⟨(h2 _ (by omega)).1,((h2 _ (by omega)).2).pub.mono hx⟩
theorem ZaJ {us ux:Nat→Value} {k m sz:Nat} (hs:∀ i,i<k→(us i).cells.size=sz) (hx:∀ i,i<m→(ux i).cells.size=sz) (zs:List Value) :
  ∀ i,i<k+m→∀ j,j<sz→(flat us k++flat ux m++zs)[i*sz+j]? = (YX us ux k i).cells[j]? := by
 intro i f j a
 have d:=A1 hs
 have b:=A1 hx
 rw [List.append_assoc,List.getElem?_append,d]
 unfold YX
 by_cases c:i<k
 ·have q:(i+1)*sz≤k*sz:=Nat.mul_le_mul_right _ c
  rw [Nat.succ_mul] at q
  rw [Ab,Ai c]
  exact Jf hs i c j a
 ·have q:k*sz≤i*sz:=Nat.mul_le_mul_right _ (by omega)
  have q2:(i-k+1)*sz≤m*sz:=Nat.mul_le_mul_right _ (by omega)
  rw [Nat.succ_mul] at q2
  have e:i*sz=k*sz+(i-k)*sz:=by rw [←Nat.add_mul];congr 1;omega
  rw [Aa,Aj c,List.getElem?_append,b,Ab,show i*sz+j-k*sz=(i-k)*sz+j from by omega]
  exact Jf hx (i-k) (by omega) j a
theorem Z0 (t ty el:TypeId) {sz:Nat} {ag:Bool} (ht:P.underlying t=some (.slice el)) (hty:HY P el=some (sz,ag)) (g k cap:Nat) (cur:Array Value) (te:TypeId) (hg:w.heap[g]? = some (.cells cur te (0,0)))
  {x:Value} {m:Nat} (hlen:(Builtin.lenOf x).run P w = .ok m w) (news:List Value) (hf:(Builtin.firstCells sz m x).run P w = .ok news.toArray w) (h1:∀ u∈news,u.oneCell'=true)
  (hroom:k+m≤cap) (hfit:k*sz+news.length≤cur.size) :
  (Builtin.append_ #[t,t] ty #[.slice (some ⟨g,0,none⟩) k cap,x]).run P w =
   .ok (.slice (some ⟨g,0,none⟩) (k+m) cap) (w.setRow g (cur.toList.take (k*sz)++news++cur.toList.drop (k*sz+news.length)).toArray):=by
 have b:=run_storeCells_at P g (k*sz) te news 0 cur w hg (by simpa using hfit) h1
 simp only [Nat.add_zero] at b
 obtain ⟨i,d,c,hsz,_,_⟩:=L8 hty
 subst hsz
 have a:(⟨g,0,none⟩:Addr).add (k*i.size)=⟨g,k*i.size,none⟩:=by rw [E0,Nat.zero_add]
 simp [Builtin.append_,run_underlying ht,sizeOf,typeInfo,c,hlen,hroom,hf,a,b]
theorem Pv {ys:List AV} {sz:Nat} (hs:∀ y∈ys,y.cells.length=sz):(ys.flatMap fun y=>y.pub.cells).length=ys.length*sz:=by
 induction ys with
 | nil=>simp
 | cons y ys ih =>
  rw [List.flatMap_cons,List.length_append,ih (fun z a=>hs z (by simp [a])),AV.pub_cells_length,hs y (by simp),List.length_cons,Nat.succ_mul]
  omega
theorem Zez {sz:Nat}:∀ (ys:List AV),(∀ y∈ys,y.cells.length=sz)→∀ i y,ys[i]? = some y→∀ k,k<sz→(ys.flatMap fun y=>y.pub.cells)[i*sz+k]? = y.pub.cells[k]?
 | [],_,i,y,h,_,_=>by simp at h
 | x::ys,hs,0,y,h,k,hk=>by
  simp only [List.getElem?_cons_zero,Option.some.injEq] at h
  subst h
  rw [List.flatMap_cons,Nat.zero_mul,Nat.zero_add,List.getElem?_append_left (by rw [AV.pub_cells_length,hs x (by simp)];exact hk)]
 | x::ys,hs,i+1,y,h,k,hk=>by
  have a:x.pub.cells.length=sz:=by rw [AV.pub_cells_length];exact hs x (by simp)
  rw [List.flatMap_cons,List.getElem?_append_right (by rw [a,Nat.succ_mul];omega),a,show (i+1)*sz+k-sz=i*sz+k from by rw [Nat.succ_mul];omega]
  exact Zez ys (fun z b=>hs z (by simp [b])) i y (by simpa using h) k hk
theorem Zbi {ux:Nat→Value} {ys:List AV} (hu:∀ i (hi:i<ys.length),R w0 M w (ux i) ys[i]) (hn:∀ y∈ys,A3 y=true):∀ x∈ys.flatMap (fun y=>y.pub.cells),x.one=true:=by
 intro x c
 obtain ⟨y,b,a⟩:=List.mem_flatMap.1 c
 obtain ⟨i,hi,rfl⟩:=List.mem_iff_getElem.1 b
 refine ((hu i hi).pub).cellsOne (fun vs e=>?_) x a
 have:=hn _ b
 cases h:ys[i]<;>rw [h] at e this<;>first | (cases this;done) | (cases e;done)
theorem Zjs {ux:Nat→Value} {ys:List AV} {sz:Nat} (hz:0<sz) (hu:∀ i (hi:i<ys.length),(ux i).cells.size=sz∧R w0 M w (ux i) ys[i]) (hs:∀ y∈ys,y.cells.length=sz) {j:Nat} {v:Value} {x:AV} (hv:(flat ux ys.length)[j]? = some v) (hx:(ys.flatMap fun y=>y.pub.cells)[j]? = some x):R w0 M w v x:=by
 have g:j<ys.length*sz:=by rw [←Pv hs];exact (Ak.1 hx).1
 have hi:j / sz<ys.length:=(Nat.div_lt_iff_lt_mul hz).2 g
 have c:=Nat.mod_lt j hz
 have e:j / sz*sz+j % sz=j:=by rw [Nat.mul_comm];exact Nat.div_add_mod j sz
 have a:=Jf (us:=ux) (sz:=sz) (fun i hi=>(hu i hi).1) (j / sz) hi (j % sz) c
 have b:=Zez ys hs (j / sz) _ (List.getElem?_eq_getElem hi) (j % sz) c
 rw [e] at a b
 rw [hv] at a
 rw [hx] at b
 obtain ⟨_,d⟩:=((hu _ hi).2).pub.cells
 obtain ⟨q1,q2⟩:=Array.getElem?_eq_some_iff.1 a.symm
 obtain ⟨q3,f⟩:=Ak.1 b.symm
 rw [←q2,←f]
 exact d _ q1 q3
theorem Zdv (h:Rel w0 n M e st a w) (s x:Operand) (t ty:TypeId) (hs:AP e true s) (hx:AP e true x) (hob:(BP P st t (AC e s) (AC e x)).1) :
  Yields' P w0 M (BP P st t (AC e s) (AC e x)).2.2 (BP P st t (AC e s) (AC e x)).2.1 w (do pure (.value (← Builtin.append_ #[t,t] ty #[a.eval s,a.eval x]))):=by
 have hRs:=A5 h hs
 have hRx:=A5 h hx
 generalize AC e s=S at hRs hob ⊢
 generalize AC e x=X at hRx hob ⊢
 generalize a.eval s=vs at hRs ⊢
 generalize a.eval x=vx at hRx ⊢
 unfold BP at hob ⊢
 cases he:Mc P t with
 | none=>simp [he] at hob
 | some p =>
  obtain ⟨el,sz,ag,bo⟩:=p
  simp only [he] at hob ⊢
  obtain ⟨f,hu,m,a4,ba⟩:=Gm he
  have r:f.size=sz:=by
   obtain ⟨i',d,h1,h2,_⟩:=L8 ba
   rw [m] at h1;cases h1;exact h2
  cases S with
  | list xs o =>
   have a2:(A0 X).length=0→BD X=true→Yields' P w0 M st (.list xs o) w (do pure (.value (← Builtin.append_ #[t,t] ty #[vs,vx]))):=by
    intro ah lx
    obtain ⟨ys,o',rfl⟩:=IE lx
    simp only [A0] at ah
    have:ys=[]:=List.length_eq_zero_iff.1 ah
    subst this
    refine .here h.st (v:=vs) ?_ hRs
    have bh:(Builtin.lenOf vx).run P w = .ok 0 w∧(Builtin.firstCells sz 0 vx).run P w = .ok #[] w:=by
     cases hRx with
     | nil _=>exact ⟨rfl,rfl⟩
     | emp _=>exact ⟨rfl,by simp [Builtin.firstCells,loadCells,loadCellsFrom]⟩
     | list=>exact ⟨rfl,by simp [Builtin.firstCells,loadCells,loadCellsFrom]⟩
    obtain ⟨bf,be⟩:=bh
    have a9:∀ (ad:Option Addr) (ln cap:Nat),ln≤cap→(Builtin.append_ #[t,t] ty #[.slice ad ln cap,vx]).run P w = .ok (.slice ad ln cap) w:=fun ad ln cap Z=>by
     cases ad with
     | none=>simp [Builtin.append_,run_underlying hu,sizeOf,typeInfo,m,r,bf,be,Z]
     | some ad=>simp [Builtin.append_,run_underlying hu,sizeOf,typeInfo,m,r,bf,be,Z,storeCells]
    cases hRs with
    | nil _=>exact a9 none 0 0 (Nat.le_refl _)
    | emp _=>exact a9 _ 0 0 (Nat.le_refl _)
    | list sz us hc=>exact a9 _ _ _ hc
   cases o with
   | none=>exact hob.elim
   | full =>
   simp only at hob ⊢
   by_cases ah:(A0 X).length=0
   ·rw [Ai ah] at hob ⊢
    exact a2 ah hob.1
   rw [Aj ah] at hob ⊢
   obtain ⟨lx,⟨K,hz,H,ay,cx⟩,cs⟩:=hob
   obtain ⟨ys,o',rfl⟩:=IE lx
   simp only [A0] at *
   have hpos:0<ys.length:=by omega
   obtain ⟨z,ar⟩:=Option.isSome_iff_exists.1 hz
   obtain ⟨i',v,hi',hv,hc,af,rfl⟩:=Ey ar
   rw [m] at hi';cases hi'
   obtain ⟨us,u1,u2⟩:=hRs.list_open cs
   obtain ⟨ux,x1,x2⟩:=hRx.list_open (fun y hy=>(cx y hy).1)
   have ak:∀ i,i<xs.length→(us i).cells.size=sz:=fun i m=>(u1 i m).1
   have g:∀ i,i<ys.length→(ux i).cells.size=sz:=fun i m=>(x1 i m).1
   rcases x2 with ⟨_,q,_⟩ | ⟨bx,ox,cx',_,rfl,_,_,_,hcx⟩
   ·subst q;exact absurd hpos (by simp)
   have J:=GE (w:=w) g K hcx
   have Q:xs.length+ys.length≤maxLen:=by simp [maxLen];omega
   have G:∀ (O:Nat) (zs:List Value) (cells:Array Value),cells.toList=flat us xs.length++flat ux ys.length++zs→zs.length=(grownCap w (xs.length+ys.length) O el-(xs.length+ys.length))*sz →
     (Builtin.append_ #[t,t] ty #[vs,.slice (some ⟨bx,ox,none⟩) ys.length cx']).run P w = .ok (.slice (some ⟨w.heap.size,0,none⟩) (xs.length+ys.length) (grownCap w (xs.length+ys.length) O el)) (w.drew.alloc (.cells cells el)) →
     Yields' P w0 M { st with rows:=st.rows++[.grow (xs.length+ys.length) sz] } (.list (xs++ys.map AV.pub) (.row st.rows.length)) w (do pure (.value (← Builtin.append_ #[t,t] ty #[vs,.slice (some ⟨bx,ox,none⟩) ys.length cx']))):=by
    intro O zs cells E bb hrun
    obtain ⟨d1,d2⟩:=h.st.drew
    have ab:=grownCap_ge w (xs.length+ys.length) O el
    have Z:=grownCap_le_maxLen w (xs.length+ys.length) O el Q
    have F:cells.size=grownCap w (xs.length+ys.length) O el*sz:=by
     have:cells.size=cells.toList.length:=by simp
     rw [this,E]
     simp only [List.length_append,A1 ak,A1 g,bb]
     rw [←Nat.add_mul,←Nat.add_mul]
     congr 1
     omega
    obtain ⟨r1,r2⟩:=d1.addRow (cs:=cells) (ty:=el) (sz:=sz) Z ab F
    have ai:=ZbA (w0:=w0) d2 u1 x1
    have C:(xs++ys.map AV.pub).length=xs.length+ys.length:=by simp
    have Y:=R.row (w0:=w0) (M:=M) (w:=w.drew) (us:=YX us ux xs.length) (xs:=xs++ys.map AV.pub) (cs:=cells) (ty:=el) (sz:=sz) (k:=(xs.length+ys.length)*sz) (cap:=grownCap w (xs.length+ys.length) O el) (o := .row st.rows.length) ai
     (fun i m j hj=>by
      rw [C] at m
      rw [←Array.getElem?_toList,E]
      exact ZaJ ak g zs i m j hj) (by rw [C];exact ab) Z (by rw [C];exact Nat.le_refl _) (M.addRow w.drew.heap.size (grownCap w (xs.length+ys.length) O el) (xs.length+ys.length) sz ((xs.length+ys.length)*sz)) (by simp [Mem.addRow]) r2
     (by
      have hN:=h.st.NR
      refine ⟨by simp [Mem.addRow,hN],by rw [C];simp [Mem.addRow,hN],fun _=>by simp [Mem.addRow,hN]⟩)
    rw [C] at Y
    exact .value ⟨_,_,_,hrun,d2.trans r2,r1,Y⟩
   have ae:(flat ux ys.length).length=ys.length*f.size:=by rw [A1 g,r]
   have aj:(xs.length+ys.length)*f.bytes≤140737488355328:=by rw [a4];exact H
   rcases u2 with ⟨rfl | ⟨ad,rfl⟩,q,_⟩ | ⟨bs,os,cps,sz',rfl,_,_,ho,hcs'⟩
   ·subst q
    simp only [List.length_nil,Nat.zero_add] at *
    have hrun:=run_append_nil (P:=P) w t ty el f v hu m hv ⟨bx,ox,none⟩ ys.length cx' (flat ux ys.length) ae J hpos (by omega) (by omega)
    refine G 0 (Builtin.zeroCells v.cells (grownCap w ys.length 0 el-ys.length)).toList _ ?_ ?_ hrun
    ·simp [flat]
    ·simp only [Array.length_toList,size_zeroCells,af,r]
   ·subst q
    simp only [List.length_nil,Nat.zero_add] at *
    have hrun:=run_append_grow (P:=P) w t ty el f v hu m hv ad 0 0 [] (by simp) (fun j u hu=>by simp at hu) ⟨bx,ox,none⟩ ys.length cx' (flat ux ys.length) ae J (by omega) (by rw [Nat.zero_add];omega) (growslice_fits (by omega) (by rw [Nat.zero_add];exact aj))
    simp only [Nat.zero_add] at hrun
    refine G 0 (Builtin.zeroCells v.cells (grownCap w ys.length 0 el-ys.length)).toList _ ?_ ?_ hrun
    ·simp [flat]
    ·simp only [Array.length_toList,size_zeroCells,af,r]
   ·have hcap:xs.length=cps:=ho
    have ap:=GE (w:=w) ak K hcs'
    have aw:(flat us xs.length).length=xs.length*f.size:=by rw [A1 ak,r]
    have hrun:=run_append_grow (P:=P) w t ty el f v hu m hv ⟨bs,os,none⟩ xs.length cps (flat us xs.length) aw ap ⟨bx,ox,none⟩ ys.length cx' (flat ux ys.length) ae J (by omega) (by omega) (growslice_fits (by omega) aj)
    refine G cps (Builtin.zeroCells v.cells (grownCap w (xs.length+ys.length) cps el-(xs.length+ys.length))).toList _ ?_ ?_ hrun
    ·simp
    ·simp only [Array.length_toList,size_zeroCells,af,r]
   | seed =>
   simp only at hob ⊢
   by_cases ah:(A0 X).length=0
   ·rw [Ai ah] at hob ⊢
    exact a2 ah hob.1
   rw [Aj ah] at hob ⊢
   obtain ⟨lx,⟨K,hz,H,ay,cx⟩,bi,hpos⟩:=hob
   obtain ⟨ys,o',rfl⟩:=IE lx
   have:xs=[]:=List.length_eq_zero_iff.1 bi
   subst this
   simp only [A0,Nat.zero_add] at *
   obtain ⟨z,ar⟩:=Option.isSome_iff_exists.1 hz
   obtain ⟨i',v,hi',hv,hc,af,rfl⟩:=Ey ar
   rw [m] at hi';cases hi'
   obtain ⟨ux,x1,x2⟩:=hRx.list_open (fun y hy=>(cx y hy).1)
   have g:∀ i,i<ys.length→(ux i).cells.size=sz:=fun i m=>(x1 i m).1
   rcases x2 with ⟨_,q,_⟩ | ⟨bx,ox,cx',_,rfl,_,_,_,hcx⟩
   ·subst q;exact absurd hpos (by simp)
   have J:=GE (w:=w) g K hcx
   have Q:ys.length≤maxLen:=by simp [maxLen];omega
   have ae:(flat ux ys.length).length=ys.length*f.size:=by rw [A1 g,r]
   have aj:ys.length*f.bytes≤140737488355328:=by rw [a4];exact H
   have G:∀ (O:Nat) (zs:List Value) (cells:Array Value),cells.toList=flat ux ys.length++zs→zs.length=(grownCap w ys.length O el-ys.length)*sz →
     (Builtin.append_ #[t,t] ty #[vs,.slice (some ⟨bx,ox,none⟩) ys.length cx']).run P w = .ok (.slice (some ⟨w.heap.size,0,none⟩) ys.length (grownCap w ys.length O el)) (w.drew.alloc (.cells cells el)) →
     Yields' P w0 M { st with rows:=st.rows++[.vec 0 sz (ys.flatMap fun y=>y.pub.cells)] } (.vec st.rows.length 0 0 ys.length) w (do pure (.value (← Builtin.append_ #[t,t] ty #[vs,.slice (some ⟨bx,ox,none⟩) ys.length cx']))):=by
    intro O zs cells E bb hrun
    obtain ⟨d1,d2⟩:=h.st.drew
    have ab:=grownCap_ge w ys.length O el
    have Z:=grownCap_le_maxLen w ys.length O el Q
    have F:cells.size=grownCap w ys.length O el*sz:=by
     have:cells.size=cells.toList.length:=by simp
     rw [this,E]
     simp only [List.length_append,A1 g,bb]
     rw [←Nat.add_mul]
     congr 1
     omega
    have a3:=Pv (fun y hy=>(cx y hy).1)
    obtain ⟨r1,r2⟩:=d1.addVec (cs:=cells) (ty:=el) (sz:=sz) (xs:=ys.flatMap fun y=>y.pub.cells) Z K F (by rw [F,a3];exact Nat.mul_le_mul_right _ ab) (Zbi (fun i m=>((x1 i m).2).mono d2) (fun y hy=>(cx y hy).2))
     (fun i v x aq ao=>by
      have bd:i<ys.length*sz:=by rw [←a3];exact (Ak.1 ao).1
      rw [←Array.getElem?_toList,E,List.getElem?_append_left (by rw [A1 g];exact bd)] at aq
      exact (Zjs K x1 (fun y hy=>(cx y hy).1) aq ao).mono d2)
    refine .value ⟨_,_,_,hrun,d2.trans r2,r1,?_⟩
    have hN:=h.st.NR
    refine .vec (by simp [Mem.addRow,hN]) (Nat.zero_le _) fun _=>⟨by simp [Mem.addRow,hN],by simp [Mem.addRow,hN],ab⟩
   (cases hRs with
   | nil ho =>
    have hrun:=run_append_nil (P:=P) w t ty el f v hu m hv ⟨bx,ox,none⟩ ys.length cx' (flat ux ys.length) ae J hpos (by omega) (by omega)
    refine G 0 (Builtin.zeroCells v.cells (grownCap w ys.length 0 el-ys.length)).toList _ ?_ ?_ hrun
    ·simp
    ·simp only [Array.length_toList,size_zeroCells,af,r]
   | @emp ad _ ho =>
    have hrun:=run_append_grow (P:=P) w t ty el f v hu m hv ad 0 0 [] (by simp) (fun j u hu=>by simp at hu) ⟨bx,ox,none⟩ ys.length cx' (flat ux ys.length) ae J (by omega) (by rw [Nat.zero_add];omega) (growslice_fits (by omega) (by rw [Nat.zero_add];exact aj))
    simp only [Nat.zero_add] at hrun
    refine G 0 (Builtin.zeroCells v.cells (grownCap w ys.length 0 el-ys.length)).toList _ ?_ ?_ hrun
    ·simp
    ·simp only [Array.length_toList,size_zeroCells,af,r]
   | @list b off cap _ _ sz' us hc' hm' hcell hu' ho =>
    have hcap:(0:Nat)=cap:=ho
    subst hcap
    have hrun:=run_append_grow (P:=P) w t ty el f v hu m hv ⟨b,off,none⟩ 0 0 [] (by simp) (fun j u hu=>by simp at hu) ⟨bx,ox,none⟩ ys.length cx' (flat ux ys.length) ae J (by omega) (by rw [Nat.zero_add];omega) (growslice_fits (by omega) (by rw [Nat.zero_add];exact aj))
    simp only [Nat.zero_add] at hrun
    refine G 0 (Builtin.zeroCells v.cells (grownCap w ys.length 0 el-ys.length)).toList _ ?_ ?_ hrun
    ·simp
    ·simp only [Array.length_toList,size_zeroCells,af,r])
   | row id =>
   simp only at hob ⊢
   obtain ⟨lx,⟨K,hz,H,ay,cx⟩,cs,am⟩:=hob
   obtain ⟨ys,o',rfl⟩:=IE lx
   simp only [A0] at *
   obtain ⟨z,ar⟩:=Option.isSome_iff_exists.1 hz
   obtain ⟨i',v,hi',hv,hc,af,rfl⟩:=Ey ar
   rw [m] at hi';cases hi'
   obtain ⟨us,u1,u2⟩:=hRs.list_open cs
   obtain ⟨ux,x1,x2⟩:=hRx.list_open (fun y hy=>(cx y hy).1)
   have ak:∀ i,i<xs.length→(us i).cells.size=sz:=fun i m=>(u1 i m).1
   have g:∀ i,i<ys.length→(ux i).cells.size=sz:=fun i m=>(x1 i m).1
   have U:id<M.NR:=by rw [h.st.NR];exact (Ak.1 am).1
   obtain ⟨f1,f2,f3,f4,f5,f6,f7,cur,te,f8,f9⟩:=h.st.row id _ am
   rcases u2 with ⟨_,_,q⟩ | ⟨bs,os,cps,sz',rfl,_,_,ho,hcs'⟩
   ·exact absurd rfl (q id)
   obtain ⟨_,_,bk⟩:=ho
   obtain ⟨e1,e2,e3,_⟩:=bk f1.symm
   subst e1;subst e2;subst e3
   have C:(xs++ys.map AV.pub).length=xs.length+ys.length:=by simp
   have bc:(Builtin.lenOf vx).run P w = .ok ys.length w:=by
    rcases x2 with ⟨rfl | ⟨_,rfl⟩,q,_⟩ | ⟨bx,ox,cx',_,rfl,_⟩
    ·subst q;rfl
    ·subst q;rfl
    ·rfl
   have ae:(flat ux ys.length).length=ys.length*f.size:=by rw [A1 g,r]
   have au:(Builtin.firstCells sz ys.length vx).run P w = .ok (flat ux ys.length).toArray w:=by
    rcases x2 with ⟨rfl | ⟨_,rfl⟩,q,_⟩ | ⟨bx,ox,cx',_,rfl,_,_,_,hcx⟩
    ·subst q;rfl
    ·subst q;simp [Builtin.firstCells,loadCells,loadCellsFrom,flat]
    ·exact run_firstCells_some w sz ys.length ⟨bx,ox,none⟩ ys.length cx' (flat ux ys.length) (A1 g) (GE (w:=w) g K hcx)
   by_cases hroom:xs.length+ys.length≤M.cap id
   ·-- there is room
    have a1:xs.length*sz+(flat ux ys.length).length≤cur.size:=by rw [A1 g,f9,←Nat.add_mul];exact Nat.mul_le_mul_right _ hroom
    have hrun:=Z0 (P:=P) (w:=w) t ty el hu ba (M.blk id) xs.length (M.cap id) cur te f8 bc (flat ux ys.length) au (ZG x1 (fun y hy=>(cx y hy).2)) hroom a1
    generalize hc':(cur.toList.take (xs.length*sz)++flat ux ys.length++cur.toList.drop (xs.length*sz+(flat ux ys.length).length)).toArray=cur' at hrun
    have av:cur'.size=cur.size:=by rw [←hc'];simp;omega
    have ax:∀ j,j<xs.length*sz→cur'[j]? = cur[j]? := by
     intro j hj
     rw [←hc',List.getElem?_toArray,List.append_assoc,List.getElem?_append_left (by simp;omega),List.getElem?_take,Ai hj,Array.getElem?_toList]
    have a8:∀ j,j<ys.length*sz→cur'[xs.length*sz+j]? = (flat ux ys.length)[j]? := by
     intro j hj
     have l2:=A1 g
     rw [←hc',List.getElem?_toArray,List.append_assoc,List.getElem?_append_right (by simp;omega)]
     simp only [List.length_take,Array.length_toList]
     have e:min (xs.length*sz) cur.size=xs.length*sz:=by omega
     rw [e,show xs.length*sz+j-xs.length*sz=j from by omega,List.getElem?_append_left (by rw [l2];exact hj)]
    have D:Ext w0 M w (M.growRow id (M.blk id) (M.cap id) (xs.length+ys.length) ((xs.length+ys.length)*sz)) (w.setRow (M.blk id) cur'):=by
     refine LI (M:=M) (M.growRow id (M.blk id) (M.cap id) (xs.length+ys.length) ((xs.length+ys.length)*sz)) rfl (fun _ _=>rfl) rfl (fun i m=>?_) (fun b=>?_) f8 f3 (fun j hj=>ax j (by rw [f4] at hj;exact hj))
     ·by_cases c:i=id
      ·subst c
       simp only [Mem.growRow,if_true,f1]
       exact ⟨by omega,fun _=>⟨trivial,trivial,trivial⟩⟩
      ·simp only [Mem.growRow,Aj c]
       exact ⟨Nat.le_refl _,fun _=>⟨trivial,trivial,trivial⟩⟩
     ·simp only [Mem.growRow]
      split
      ·rename_i c
       rw [c,f4]
       exact Nat.mul_le_mul_right _ (by omega)
      ·exact Nat.le_refl _
    have az:=h.st.row_lt U
    have aa:=h.st.growRow am (w':=w.setRow (M.blk id) cur') (b:=M.blk id) (cap:=M.cap id) (k:=xs.length+ys.length) f3 (Below.setRow (Below.refl _ _) f3 _) (by simp) (by simpa using az) f6 hroom
     (fun l hl=>⟨f5 l hl,setRow_other w _ _ _ (f5 l hl)⟩) (fun i m a0=>by
      have:M.blk i≠M.blk id:=fun q=>a0 (h.st.rowinj i id m U q)
      exact ⟨this,setRow_other w _ _ _ this⟩) (setRow_heap w _ cur cur' te _ f8) (by rw [av];exact f9) D (KeepsObj.setRow f8 _)
    have ai:=ZbA (w0:=w0) D u1 x1
    have Y:=R.list (w0:=w0) (M:=M.growRow id (M.blk id) (M.cap id) (xs.length+ys.length) ((xs.length+ys.length)*sz)) (w:=w.setRow (M.blk id) cur') (b:=M.blk id) (off:=0) (cap:=M.cap id) (xs:=xs++ys.map AV.pub) (o := .row id) sz (YX us ux xs.length) (by rw [C];exact hroom) f6
     (fun i m=>⟨(ai i m).1,fun j hj=>by
      rw [C] at m
      have q1:(i+1)*sz≤(xs.length+ys.length)*sz:=Nat.mul_le_mul_right _ m
      rw [Nat.succ_mul] at q1
      refine ⟨.inr ?_,?_⟩
      ·simp only [Mem.growRow,if_true]
       omega
      ·rw [Nat.zero_add,cell_of_row _ _ _ cur' te _ (setRow_heap w _ cur cur' te _ f8)]
       unfold YX
       by_cases c:i<xs.length
       ·have q:(i+1)*sz≤xs.length*sz:=Nat.mul_le_mul_right _ c
        rw [Nat.succ_mul] at q
        have:=hcs' i c j hj
        rw [Nat.zero_add,cell_of_row _ _ _ cur te _ f8] at this
        rw [Ai c,ax _ (by omega),this]
       ·have q:(i-xs.length+1)*sz≤ys.length*sz:=Nat.mul_le_mul_right _ (by omega)
        rw [Nat.succ_mul] at q
        have e:i*sz=xs.length*sz+(i-xs.length)*sz:=by rw [←Nat.add_mul];congr 1;omega
        rw [Aj c,show i*sz+j=xs.length*sz+((i-xs.length)*sz+j) from by omega,a8 _ (by omega)]
        exact Jf g _ (by omega) j hj⟩) (fun i m=>(ai i m).2)
     (by
      rw [C]
      refine ⟨U,by simp [Mem.growRow],fun _=>⟨by simp [Mem.growRow],rfl,by simp [Mem.growRow],?_⟩⟩
      simp [Mem.growRow,f2])
    rw [C] at Y
    exact .value ⟨_,_,_,hrun,D,aa,Y⟩
   ·-- a new row
    have hypos:0<ys.length:=by omega
    rcases x2 with ⟨_,q,_⟩ | ⟨bx,ox,cx',_,rfl,_,_,_,hcx⟩
    ·subst q;simp at hypos
    have J:=GE (w:=w) g K hcx
    have ap:=GE (w:=w) ak K hcs'
    have aw:(flat us xs.length).length=xs.length*f.size:=by rw [A1 ak,r]
    have aj:(xs.length+ys.length)*f.bytes≤140737488355328:=by rw [a4];exact H
    have hrun:=run_append_grow (P:=P) w t ty el f v hu m hv ⟨M.blk id,0,none⟩ xs.length (M.cap id) (flat us xs.length) aw ap ⟨bx,ox,none⟩ ys.length cx' (flat ux ys.length) ae J (by omega) (by omega) (growslice_fits (by omega) aj)
    have Q:xs.length+ys.length≤maxLen:=by simp [maxLen];omega
    have ab:=grownCap_ge w (xs.length+ys.length) (M.cap id) el
    have Z:=grownCap_le_maxLen w (xs.length+ys.length) (M.cap id) el Q
    generalize hcl:((flat us xs.length).toArray++(flat ux ys.length).toArray++Builtin.zeroCells v.cells (grownCap w (xs.length+ys.length) (M.cap id) el-(xs.length+ys.length)))=cells at hrun
    have V:cells.toList=flat us xs.length++flat ux ys.length++(Builtin.zeroCells v.cells (grownCap w (xs.length+ys.length) (M.cap id) el-(xs.length+ys.length))).toList:=by rw [←hcl];simp
    generalize grownCap w (xs.length+ys.length) (M.cap id) el=gc at *
    have F:cells.size=gc*sz:=by
     have:cells.size=cells.toList.length:=by simp
     rw [this,V]
     simp only [List.length_append,A1 ak,A1 g,Array.length_toList,size_zeroCells,af,r]
     rw [←Nat.add_mul,←Nat.add_mul]
     congr 1
     omega
    obtain ⟨d1,d2⟩:=h.st.drew
    have D:Ext w0 M w.drew (M.growRow id w.drew.heap.size gc (xs.length+ys.length) ((xs.length+ys.length)*sz)) (w.drew.alloc (.cells cells el)):=by
     refine RB _ _ (.inl rfl) (fun _ _=>rfl) (Nat.le_refl _) (fun i m=>?_) (fun b hb=>?_)
     ·by_cases c:i=id
      ·subst c
       simp only [Mem.growRow,if_true,f1]
       exact ⟨by omega,fun q=>absurd q (by omega)⟩
      ·simp only [Mem.growRow,Aj c]
       exact ⟨Nat.le_refl _,fun _=>⟨trivial,trivial,trivial⟩⟩
     ·simp only [Mem.growRow]
      rw [Aa]
      exact Nat.le_refl _
    have aa:=d1.growRow am (w':=w.drew.alloc (.cells cells el)) (b:=w.drew.heap.size) (cap:=gc) (k:=xs.length+ys.length) h.st.base_le ((Below.refl _ w.drew).alloc h.st.base_le _) (by simp) (by simp) Z ab
     (fun l hl=>by have:=h.st.box_lt hl;exact ⟨fun q=>by simp at q;omega,Bq _ _ this⟩) (fun i m a0=>by have:=h.st.row_lt m;exact ⟨fun q=>by simp at q;omega,Bq _ _ this⟩) (heap_alloc_new w.drew _) F D (KeepsObj.alloc _ _)
    have ai:=ZbA (w0:=w0) d2 u1 x1
    have Y:=R.row (w0:=w0) (M:=M) (w:=w.drew) (us:=YX us ux xs.length) (xs:=xs++ys.map AV.pub) (cs:=cells) (ty:=el) (sz:=sz) (k:=(xs.length+ys.length)*sz) (cap:=gc) (o := .row id) ai
     (fun i m j hj=>by
      rw [C] at m
      rw [←Array.getElem?_toList,V]
      exact ZaJ ak g _ i m j hj) (by rw [C];exact ab) Z (by rw [C];exact Nat.le_refl _) (M.growRow id w.drew.heap.size gc (xs.length+ys.length) ((xs.length+ys.length)*sz)) (by simp [Mem.growRow]) D
     (by
      refine ⟨U,by rw [C];simp [Mem.growRow],fun _=>⟨by simp [Mem.growRow],rfl,by simp [Mem.growRow],?_⟩⟩
      simp [Mem.growRow,f2])
    rw [C] at Y
    exact .value ⟨_,_,_,hrun,d2.trans D,aa,Y⟩
  | vec id ver o n' =>
   simp only at hob ⊢
   cases hvr:C4 st.rows id ver with
   | none=>simp [hvr] at hob
   | some q =>
   obtain ⟨sz',cs⟩:=q
   simp only [hvr] at hob ⊢
   obtain ⟨lx,⟨K,hz,H,ay,cx⟩,rfl,rfl,bm⟩:=hob
   obtain ⟨ys,o',rfl⟩:=IE lx
   simp only [A0] at *
   obtain ⟨z,ar⟩:=Option.isSome_iff_exists.1 hz
   obtain ⟨i',v,hi',hv,hc,af,rfl⟩:=Ey ar
   rw [m] at hi';cases hi'
   have am:=DO hvr
   have U:id<M.NR:=by rw [h.st.NR];exact (Ak.1 am).1
   obtain ⟨f1,f2,f3,f4,f5,f6,f7,cur,te,f8,f9,bp,bl,bj⟩:=h.st.row id _ am
   cases hRs with
   | @vec _ _ _ _ p cap hid' hver hh =>
   obtain ⟨rfl,hcap,bn⟩:=hh f1.symm
   simp only [Nat.add_zero,Nat.zero_mul] at hcap ⊢
   subst hcap
   obtain ⟨ux,x1,x2⟩:=hRx.list_open (fun y hy=>(cx y hy).1)
   have g:∀ i,i<ys.length→(ux i).cells.size=sz':=fun i m=>(x1 i m).1
   have bc:(Builtin.lenOf vx).run P w = .ok ys.length w:=by
    rcases x2 with ⟨rfl | ⟨_,rfl⟩,q,_⟩ | ⟨bx,ox,cx',_,rfl,_⟩
    ·subst q;rfl
    ·subst q;rfl
    ·rfl
   have ae:(flat ux ys.length).length=ys.length*f.size:=by rw [A1 g,r]
   have au:(Builtin.firstCells sz' ys.length vx).run P w = .ok (flat ux ys.length).toArray w:=by
    rcases x2 with ⟨rfl | ⟨_,rfl⟩,q,_⟩ | ⟨bx,ox,cx',_,rfl,_,_,_,hcx⟩
    ·subst q;rfl
    ·subst q;simp [Builtin.firstCells,loadCells,loadCellsFrom,flat]
    ·exact run_firstCells_some w sz' ys.length ⟨bx,ox,none⟩ ys.length cx' (flat ux ys.length) (A1 g) (GE (w:=w) g K hcx)
   have a3:=Pv (fun y hy=>(cx y hy).1)
   have a7:=Zbi (fun i m=>(x1 i m).2) (fun y hy=>(cx y hy).2)
   have hcl:(cs.take (n'*sz')++ys.flatMap fun y=>y.pub.cells).length=(n'+ys.length)*sz':=by
    rw [List.length_append,a3,List.length_take,Nat.add_mul];omega
   have a6:∀ x∈cs.take (n'*sz')++ys.flatMap (fun y=>y.pub.cells),x.one=true:=by
    intro x hx
    rcases List.mem_append.1 hx with hx | hx
    ·exact bl x (List.mem_of_mem_take hx)
    ·exact a7 x hx
   -- what the new cells stand for,in whatever block they lie
   have E:∀ (cells:Array Value) (zs:List Value),cells.toList=cur.toList.take (n'*sz')++flat ux ys.length++zs→∀ (i:Nat) (v:Value) (x:AV),cells[i]? = some v→(cs.take (n'*sz')++ys.flatMap fun y=>y.pub.cells)[i]? = some x→R w0 M w v x:=by
    intro cells zs hcl' i v x aq ao
    have bd:i<(n'+ys.length)*sz':=by rw [←hcl];exact (Ak.1 ao).1
    rw [Nat.add_mul] at bd
    have bg:(cur.toList.take (n'*sz')).length=n'*sz':=by simp;omega
    rw [←Array.getElem?_toList,hcl',List.append_assoc] at aq
    by_cases q:i<n'*sz'
    ·rw [List.getElem?_append_left (by omega),List.getElem?_take,Ai q,Array.getElem?_toList] at aq
     rw [List.getElem?_append_left (by simp;omega),List.getElem?_take,Ai q] at ao
     obtain ⟨q1,rfl⟩:=Array.getElem?_eq_some_iff.1 aq
     obtain ⟨q2,rfl⟩:=Ak.1 ao
     exact bj i q1 q2
    ·rw [List.getElem?_append_right (by omega),bg,List.getElem?_append_left (by rw [A1 g];omega)] at aq
     rw [List.getElem?_append_right (by simp;omega)] at ao
     have e:(cs.take (n'*sz')).length=n'*sz':=by simp;omega
     rw [e] at ao
     exact Zjs K x1 (fun y hy=>(cx y hy).1) aq ao
   by_cases hroom:n'+ys.length≤M.cap id
   ·-- there is room
    have a1:n'*sz'+(flat ux ys.length).length≤cur.size:=by rw [A1 g,f9,←Nat.add_mul];exact Nat.mul_le_mul_right _ hroom
    have hrun:=Z0 (P:=P) (w:=w) t ty el hu ba (M.blk id) n' (M.cap id) cur te f8 bc (flat ux ys.length) au (ZG x1 (fun y hy=>(cx y hy).2)) hroom a1
    generalize hc':(cur.toList.take (n'*sz')++flat ux ys.length++cur.toList.drop (n'*sz'+(flat ux ys.length).length)).toArray=cur' at hrun
    have av:cur'.size=cur.size:=by rw [←hc'];simp;omega
    have D:Ext w0 M w (M.growRow id (M.blk id) (M.cap id) (ver+1) 0) (w.setRow (M.blk id) cur'):=by
     refine LI (M:=M) (M.growRow id (M.blk id) (M.cap id) (ver+1) 0) rfl (fun _ _=>rfl) rfl (fun i m=>?_) (fun b=>?_) f8 f3 (fun j hj=>by rw [f4] at hj;omega)
     ·by_cases c:i=id
      ·subst c
       simp only [Mem.growRow,if_true,f1]
       exact ⟨by omega,fun q=>absurd q (by omega)⟩
      ·simp only [Mem.growRow,Aj c]
       exact ⟨Nat.le_refl _,fun _=>⟨trivial,trivial,trivial⟩⟩
     ·simp only [Mem.growRow]
      split
      ·rename_i c
       rw [c,f4]
       exact Nat.le_refl _
      ·exact Nat.le_refl _
    have az:=h.st.row_lt U
    have q:(M.growRow id (M.blk id) (M.cap id) (ver+1) 0).fr id=ver+1∧(M.growRow id (M.blk id) (M.cap id) (ver+1) 0).blk id=M.blk id∧(M.growRow id (M.blk id) (M.cap id) (ver+1) 0).cap id=M.cap id∧(M.growRow id (M.blk id) (M.cap id) (ver+1) 0).rsz id=M.rsz id∧(M.growRow id (M.blk id) (M.cap id) (ver+1) 0).top (M.blk id)=0:=by simp [Mem.growRow]
    obtain ⟨q1,q2,q3,q4,q5⟩:=q
    have aa:=h.st.growRow' am (x := .vec (ver+1) sz' (cs.take (n'*sz')++ys.flatMap fun y=>y.pub.cells)) (w':=w.setRow (M.blk id) cur') (b:=M.blk id) (cap:=M.cap id) (k:=ver+1) (tp:=0) (Below.setRow (Below.refl _ _) f3 _) (by simp) (by simpa using az)
     (fun l hl=>⟨f5 l hl,setRow_other w _ _ _ (f5 l hl)⟩) (fun i m a0=>by
      have:M.blk i≠M.blk id:=fun q=>a0 (h.st.rowinj i id m U q)
      exact ⟨this,setRow_other w _ _ _ this⟩) (by
      simp only [RowOk,q1,q2,q3,q4,q5]
      exact ⟨trivial,f2,f3,trivial,f5,f6,K,cur',te,setRow_heap w _ cur cur' te _ f8,av.trans f9,by rw [hcl,av,f9];exact Nat.mul_le_mul_right _ hroom,a6,
       fun i a b=>(E cur' _ (by rw [←hc']) i _ _ (Array.getElem?_eq_getElem a) (List.getElem?_eq_getElem b)).mono D⟩) D (KeepsObj.setRow f8 _)
    exact .value ⟨_,_,_,hrun,D,aa,.vec U (by rw [q1];exact Nat.le_refl _) fun _=>⟨by rw [q2];simp,by rw [q3];rfl,hroom⟩⟩
   ·-- a new block
    have hypos:0<ys.length:=by omega
    rcases x2 with ⟨_,q,_⟩ | ⟨bx,ox,cx',_,rfl,_,_,_,hcx⟩
    ·subst q;simp at hypos
    have J:=GE (w:=w) g K hcx
    have aj:(n'+ys.length)*f.bytes≤140737488355328:=by rw [a4];exact H
    have ap:∀ (j:Nat) (u:Value),(cur.toList.take (n'*sz'))[j]? = some u→w.cell? ((⟨M.blk id,0,none⟩:Addr).add j)=some u:=by
     intro j u hj
     rw [List.getElem?_take] at hj
     split at hj
     ·rw [E0,Nat.zero_add,cell_of_row w _ j cur te _ f8,←Array.getElem?_toList];exact hj
     ·cases hj
    have aw:(cur.toList.take (n'*sz')).length=n'*f.size:=by simp;rw [r];omega
    have hrun:=run_append_grow (P:=P) w t ty el f v hu m hv ⟨M.blk id,0,none⟩ n' (M.cap id) (cur.toList.take (n'*sz')) aw ap ⟨bx,ox,none⟩ ys.length cx' (flat ux ys.length) ae J (by omega) (by omega) (growslice_fits (by omega) aj)
    have Q:n'+ys.length≤maxLen:=by simp [maxLen];omega
    have ab:=grownCap_ge w (n'+ys.length) (M.cap id) el
    have Z:=grownCap_le_maxLen w (n'+ys.length) (M.cap id) el Q
    generalize hcl':((cur.toList.take (n'*sz')).toArray++(flat ux ys.length).toArray++Builtin.zeroCells v.cells (grownCap w (n'+ys.length) (M.cap id) el-(n'+ys.length)))=cells at hrun
    have V:cells.toList=cur.toList.take (n'*sz')++flat ux ys.length++(Builtin.zeroCells v.cells (grownCap w (n'+ys.length) (M.cap id) el-(n'+ys.length))).toList:=by rw [←hcl'];simp
    generalize grownCap w (n'+ys.length) (M.cap id) el=gc at *
    have F:cells.size=gc*sz':=by
     have:cells.size=cells.toList.length:=by simp
     rw [this,V]
     simp only [List.length_append,aw,A1 g,Array.length_toList,size_zeroCells,af,r]
     rw [←Nat.add_mul,←Nat.add_mul]
     congr 1
     omega
    obtain ⟨d1,d2⟩:=h.st.drew
    have D:Ext w0 M w.drew (M.growRow id w.drew.heap.size gc (ver+1) 0) (w.drew.alloc (.cells cells el)):=by
     refine RB _ _ (.inl rfl) (fun _ _=>rfl) (Nat.le_refl _) (fun i m=>?_) (fun b hb=>?_)
     ·by_cases c:i=id
      ·subst c
       simp only [Mem.growRow,if_true,f1]
       exact ⟨by omega,fun q=>absurd q (by omega)⟩
      ·simp only [Mem.growRow,Aj c]
       exact ⟨Nat.le_refl _,fun _=>⟨trivial,trivial,trivial⟩⟩
     ·simp only [Mem.growRow]
      rw [Aa]
      exact Nat.le_refl _
    have q:(M.growRow id w.drew.heap.size gc (ver+1) 0).fr id=ver+1∧(M.growRow id w.drew.heap.size gc (ver+1) 0).blk id=w.drew.heap.size∧(M.growRow id w.drew.heap.size gc (ver+1) 0).cap id=gc∧(M.growRow id w.drew.heap.size gc (ver+1) 0).rsz id=M.rsz id∧(M.growRow id w.drew.heap.size gc (ver+1) 0).top w.drew.heap.size=0:=by simp [Mem.growRow]
    obtain ⟨q1,q2,q3,q4,q5⟩:=q
    have a5:∀ l,l<M.N→M.bx l≠w.drew.heap.size:=fun l hl=>by have:=h.st.box_lt hl;intro q;simp at q;omega
    have aa:=d1.growRow' am (x := .vec (ver+1) sz' (cs.take (n'*sz')++ys.flatMap fun y=>y.pub.cells)) (w':=w.drew.alloc (.cells cells el)) (b:=w.drew.heap.size) (cap:=gc) (k:=ver+1) (tp:=0) ((Below.refl _ w.drew).alloc h.st.base_le _) (by simp) (by simp)
     (fun l hl=>by have:=h.st.box_lt hl;exact ⟨a5 l hl,Bq _ _ this⟩) (fun i m a0=>by have:=h.st.row_lt m;exact ⟨fun q=>by simp at q;omega,Bq _ _ this⟩) (by
      simp only [RowOk,q1,q2,q3,q4,q5]
      exact ⟨trivial,f2,h.st.base_le,trivial,a5,Z,K,cells,el,heap_alloc_new w.drew _,F,by rw [hcl,F];exact Nat.mul_le_mul_right _ ab,a6,
       fun i a b=>((E cells _ V i _ _ (Array.getElem?_eq_getElem a) (List.getElem?_eq_getElem b)).mono d2).mono D⟩) D (KeepsObj.alloc _ _)
    exact .value ⟨_,_,_,hrun,d2.trans D,aa,.vec U (by rw [q1];exact Nat.le_refl _) fun _=>⟨by rw [q2];simp,by rw [q3];rfl,ab⟩⟩
  | _=>exact hob.elim
theorem Yields'.congr {s s':Sem Next} {st':St} {r:AV} (h:Yields' P w0 M st' r w s) (e:s'.run P w=s.run P w):Yields' P w0 M st' r w s':=by
 obtain ⟨v,b,M',a,c⟩:=h
 exact ⟨v,b,M',by rw [e];exact a,c⟩
theorem J7 (b:Builtin) (args:Array Operand) (ts:Array TypeId) (dst:Option Tmp) (type:TypeId) (pos:String) (after:Array Edge) (guard:Option (Nat × Bool)) (s:Sem Value)
  (hb:∀ cs,builtin b ts type cs (args.map a.eval)=(do pure (.value (← s)):Sem Next)) :
  (execOp a.eval ⟨dst,.call ⟨.builtin b,args,ts⟩,type,pos,after,guard⟩).run P w=((do pure (.value (← s)):Sem Next)).run P w:=by
 simp only [execOp,resolve,invoke,Sem.run_bind,Sem.run_pure,Result.andThen_ok]
 rw [hb]
 simp
theorem Tf {t:TypeId} (h:KN P t=true):∃ el,P.underlying t=some (.slice el)∧P.underlying el=some (.int .u8)∧HY P el=some (1,false):=by
 unfold KN at h
 split at h
 ·rename_i el h1
  simp only [Bool.and_eq_true] at h
  obtain ⟨h2,h3⟩:=h
  refine ⟨el,h1,?_,?_⟩
  ·split at h2
   ·assumption
   ·cases h2
  ·split at h3
   ·assumption
   ·cases h3
 ·cases h
theorem Zaj (r:Int):(Utf8.encode r).size≤4:=by
 unfold Utf8.encode
 dsimp only
 (repeat' split)<;>simp [ByteArray.size]
theorem Zbv (h:Rel w0 n M e st a w) (s d:TypeId) (x:Operand) (hob:(A4 P e true st (.convert s d x)).1) :
  Yields' P w0 M (A4 P e true st (.convert s d x)).2.2 (A4 P e true st (.convert s d x)).2.1 w (do pure (.value (← convert s d (a.eval x)))):=by
 unfold A4 at hob ⊢
 cases hs:OG P s with
 | some k1 =>
  cases hd:OG P d with
  | some k =>
   simp only [hs,hd] at hob ⊢
   obtain ⟨r,hi,U⟩:=hob
   obtain ⟨Z,_⟩:=(A5 h r).int hi
   rw [Z]
   refine .here h.st (v := .int k (AW (AC e x))) ?_ (.flat rfl)
   simp [convert,run_underlying (R7 hs),run_underlying (R7 hd),Conv.intToInt,Nw U]
  | none =>
   simp only [hs,hd] at hob ⊢
   obtain ⟨r,hi,J⟩:=hob
   obtain ⟨Z,_⟩:=(A5 h r).int hi
   rw [Z]
   exact .here h.st (run_convert_int_string w s d _ _ (by rw [R7 hs];rfl) (FQ J)) (.flat (Ah (Nat.le_trans (Zaj _) (by decide))))
 | none =>
  simp only [hs] at hob ⊢
  by_cases z:(EK P s&&EK P d)=true
  ·simp only [z,if_true] at hob ⊢
   simp only [Bool.and_eq_true] at z
   obtain ⟨r,hi⟩:=hob
   have hR:=A5 h r
   refine .here h.st (v:=a.eval x) ?_ hR
   obtain ⟨q,hq⟩:∃ q,AC e x = .val (.string q):=by
    cases hv:AC e x<;>rw [hv] at hi<;>try cases hi
    rename_i v
    cases v<;>first | exact ⟨_,rfl⟩ | cases hi
   rw [hq] at hR
   obtain ⟨ev,_⟩:=hR.val_inv
   rw [ev]
   simp [convert,run_underlying (FQ z.1),run_underlying (FQ z.2)]
  ·simp only [z,if_false,Bool.false_eq_true] at hob ⊢
   by_cases hc2:(KN P s&&EK P d)=true
   ·simp only [hc2,if_true] at hob ⊢
    simp only [Bool.and_eq_true] at hc2
    obtain ⟨g,G,H,ae⟩:=Tf hc2.1
    split at hob
    ·rename_i id ver o n' hx0
     cases hvr:C4 st.rows id ver with
     | none=>simp [hvr] at hob
     | some q =>
     obtain ⟨Y,cs⟩:=q
     simp only [hvr] at hob ⊢
     obtain ⟨r,rfl,ak,c,m⟩:=hob
     have hR:=A5 h r
     rw [hx0] at hR
     obtain ⟨f1,f2,f3,f4,f5,f6,f7,O,te,f8,f9,aj,ai,aa⟩:=h.st.row id _ (DO hvr)
     obtain ⟨v,hev⟩:∃ v,a.eval x=v:=⟨_,rfl⟩
     rw [hev] at hR ⊢
     cases hR with
     | @vec _ _ _ _ p cap hid hver hh =>
     obtain ⟨rfl,C,ah⟩:=hh f1.symm
     have hl:((cs.drop o).take n').length=n':=by simp;omega
     have f:(G2 ((cs.drop o).take n')).size=n':=by simp [G2,ByteArray.size];omega
     have t:GN (.string (G2 ((cs.drop o).take n')))=true:=by simp [GN,maxLen,f];exact c
     have:=run_convert_bytes_back (P:=P) w s d g ⟨M.blk id,o*M.rsz id,none⟩ cap (((cs.drop o).take n').map fun x=>UInt8.ofNat (AW x).toNat) G H (FQ hc2.2) (fun j F=>by
      have D:j<n':=by rw [List.length_map,hl] at F;exact F
      have Q:((cs.drop o).take n')[j]'(by omega)=cs[o+j]'(by omega):=by simp
      have hq:=m _ (List.getElem_mem (l:=(cs.drop o).take n') (n:=j) (by omega))
      rw [Q] at hq
      have hr:=aa (o+j) (by omega) (by omega)
      rw [E0,f2,Nat.mul_one,cell_of_row w _ (o+j) O te _ f8,Array.getElem?_eq_getElem (show o+j<O.size by omega)]
      simp only [List.getElem_map,Q]
      generalize cs[o+j]'(by omega)=y at hq hr
      cases y with
      | val u =>
       cases u<;>try exact hq.elim
       rename_i k n
       cases k<;>try exact hq.elim
       obtain ⟨n0,n1⟩:0≤n∧n≤255:=hq
       rw [hr.val_inv.1]
       simp only [AW]
       have:(UInt8.ofNat n.toNat).toNat=n.toNat:=by simp;omega
       rw [this]
       simp
       omega
      | _=>exact hq.elim)
     rw [List.length_map,hl] at this
     exact .here h.st (v := .string (G2 ((cs.drop o).take n'))) this (.flat t)
    rename_i hx0
    obtain ⟨r,hi,c,m⟩:=hob
    have hR:=A5 h r
    obtain ⟨xs,o,af⟩:=IE hi
    rw [af] at hR c m ⊢
    simp only [A0] at c m ⊢
    have ag:∀ y∈xs,y.cells.length=1:=fun y hy=>by
     have:=m y hy
     cases y<;>first | rfl | exact this.elim
    obtain ⟨us,h1,h2⟩:=hR.list_open ag
    have f:(G2 xs).size=xs.length:=by simp [G2,ByteArray.size]
    have t:GN (.string (G2 xs))=true:=by simp [GN,maxLen,f];exact c
    rcases h2 with ⟨ev | ⟨ad,ev⟩,rfl,_⟩ | ⟨b,off,cap,Y,ev,_,_,_,hcell⟩
    ·rw [ev]
     have:=run_convert_bytes_nil (P:=P) w s g G H 0 0 d (FQ hc2.2)
     exact .here h.st (v := .string ByteArray.empty) this (.flat rfl)
    ·rw [ev]
     have:=run_convert_bytes_back (P:=P) w s d g ad 0 [] G H (FQ hc2.2) (fun j F=>absurd F (by simp))
     exact .here h.st (v := .string ByteArray.empty) this (.flat rfl)
    ·rw [ev]
     have hb:∀ i (hi:i<xs.length),∃ n:Int,0≤n∧n≤255∧xs[i] = .val (.int .u8 n)∧us i = .int .u8 n:=fun i hi=>by
      have hq:=m _ (List.getElem_mem hi)
      have hr:=(h1 i hi).2
      cases hv:xs[i] with
      | val u =>
       rw [hv] at hq hr
       cases u<;>try exact hq.elim
       rename_i k n
       cases k<;>try exact hq.elim
       exact ⟨n,hq.1,hq.2,rfl,hr.val_inv.1⟩
      | _=>rw [hv] at hq;exact hq.elim
     have:=run_convert_bytes_back (P:=P) w s d g ⟨b,off,none⟩ cap (xs.map fun x=>UInt8.ofNat (AW x).toNat) G H (FQ hc2.2) (fun j F=>by
      have D:j<xs.length:=by simpa using F
      obtain ⟨n,n0,n1,Q,e2⟩:=hb j D
      have z:=hcell j D 0 (by omega)
      rw [e2] at z
      simp only [Nat.mul_one,Nat.add_zero] at z
      rw [E0,z]
      simp only [List.getElem_map,Q,AW,Value.cells]
      have:(UInt8.ofNat n.toNat).toNat=n.toNat:=by simp;omega
      rw [this]
      simp
      omega)
     simp only [List.length_map] at this
     exact .here h.st (v := .string (G2 xs)) this (.flat t)
   ·simp only [hc2,if_false,Bool.false_eq_true] at hob ⊢
    by_cases hc3:(EK P s&&KN P d)=true
    ·simp only [hc3,if_true] at hob ⊢
     simp only [Bool.and_eq_true] at hc3
     obtain ⟨g,G,H,ae⟩:=Tf hc3.2
     obtain ⟨_,r,hi⟩:=hob
     have hR:=A5 h r
     obtain ⟨q,hq⟩:∃ q,AC e x = .val (.string q):=by
      cases hv:AC e x<;>rw [hv] at hi<;>try cases hi
      rename_i v
      cases v<;>first | exact ⟨_,rfl⟩ | cases hi
     rw [hq] at hR ⊢
     obtain ⟨ev,t⟩:=hR.val_inv
     rw [ev]
     simp only [Ze5]
     have ab:q.size≤maxLen:=by simpa [GN] using t
     have N:=Lib.run_convert_string_bytes (P:=P) w s d g q (FQ hc3.1) G H
     have K:Below w.heap.size w (Lib.bytesWorld w g q):=⟨rfl,rfl,rfl,by rw [Lib.bytesWorld_size];omega,fun k U=>Lib.bytesWorld_at_old w g q k U⟩
     obtain ⟨r1,r2⟩:=h.st.later K w.heap.size q.size (Nat.le_refl _) (.inl (by rw [Lib.bytesWorld_size];omega))
     have C:=grownCap_ge w q.size 0 g
     have E:=grownCap_le_maxLen w q.size 0 g ab
     have c:(Hg q.data.toList).length=q.size:=by simp [Hg]
     refine .value ⟨_,_,_,N,r2,r1,?_⟩
     have:=R.list (w0:=w0) (M:=M.newTop w.heap.size q.size) (w:=Lib.bytesWorld w g q) (b:=w.heap.size) (off:=0) (cap:=grownCap w q.size 0 g) (xs:=Hg q.data.toList) (o := .none) 1 (fun i => .int .u8 (q.data.toList.getD i 0).toNat)
      (by rw [c];exact C) E (fun i hi=>⟨rfl,fun j F=>⟨.inr (by rw [c] at hi;simp [Mem.newTop];omega),by
       rw [c] at hi
       have hj0:j=0:=by omega
       subst hj0
       simp only [Nat.mul_one,Nat.zero_add,Nat.add_zero]
       rw [Lib.bytesWorld_cell w g q i hi]
       rfl⟩⟩) (fun i hi=>by
       have V:i<q.data.toList.length:=by rw [c] at hi;exact hi
       simp only [Hg,List.getElem_map]
       rw [show q.data.toList.getD i 0=q.data.toList[i] from by simp [List.getD,List.getElem?_eq_getElem V]]
       exact .flat rfl) trivial
     rw [c] at this
     exact this
    ·simp only [hc3] at hob
     exact hob.elim
theorem Jl {z:List AV} {sz:Nat} (hz:z.length=sz):∀ (m j:Nat) (x:AV),((List.replicate m z).flatten)[j]? = some x→0<sz∧z[j % sz]? = some x
 | 0,j,x,h=>by simp at h
 | m+1,j,x,h=>by
  rw [List.replicate_succ,List.flatten_cons] at h
  by_cases c:j<z.length
  ·rw [List.getElem?_append_left c] at h
   exact ⟨by omega,by rw [Nat.mod_eq_of_lt (by omega)];exact h⟩
  ·rw [List.getElem?_append_right (by omega)] at h
   obtain ⟨b,a⟩:=Jl hz m _ x h
   refine ⟨b,?_⟩
   rw [hz] at a
   rw [←a]
   congr 1
   rw [←Nat.mod_eq_sub_mod (by omega)]
theorem YO (h:Rel w0 n M e st a w) (t:TypeId) (len cap:Operand) (hob:(A4 P e true st (.makeSlice t len cap)).1) :
  Yields' P w0 M (A4 P e true st (.makeSlice t len cap)).2.2 (A4 P e true st (.makeSlice t len cap)).2.1 w (do pure (.value (← Instr.makeSlice t (a.eval len) (a.eval cap)))):=by
 unfold A4 at hob ⊢
 cases he:Mc P t with
 | none=>simp [he] at hob
 | some p =>
 obtain ⟨el,sz,ag,am⟩:=p
 cases hz:Br P el with
 | none=>simp [he,hz] at hob
 | some z =>
 simp only [he,hz] at hob ⊢
 obtain ⟨_,hl,hc,il,ic,h0,h1,ab,ak,U,E,af⟩:=hob
 obtain ⟨H,hu,r,aj,ai⟩:=Gm he
 have V:H.size=sz:=by
  obtain ⟨i',d,h1,h2,_⟩:=L8 ai
  rw [r] at h1;cases h1;exact h2
 obtain ⟨i',v,hi',hv,s,ao,rfl⟩:=Ey hz
 rw [r] at hi';cases hi'
 obtain ⟨ae,_⟩:=(A5 h hl).int il
 obtain ⟨ah,_⟩:=(A5 h hc).int ic
 generalize AW (AC e len)=l at *
 generalize AW (AC e cap)=c at *
 obtain ⟨y,rfl⟩:=Int.eq_ofNat_of_zero_le h0
 obtain ⟨m,rfl⟩:=Int.eq_ofNat_of_zero_le (Int.le_trans h0 h1)
 have b:=run_make (P:=P) w t el H v hu r hv (Lq (AC e len)) (Lq (AC e cap)) y m h0 h1 (by rw [aj,Int.mul_comm];omega) (by omega)
 rw [←ae,←ah] at b
 simp only [Int.toNat_natCast,V] at b
 have F:m≤maxLen:=by unfold maxLen;omega
 have N:=size_madeCells v.cells (m*sz)
 have g:RowR w0 M w v.cells (Jo v).cells:=(Oc s).cells
 have G:=(Oc (w0:=w0) (M:=M) (w:=w) s).cellsOne (fun vs e=>by have:=Ly s;rw [e] at this;cases this)
 by_cases hl0:(y:Int)=0
 ·rw [Ai hl0,Ai hl0]
  have:y=0:=by omega
  subst this
  obtain ⟨r1,r2⟩:=h.st.addRow (cs:=madeCells v.cells (m*sz)) (ty:=el) (k:=0) (sz:=sz) F (Nat.zero_le _) N
  refine .value ⟨_,_,_,b,r2,r1,?_⟩
  have O:=h.st.NR
  exact R.list (xs:=[]) sz (fun _=>undef) (Nat.zero_le _) F (fun i r=>absurd r (by simp)) (fun i r=>absurd r (by simp)) ⟨by simp [Mem.addRow,O],by simp [Mem.addRow,O],fun _=>by simp [Mem.addRow,O]⟩
 ·rw [Aj hl0,Aj hl0]
  by_cases hmk0:JM e t=true
  case neg =>
   rw [Aj hmk0,Aj hmk0]
   obtain rfl:sz=1:=by
    rcases af with q | q | q
    ·exact absurd q hl0
    ·exact absurd q hmk0
    ·exact q
   have D:v.cells.size=1:=by rw [g.1,E]
   obtain ⟨u,hu0⟩:∃ u,v.cells[0]? = some u:=⟨_,Array.getElem?_eq_getElem (by omega)⟩
   have Z:(Jo v).cells[0]? = some (nth (Jo v).cells 0):=by
    rw [List.getElem?_eq_getElem (by omega)]
    simp [nth,List.getD,List.getElem?_eq_getElem (show 0<(Jo v).cells.length by omega)]
   have aa:R w0 M w u (nth (Jo v).cells 0):=g.get hu0 Z
   have K:(nth (Jo v).cells 0).one=true:=G _ (List.mem_of_getElem? Z)
   have J:u.cells = #[u]:=(aa.cells_one K).1
   obtain ⟨Q,C⟩:=h.st.newTop (madeCells v.cells (m*1)) el (m*1)
   have f:(List.replicate y (nth (Jo v).cells 0)).length=y:=List.length_replicate
   have hR:=R.row (us:=fun _=>u) (xs:=List.replicate y (nth (Jo v).cells 0)) (cs:=madeCells v.cells (m*1)) (ty:=el) (sz:=1) (k:=m*1) (cap:=m) (o := .none)
    (fun i r=>⟨by rw [J];rfl,by rw [List.getElem_replicate];exact aa⟩)
    (fun i r j hj=>by
     have hi':i<y:=by rw [f] at r;exact r
     have:i*1+j<m*1:=by omega
     have h3:(madeCells v.cells (m*1))[i*1+j]? = some v.cells[(i*1+j) % v.cells.size]! := by
      simp only [madeCells,Array.getElem?_map,Array.getElem?_range,Ai this,Option.map_some]
     obtain rfl:j=0:=by omega
     rw [h3,D,Nat.mod_one,J,getElem!_pos v.cells 0 (by omega)]
     rw [Array.getElem?_eq_getElem (by omega)] at hu0
     simpa using hu0)
    (by rw [f];omega) F (by rw [f];omega) (M.newTop w.heap.size (m*1)) (by simp [Mem.newTop]) C trivial
   rw [f] at hR
   exact .value ⟨_,_,_,b,C,Q,hR⟩
  rw [Ai hmk0,Ai hmk0]
  obtain ⟨r1,r2⟩:=h.st.addVec (cs:=madeCells v.cells (m*sz)) (ty:=el) (cap:=m) (sz:=sz) (xs:=(List.replicate y (Jo v).cells).flatten) F U N
   (by rw [N];simp only [List.length_flatten,List.map_replicate,List.sum_replicate_nat,E];exact Nat.mul_le_mul_right _ (by omega))
   (fun x C=>by
    obtain ⟨q,hq,C⟩:=List.mem_flatten.1 C
    rw [List.eq_of_mem_replicate hq] at C
    exact G x C)
   (fun i u x ad C=>by
    obtain ⟨_,h2⟩:=Jl E y i x C
    have h3:u=v.cells[i % v.cells.size]! := by
     obtain ⟨q1,q2⟩:=Array.getElem?_eq_some_iff.1 ad
     rw [←q2];simp [madeCells]
    have D:v.cells.size=sz:=by rw [g.1,E]
    have h4:v.cells[i % sz]? = some u:=by
     have Y:i % sz<v.cells.size:=by rw [D];exact Nat.mod_lt _ U
     rw [h3,D,getElem!_pos v.cells (i % sz) Y,Array.getElem?_eq_getElem Y]
    exact g.get h4 h2)
  refine .value ⟨_,_,_,b,r2,r1,?_⟩
  have O:=h.st.NR
  exact .vec (by simp [Mem.addRow,O]) (Nat.zero_le _) fun _=>⟨by simp [Mem.addRow,O],by simp [Mem.addRow,O],by omega⟩
theorem ZP (h:Rel w0 n M e st a w) (t:TypeId) (m:Nat) (ps:Array (Nat × Operand)) (hmk:JM e t=true) (hob:(A4 P e true st (.buildSlice t m ps)).1) :
  Yields' P w0 M (A4 P e true st (.buildSlice t m ps)).2.2 (A4 P e true st (.buildSlice t m ps)).2.1 w (do pure (.value (← Instr.buildSlice t m (ps.map fun (i,x)=>(i,a.eval x))))):=by
 unfold A4 at hob ⊢
 cases he:Mc P t with
 | none=>simp [he] at hob
 | some p =>
  obtain ⟨el,sz,ag,ab⟩:=p
  simp only [he,hmk] at hob ⊢
  obtain ⟨_,H,hr,aa,b,hz,s,Y⟩:=hob
  obtain ⟨i,J,g,_,F⟩:=Gm he
  obtain ⟨z,U⟩:=Option.isSome_iff_exists.1 hz
  obtain ⟨i',v,q,hv,hc,hs,rfl⟩:=Ey U
  have hl:ps.toList.length=m:=by simpa using congrArg List.length hr
  have d:∀ p∈ps.toList,(a.eval p.2).cells.size=sz:=fun p K=>by
   rw [(A5 h (H p K)).cells.1]
   exact s _ (List.mem_map.2 ⟨p,K,rfl⟩)
  obtain ⟨zc,hzc⟩:∃ zc:Array Value,if m*sz=0 then zc = #[] else zc=v.cells:=by
   by_cases h0:m*sz=0
   ·exact ⟨#[],by rw [Ai h0]⟩
   ·exact ⟨v.cells,by rw [Aj h0]⟩
  obtain ⟨cs',a1,a2,a3,a4⟩:=UG sz (ps.toList.map fun p=>a.eval p.2) 0 ((Array.range (m*sz)).map (zc[· % zc.size]!)) (fun u J=>by obtain ⟨p,K,rfl⟩:=List.mem_map.1 J;exact d p K) (by simp [hl])
  have hm:m≤maxLen:=by
   have:m*1≤m*sz:=Nat.mul_le_mul_left _ b
   simp [maxLen];omega
  let us:Nat→Value:=fun i=>(ps.toList.map fun p=>a.eval p.2).getD i undef
  have l:∀ i (g:i<(ps.toList.map fun p=>AC e p.2).length),(us i).cells.size=sz∧R w0 M w (us i) (ps.toList.map fun p=>AC e p.2)[i]:=fun i g=>by
   have q:i<ps.toList.length:=by simpa using g
   have N:i<ps.size:=by simpa using q
   have e1:us i=a.eval (ps.toList[i]).2:=by simp [us,List.getD,Array.getElem?_eq_getElem N]
   rw [e1]
   refine ⟨d _ (List.getElem_mem _),?_⟩
   simp only [List.getElem_map]
   exact A5 h (H _ (List.getElem_mem _))
  have r:(ps.toList.map fun p=>AC e p.2).length=m:=by simp [←hl]
  have E:=Pv (ys:=ps.toList.map fun p=>AC e p.2) (sz:=sz) s
  rw [r] at E
  have c:cs'.size=m*sz:=by rw [a2];simp
  have o:∀ j,j<m*sz→(flat us m)[j]? = cs'[j]? := fun j hj=>by
   have hk:j / sz<m:=(Nat.div_lt_iff_lt_mul b).2 hj
   have D:=Nat.mod_lt j b
   have ej:j / sz*sz+j % sz=j:=by rw [Nat.mul_comm];exact Nat.div_add_mod j sz
   have f:=Jf (us:=us) (m:=m) (sz:=sz) (fun i g=>(l i (by rw [r];exact g)).1) (j / sz) hk (j % sz) D
   rw [ej] at f
   have Z:j / sz<ps.toList.length:=by omega
   have O:j / sz<ps.size:=by simpa using Z
   have f2:=a4 (j / sz) (us (j / sz)) (by simp [us,List.getD,Array.getElem?_eq_getElem O]) (j % sz) D
   rw [Nat.zero_add,ej] at f2
   rw [f,f2]
  obtain ⟨C,hx⟩:=h.st.addVec (cs:=cs') (ty:=el) (cap:=m) (sz:=sz) (xs:=(ps.toList.map fun p=>AC e p.2).flatMap fun y=>y.pub.cells) hm b c (by rw [E,c];exact Nat.le_refl _) (Zbi (fun i g=>(l i g).2) Y)
   (fun i v x k V=>by
    have g:i<m*sz:=by rw [←c];exact (Array.getElem?_eq_some_iff.1 k).1
    rw [←o i g] at k
    rw [←r] at k
    exact Zjs b l s k V)
  have Q:=h.st.NR
  refine .value ⟨.slice (some ⟨w.heap.size,0,none⟩) m m,_,_,?_,hx,C,.vec (by simp [Mem.addRow,Q]) (Nat.zero_le _) fun _=>⟨by simp [Mem.addRow,Q],by simp [Mem.addRow,Q],Nat.le_refl _⟩⟩
  have e0:¬ (m*sz > 2 ^ 24):=by omega
  have G:(ps.map fun (i,x)=>(i,a.eval x)).toList=((ps.toList.map fun p=>a.eval p.2).zipIdx 0).map fun x=>(x.2,x.1):=by
   rw [Array.toList_map]
   exact Xs hr a.eval
  by_cases h0:m*sz=0
  ·rw [Ai h0] at hzc
   subst hzc
   simp only [Instr.buildSlice,Sem.run_bind,run_underlying J,Result.andThen_ok,Bt F,Aj e0,Ai h0,Sem.run_pure,G,a1,newRow,run_newObj]
   rfl
  ·rw [Aj h0] at hzc
   subst hzc
   simp only [Instr.buildSlice,Sem.run_bind,run_underlying J,Result.andThen_ok,Bt F,Aj e0,Aj h0,Sem.run_pure,zeroValue,typeInfo,run_program,q,hv,G,a1,newRow,run_newObj]
   rfl
theorem Zd5 (h:Rel w0 n M e st a w) (o:Oper) (hob:(A4 P e true st o.op).1) :
  Yields' P w0 M (A4 P e true st o.op).2.2 (A4 P e true st o.op).2.1 w (execOp a.eval o):=by
 obtain ⟨z,op,g,q,j,l⟩:=o
 cases op with
 | move x=>exact MV h.st rfl (A5 h hob)
 | assign x=>exact MV h.st rfl (A5 h hob)
 | pick c x y=>exact Zhl h c x y hob
 | alloc t=>exact Zfu h t hob
 | box t x=>exact ZjB h t x hob
 | build t ps=>exact ZeO h t ps hob
 | buildSlice t m ps =>
  cases hmk:JM e t with
  | false=>exact Wp h t m ps hmk hob
  | true=>exact ZP h t m ps hmk hob
 | load t x =>
  have:=ZhR h t x hob
  have e:(A4 P e true st (.load t x)).2.2=st:=by simp only [A4];split<;>rfl
  simp only [e]
  exact this
 | store t x v=>exact ZfE h t x v hob
 | nilCheck x=>exact Zah h ⟨z,.nilCheck x,g,q,j,l⟩ x rfl hob
 | binOp op t x y u=>exact Zes h op t x y u hob
 | unOp op t x=>exact Zhf h op t x hob
 | convert s d x=>exact Zbv h s d x hob
 | makeFunc f fi cap =>
  cases f with
  | func f=>exact ZO h f fi cap hob
  | _=>exact hob.elim
 | slice t x lo hi mx=>exact ZeS h t x lo hi mx hob
 | makeSlice t len cap=>exact YO h t len cap hob
 | fieldAddr t x f=>exact Y6 h t x f hob
 | field t x f=>exact ZfP h t x f hob
 | indexAddr t x i=>exact Yi h t x i hob
 | index t x i=>exact ZeU h t x i hob
 | extract x i=>exact Zbu h x i hob
 | makeMap t r=>exact Za1 h t r hob
 | lookup t m k ok=>exact ZdF h t m k ok hob
 | mapUpdate t m k v=>exact Yv h t m k v hob
 | call c =>
  obtain ⟨callee,args,E⟩:=c
  cases callee with
  | builtin b =>
   cases b with
   | len =>
    simp only [A4] at hob ⊢
    split at hob
    ·rename_i x t hx ht
     obtain ⟨C,D⟩:=hob
     have ea:args = #[x]:=Array.toList_inj.1 (by simpa using hx)
     have et:E = #[t]:=Array.toList_inj.1 (by simpa using ht)
     subst ea;subst et
     exact (Zj1 h x t g C D).congr (J7 .len #[x] #[t] z g q j l _ (fun _=>by simp [builtin]))
    ·exact hob.elim
   | append =>
    simp only [A4] at hob ⊢
    split at hob
    ·rename_i s x t t' hx ht
     obtain ⟨_,C,D,rfl,F⟩:=hob
     have ea:args = #[s,x]:=Array.toList_inj.1 (by simpa using hx)
     have et:E = #[t,t]:=Array.toList_inj.1 (by simpa using ht)
     subst ea;subst et
     exact (Zdv h s x t g C D F).congr (J7 .append #[s,x] #[t,t] z g q j l _ (fun _=>by simp [builtin]))
    ·exact hob.elim
   | clear =>
    simp only [A4] at hob ⊢
    split at hob
    ·rename_i x t hx ht
     have ea:args = #[x]:=Array.toList_inj.1 (by simpa using hx)
     have et:E = #[t]:=Array.toList_inj.1 (by simpa using ht)
     subst ea;subst et
     split at hob
     ·rename_i id ver o n' el sz ag by8 ex he
      cases hvr:C4 st.rows id ver with
      | none=>simp only [hvr] at hob
      | some p =>
       obtain ⟨H,cs⟩:=p
       simp only [hvr] at hob ⊢
       obtain ⟨_,C,D,F,G⟩:=hob
       exact (Zeu h x t g he ex hvr C D F G).congr (J7 .clear #[x] #[t] z g q j l _ (fun _=>by simp [builtin]))
     ·exact hob.elim
    ·exact hob.elim
   | min =>
    simp only [A4] at hob ⊢
    split at hob
    ·rename_i x y hx
     obtain ⟨C,D,F,G,_⟩:=hob
     have ea:args = #[x,y]:=Array.toList_inj.1 (by simpa using hx)
     subst ea
     exact (Zi6 h x y E g C D F G).congr (J7 .min #[x,y] E z g q j l _ (fun _=>by simp [builtin]))
    ·exact hob.elim
   | max =>
    simp only [A4] at hob ⊢
    split at hob
    ·rename_i x y hx
     obtain ⟨C,D,F,G⟩:=hob
     have ea:args = #[x,y]:=Array.toList_inj.1 (by simpa using hx)
     subst ea
     exact (Zjp h x y E g C D F G).congr (J7 .max #[x,y] E z g q j l _ (fun _=>by simp [builtin]))
    ·exact hob.elim
   | _=>exact hob.elim
  | _=>exact hob.elim
 | _=>exact hob.elim
end
def FW (ro:Option Nat):Fence:={ Fence.wide with round:=ro }
theorem Tv (ro:Option Nat) (f:FuncId):(FW ro).fn f:=trivial
theorem Wh (ro:Option Nat):(FW ro).depth.isSome=true→∀ n,1≤n:=fun h=>by cases h
theorem VU {ro:Option Nat} {n:Nat} {P:Program} {f:FuncId} {args:Array Value} {w:World} {Q:Ending→World→Prop} (h:Calls P f args w Q):CallsIn (FW ro) n P f args w Q:=by
 cases ro with
 | none=>exact callsIn_wide.2 h
 | some l=>exact CallsIn.inRound (F:=Fence.wide) l (callsIn_wide.2 h)
theorem TG {n:Nat} {P:Program} {f:FuncId} {args:Array Value} {w:World} {Q:Ending→World→Prop} (h:CallsIn (FW none) n P f args w Q):Calls P f args w Q:=callsIn_wide.1 h
def KI (P:Program) (f:FuncId):Prop:=∀ args w,(callFunc f args).run P w = .ok (.enter f args) w
def Comes' (w0:World) (M:Mem) (w:World) (Post:AV→St→Prop) (en:Ending) (w':World):Prop :=
 ∃ v M' r st',en = .returned v∧Post r st'∧Ext w0 M w M' w'∧RelSt w0 M' st' w'∧R w0 M' w' v r
def ACalls (P:Program) (w0:World) (f:FuncId) (args:List AV) (st:St) (Post:AV→St→Prop):Prop :=
 KI P f∧∀ (M:Mem) (w:World) (vals:Array Value),RelSt w0 M st w→RowR w0 M w vals args→Calls P f vals w (Comes' w0 M w Post)
theorem Comes'.mono {w0:World} {M:Mem} {w:World} {Post Post':AV→St→Prop} (hp:∀ r s,Post r s→Post' r s) {en:Ending} {w':World} (h:Comes' w0 M w Post en w'):Comes' w0 M w Post' en w' :=
 let ⟨v,M',r,st',a1,a2,a3,a4,a5⟩:=h;⟨v,M',r,st',a1,hp _ _ a2,a3,a4,a5⟩
theorem ACalls.mono {P:Program} {w0:World} {f:FuncId} {args:List AV} {st:St} {Post Post':AV→St→Prop} (h:ACalls P w0 f args st Post) (hp:∀ r s,Post r s→Post' r s):ACalls P w0 f args st Post' :=
 ⟨h.1,fun M w a b c=>(h.2 M w a b c).mono fun _ _ h=>h.mono hp⟩
def U4 (P:Program) (w0:World) (k:Nat) (args:List AV) (st:St) (Post:AV→St→Prop):Prop :=
 ∀ (M:Mem) (w:World) (vals:Array Value),RelSt w0 M st w→RowR w0 M w vals args →
  ∃ fn tmps asg body,(Instr.yield (M.lb k) vals).run P w = .ok (.round (M.lb k) fn tmps asg body) w∧∀ n,RoundIn Fence.wide n P (M.lb k) fn tmps asg body w (Comes' w0 M w Post)
def OH (P:Program) (w0:World) (fv:AV) (args:List AV) (st:St) (Post:AV→St→Prop):Prop :=
 match fv with
 | .clo f cs=>ACalls P w0 f (args++cs) st Post
 | .yld k=>U4 P w0 k args st Post
 | _=>False
def Lu (e:Env) (dst:Option Nat) (c:Bool) (v:AV):Env :=
 match dst with
 | some d=>(d,c,v)::e
 | none=>e
def KZ (n:Nat):Option Nat→Prop
 | some d=>d<n
 | none=>True
def B1 (all:List Oper) (e:Env):Option (Nat × Bool)→Bool
 | none=>true
 | some (j,want)=>match (all[j]?).bind (·.dst) with
  | some d=>match look e d with
   | some (cj,.val (.bool b))=>cj&&(b == want)
   | _=>false
  | none=>false
def Lm (all:List Oper) (e:Env):Option (Nat × Bool)→Prop
 | none=>True
 | some (j,_)=>match (all[j]?).bind (·.dst) with
  | some d=>match look e d with
   | some (_,v)=>Wj v=true
   | none=>False
  | none=>False
def KD:List Operand→List Nat
 | []=>[]
 | .tmp t::r=>t::KD r
 | _::r=>KD r
def Zfo (all:List Oper):Option (Nat × Bool)→List Nat
 | none=>[]
 | some (j,_)=>((all[j]?).bind (·.dst)).toList
def looks (all:List Oper) (o:Oper):List Nat:=1000000::(KD o.op.operands.toList++Zfo all o.guard)
def B9 (d:Bool) (all:List Oper) (o:Oper) (e:Env):Env:=if d then Ea (looks all o) e else e
def La (P:Program) (w0:World) (c d:Bool) (fv:AV) (args:List AV) (st:St) (k:AV→St→Prop):Prop :=
 (∃ v,(c=true→OH P w0 fv args st fun r s=>r=v∧s=st)∧k v st) ∨
 (d=false∧∃ Post,(c=true→OH P w0 fv args st Post)∧∀ v st',(c=true→Post v st')→(c=false→st'=st)→k v st')
theorem EW {P:Program} {w0:World} {c d:Bool} {f:FuncId} {cs args:List AV} {st:St} {k:AV→St→Prop} (v:AV)
  (h:ACalls P w0 f (args++cs) st fun r s=>r=v∧s=st) (hk:k v st):La P w0 c d (.clo f cs) args st k := .inl ⟨v,fun _=>h,hk⟩
theorem Vk {P:Program} {w0:World} {f:FuncId} {cs args:List AV} {st:St} {k:AV→St→Prop} (Post:AV→St→Prop)
  (h:ACalls P w0 f (args++cs) st Post) (hk:∀ v s,Post v s→k v s):La P w0 true false (.clo f cs) args st k := .inr ⟨rfl,Post,fun _=>h,fun v s a _=>hk v s (a rfl)⟩
theorem TC {P:Program} {w0:World} {c:Bool} {i:Nat} {args:List AV} {st:St} {k:AV→St→Prop} (Post:AV→St→Prop)
  (h:c=true→U4 P w0 i args st Post) (hk:∀ v s,(c=true→Post v s)→(c=false→s=st)→k v s):La P w0 c false (.yld i) args st k := .inr ⟨rfl,Post,h,hk⟩
def argP (e:Env) (x:AV):AV:=if JM e 0=true then x else x.pub
theorem R.argP {w0:World} {M:Mem} {w:World} {v:Value} {x:AV} (e:Env) (h:R w0 M w v x):R w0 M w v (Go.Ev.argP e x):=by
 unfold Go.Ev.argP
 split
 ·exact h
 ·exact h.pub
def Zef (e:Env) (g:Nat):AV :=
 match look e (2000000+g) with
 | some (_,x)=>x
 | none => .junk
def ZiH (P:Program) (w0:World) (t:TypeId) (g:Nat) (x:AV):Prop :=
 ∀ (M:Mem) (w:World),Below w0.heap.size w0 w→∃ v,(Instr.loadAt t (.pointer (some ⟨g,0,none⟩))).run P w = .ok v w∧R w0 M w v x
def evS (P:Program) (w0:World) (n:Nat) (d:Bool) (all:List Oper) (R:List Oper→Env→St→Prop) (K:Env→St→Prop):List Oper→Env→St→Prop
 | [],e,st=>K e st
 | o::os,e,st =>
  Lm all (B9 d all o e) o.guard∧KZ n o.dst ∧
  match o.op with
  | .call ⟨.value f,args,_⟩ =>
   (B1 all (B9 d all o e) o.guard=true→AP (B9 d all o e) true f∧∀ x∈args.toList,AP (B9 d all o e) true x) ∧
   La P w0 (B1 all (B9 d all o e) o.guard) d (AC (B9 d all o e) f) (args.toList.map fun x=>argP (B9 d all o e) (AC (B9 d all o e) x)) st
    fun v st'=>R os (Lu e o.dst (B1 all (B9 d all o e) o.guard) v) st'
  | .load t (.global g)=>(d=false∧(B1 all (B9 d all o e) o.guard=true→ZiH P w0 t g (Zef e g)))∧evS P w0 n d all R K os (Lu e o.dst (B1 all (B9 d all o e) o.guard) (Zef e g)) st
  | op=>match A4 P (B9 d all o e) (B1 all (B9 d all o e) o.guard) st op with
   | (ob,v,st')=>(B1 all (B9 d all o e) o.guard=true→ob)∧((B1 all (B9 d all o e) o.guard=false∨d=true)→st'=st)∧evS P w0 n d all R K os (Lu e o.dst (B1 all (B9 d all o e) o.guard) v) st'
def Uu (P:Program) (w0:World) (n:Nat) (d:Bool) (all:List Oper) (K:Env→St→Prop):Nat→List Oper→Env→St→Prop
 | 0,_,_,_=>False
 | c+1,os,e,st=>evS P w0 n d all (Uu P w0 n d all K c) K os e st
theorem Ao {P:Program} {w0:World} {n:Nat} {d:Bool} {all:List Oper} {K:Env→St→Prop} {c:Nat} {os:List Oper} {e:Env} {st:St}:Uu P w0 n d all K (c+1) os e st=evS P w0 n d all (Uu P w0 n d all K c) K os e st:=rfl
def MF:Op→Bool
 | .call ⟨.value _,_,_⟩=>true
 | _=>false
def Zi4:Op→Bool
 | .load _ (.global _)=>true
 | _=>false
theorem XH {P:Program} {w0:World} {n:Nat} {d:Bool} {all:List Oper} {R:List Oper→Env→St→Prop} {K:Env→St→Prop} {o:Oper} {os:List Oper} {e:Env} {st:St} (hc:¬ MF o.op=true) (hgl:¬ Zi4 o.op=true) :
  evS P w0 n d all R K (o::os) e st=(Lm all (B9 d all o e) o.guard∧KZ n o.dst∧match A4 P (B9 d all o e) (B1 all (B9 d all o e) o.guard) st o.op with
   | (ob,v,st')=>(B1 all (B9 d all o e) o.guard=true→ob)∧((B1 all (B9 d all o e) o.guard=false∨d=true)→st'=st)∧evS P w0 n d all R K os (Lu e o.dst (B1 all (B9 d all o e) o.guard) v) st'):=by
 obtain ⟨dst,op,b,c,a,guard⟩:=o
 cases op with
 | call cc =>
  obtain ⟨callee,args,h⟩:=cc
  cases callee with
  | value f=>exact absurd rfl hc
  | _=>rfl
 | load t y =>
  cases y with
  | global g=>exact absurd rfl hgl
  | _=>rfl
 | _=>rfl
section
variable {P:Program} {w0:World} {n:Nat} {M:Mem} {e:Env} {st:St} {a:Act} {w:World}
theorem SX (h:Rel w0 n M e st a w) (ro:Option Nat) (m:Nat) (o:Oper) (hob:(A4 P e true st o.op).1) (Q:Exit→Act→World→Prop) (K:Act→World→Prop)
  (hK:∀ v w' M',Ext w0 M w M' w'→RelSt w0 M' (A4 P e true st o.op).2.2 w'→R w0 M' w' v (A4 P e true st o.op).2.1→K (a.put o.dst v) w'):o.wpIn (FW ro) m P a w K Q:=by
 have hd:∀ c,o.op ≠ .defer c:=by
  intro c j
  rw [j] at hob
  exact hob
 obtain ⟨v,w',M',b,d,g,i⟩:=Zd5 (P:=P) h o hob
 refine ⟨fun f _=>Tv ro f,?_⟩
 have hs:Oper.semAt (FW ro).round a.eval o=execOp a.eval o:=by
  cases ro with
  | none=>rfl
  | some l=>exact Oper.semAt_some l a.eval o hd
 rw [hs]
 rcases b with b | ⟨b,rfl⟩
 ·rw [b];exact hK v w' M' d g i
 ·rw [b];exact hK _ w' M' d g i
theorem Zcd {v:Value} {f:FuncId} {xs:List AV} (h:R w0 M w v (.clo f xs)):∃ cs,v = .func (.func f) #[] cs∧RowR w0 M w cs xs:=by
 cases h with
 | clo hl h=>exact ⟨_,rfl,hl,h⟩
theorem Zhb {v:Value} {k:Nat} (h:R w0 M w v (.yld k)):v = .func (.yield (M.lb k)) #[] #[]:=by
 cases h with
 | yld hk=>rfl
theorem ZhF (h:Rel w0 n M e st a w) {args:Array Operand} (hargs:∀ x∈args.toList,AP e true x):RowR w0 M w (args.map a.eval) (args.toList.map fun x=>argP e (AC e x)):=by
 refine .mk (by simp) (fun i u y hu hy=>?_)
 by_cases c:i<args.size
 ·simp only [Array.getElem?_map,Array.getElem?_eq_getElem c,Option.map_some,Option.some.injEq] at hu
  simp only [List.getElem?_map,Array.getElem?_toList,Array.getElem?_eq_getElem c,Option.map_some,Option.some.injEq] at hy
  subst hu;subst hy
  exact (A5 h (hargs _ (by simp))).argP e
 ·simp [Array.getElem?_eq_none (Nat.le_of_not_lt c)] at hu
theorem RowR.append {cs ds:Array Value} {xs ys:List AV} (h:RowR w0 M w cs xs) (k:RowR w0 M w ds ys):RowR w0 M w (cs++ds) (xs++ys):=by
 refine .mk (by simp [h.1,k.1]) (fun i u y a b=>?_)
 by_cases c:i<cs.size
 ·rw [Array.getElem?_append_left c] at a
  rw [List.getElem?_append_left (h.1▸c)] at b
  exact h.get a b
 ·rw [Array.getElem?_append_right (by omega)] at a
  rw [List.getElem?_append_right (by have:=h.1;omega)] at b
  rw [h.1] at a
  exact k.get a b
theorem LJ (h:Rel w0 n M e st a w) (ro:Option Nat) (m:Nat) {dst:Option Tmp} {f:Operand} {args:Array Operand} {ts:Array TypeId} {type:TypeId} {pos:String} {after:Array Edge} {guard:Option (Nat × Bool)}
  (hf:AP e true f) (hargs:∀ x∈args.toList,AP e true x) {Post:AV→St→Prop} (hv:OH P w0 (AC e f) (args.toList.map fun x=>argP e (AC e x)) st Post) (Q:Exit→Act→World→Prop) (K:Act→World→Prop)
  (hK:∀ r s,Post r s→∀ v w' M',Ext w0 M w M' w'→RelSt w0 M' s w'→R w0 M' w' v r→K (a.put dst v) w') :
  (⟨dst,.call ⟨.value f,args,ts⟩,type,pos,after,guard⟩:Oper).wpIn (FW ro) m P a w K Q:=by
 have i:=ZhF h hargs
 have p:=A5 h hf
 refine ⟨fun f _=>Tv ro f,?_⟩
 have hs:Oper.semAt (FW ro).round a.eval ⟨dst,.call ⟨.value f,args,ts⟩,type,pos,after,guard⟩=execOp a.eval ⟨dst,.call ⟨.value f,args,ts⟩,type,pos,after,guard⟩:=by
  cases ro with
  | none=>rfl
  | some l=>exact Oper.semAt_some l a.eval _ (fun c hh=>by cases hh)
 rw [hs]
 cases hx:AC e f with
 | clo g xs =>
  rw [hx] at p hv
  obtain ⟨cs,ef,z⟩:=Zcd p
  have b:(execOp a.eval ⟨dst,.call ⟨.value f,args,ts⟩,type,pos,after,guard⟩).run P w = .ok (.enter g (args.map a.eval++cs)) w:=by
   simp [execOp,resolve,ef,Deferred.ofValue,invoke,hv.1 (args.map a.eval++cs) w]
  rw [b]
  refine ⟨fun q=>Wh ro q m,VU ((hv.2 M w _ h.st (i.append z)).mono ?_)⟩
  rintro en w' ⟨u,M',r,s,rfl,C,t,E,D⟩
  exact hK r s C u w' M' t E D
 | yld k =>
  rw [hx] at p hv
  have ef:=Zhb p
  obtain ⟨H,o,y,j,G,d⟩:=hv M w _ h.st i
  have b:(execOp a.eval ⟨dst,.call ⟨.value f,args,ts⟩,type,pos,after,guard⟩).run P w = .ok (.round (M.lb k) H o y j) w:=by
   simp [execOp,resolve,ef,Deferred.ofValue,invoke,G]
  rw [b]
  refine ⟨fun q=>Wh ro q m,?_⟩
  have:=d (m-1)
  refine RoundIn.mono (F:=FW ro) (by cases ro<;>exact this) ?_
  rintro en w' ⟨u,M',r,s,rfl,C,t,E,D⟩
  exact hK r s C u w' M' t E D
 | _=>rw [hx] at hv;exact hv.elim
theorem LV (a:Act) (dst:Option Nat) (v:Value) (s:Nat) (hd:KZ a.tmps.size dst):(a.put dst v).tmps.getD s undef=if dst=some s then v else a.tmps.getD s undef:=by
 cases dst with
 | none=>simp [Act.put]
 | some d =>
  simp only [KZ] at hd
  simp only [Act.put,Option.some.injEq]
  by_cases c:d=s
  ·subst c
   simp [hd]
  ·rw [Aj c]
   simp [Array.getElem?_setIfInBounds_ne c]
theorem QT (a:Act) (dst:Option Nat) (v:Value):(a.put dst v).tmps.size=a.tmps.size:=by cases dst<;>simp [Act.put]
theorem It (a:Act) (dst:Option Nat) (v:Value):(a.put dst v).defers=a.defers:=by cases dst<;>rfl
theorem Rel.put (h:Rel w0 n M e st a w) {M':Mem} {w':World} {st':St} (hx:Ext w0 M w M' w') (hst:RelSt w0 M' st' w') {dst:Option Nat} (hd:KZ n dst) {c:Bool} {v:Value} {r:AV} (hv:entryOk w0 M' w' v (c,r)) :
  Rel w0 n M' (Lu e dst c r) st' (a.put dst v) w':=by
 refine ⟨hst,by rw [QT];exact h.size,fun s x hs=>?_⟩
 rw [LV a dst v s (by rw [h.size];exact hd)]
 cases dst with
 | none=>exact (h.env s x hs).mono hx
 | some d =>
  simp only [Lu,look] at hs
  simp only [Option.some.injEq]
  by_cases q:d=s
  ·rw [Ai q] at hs ⊢
   cases hs
   exact hv
  ·rw [Aj q] at hs ⊢
   exact (h.env s x hs).mono hx
theorem Zb {ops:Array Oper} {ts:Array Value} {j d:Nat} (h:(ops[j]?).bind (·.dst)=some d):yielded ops ts j=match ts.getD d undef with | .bool b=>some b | _=>none:=by
 unfold yielded
 simp only [h]
 rw [Array.getD_eq_getD_getElem?]
 change (match ts[(d:Nat)]? with | some (.bool b)=>some b | _=>none)=_
 cases ts[(d:Nat)]? with
 | none=>rfl
 | some v=>cases v<;>rfl
theorem MS (h:Rel w0 n M e st a w) {all:List Oper} {o:Oper} (hg:Lm all e o.guard):Region.wanted o (yielded all.toArray a.tmps)=B1 all e o.guard:=by
 unfold Region.wanted B1
 cases hgd:o.guard with
 | none=>rfl
 | some p =>
  obtain ⟨j,want⟩:=p
  rw [hgd] at hg
  simp only [Lm] at hg
  have f:(all.toArray[j]?).bind (·.dst)=(all[j]?).bind (·.dst):=by simp
  dsimp only
  cases hd:(all[j]?).bind (·.dst) with
  | none=>simp [hd] at hg
  | some d =>
   rw [Zb (f.trans hd)]
   simp only [hd] at hg ⊢
   cases hl:look e d with
   | none=>simp [hl] at hg
   | some x =>
    obtain ⟨cj,v⟩:=x
    simp only [hl] at hg ⊢
    have c:=h.env d _ hl
    cases v with
    | val u =>
     cases u<;>try cases hg
     rename_i b
     unfold entryOk at c
     cases cj with
     | true =>
      rw [Ai rfl] at c
      obtain ⟨g,_⟩:=c.val_inv
      rw [g]
      cases b<;>cases want<;>rfl
     | false =>
      rw [Aj (by simp)] at c
      rw [c]
      rfl
    | _=>cases hg
def Zd7 (e' e:Env):Prop:=∀ s x,look e' s=some x→look e s=some x
theorem Rel.sub {e':Env} (h:Rel w0 n M e st a w) (hs:Zd7 e' e):Rel w0 n M e' st a w:=⟨h.st,h.size,fun s x b=>h.env s x (hs s x b)⟩
theorem Jq:∀ (K:List Nat) (e:Env) (s:Nat) (x:Bool × AV),look (Ea K e) s=some x→look e s=some x
 | [],_,_,_,h=>by simp [Ea,look] at h
 | k::K,e,s,x,h=>by
  simp only [Ea] at h
  cases hk:look e k with
  | none =>
   simp only [hk] at h
   exact Jq K e s x h
  | some y =>
   obtain ⟨c,v⟩:=y
   simp only [hk,look] at h
   by_cases q:k=s
   ·rw [Ai q] at h
    subst q
    rw [hk];exact h
   ·rw [Aj q] at h
    exact Jq K e s x h
theorem DV (K:List Nat) (e:Env):Zd7 (Ea K e) e:=Jq K e
theorem Nk:∀ (K:List Nat) (e:Env) (s:Nat) (x:Bool × AV),look (Ea K e) s=some x→s∈K
 | [],_,_,_,h=>by simp [Ea,look] at h
 | k::K,e,s,x,h=>by
  simp only [Ea] at h
  cases hk:look e k with
  | none =>
   simp only [hk] at h
   exact List.mem_cons_of_mem _ (Nk K e s x h)
  | some y =>
   obtain ⟨c,v⟩:=y
   simp only [hk,look] at h
   by_cases q:k=s
   ·exact q▸List.mem_cons_self
   ·rw [Aj q] at h
    exact List.mem_cons_of_mem _ (Nk K e s x h)
theorem ZeP (d:Bool) (all:List Oper) (o:Oper) (e:Env):Zd7 (B9 d all o e) e:=by
 unfold B9
 split
 ·exact DV _ _
 ·exact fun _ _ h=>h
theorem Sj (ro:Option Nat) (m:Nat) (d:Bool) (all:List Oper) (KK:Env→St→Prop) (Q:Exit→Act→World→Prop):∀ (c:Nat) (os:List Oper) (e:Env) (st:St) (a:Act) (w:World) (M:Mem),Rel w0 n M e st a w →
  Uu P w0 n d all KK c os e st→(∀ e' st' a' w' M',KK e' st'→Rel w0 n M' e' st' a' w'→Ext w0 M w M' w'→a'.defers=a.defers→Q .normal a' w')→wpListIn (FW ro) m P all.toArray Q os a w
 | 0,_,_,_,_,_,_,_,h,_=>h.elim
 | c+1,os,e,st,a,w,M,hr,h,C=>by
  have H:∀ (os:List Oper) (e:Env) (st:St) (a:Act) (w:World) (M:Mem),Rel w0 n M e st a w→evS P w0 n d all (Uu P w0 n d all KK c) KK os e st →
    (∀ e' st' a' w' M',KK e' st'→Rel w0 n M' e' st' a' w'→Ext w0 M w M' w'→a'.defers=a.defers→Q .normal a' w')→wpListIn (FW ro) m P all.toArray Q os a w:=by
   intro os
   induction os with
   | nil=>exact fun e st a w M hr h C=>C e st a w M h hr (.refl _ _ _) rfl
   | cons o os ih =>
    intro e st a w M hr h C
    have hv:=ZeP d all o e
    have k:=hr.sub hv
    by_cases hc:MF o.op=true
    ·obtain ⟨dst,op,type,pos,after,guard⟩:=o
     cases op<;>try cases hc
     rename_i cc
     obtain ⟨callee,args,ts⟩:=cc
     cases callee<;>try cases hc
     rename_i f
     simp only [evS] at h
     obtain ⟨E,hd,z,x⟩:=h
     unfold wpListIn
     rw [MS k E]
     have go:∀ v s,Uu P w0 n d all KK c os (Lu e dst (B1 all (B9 d all ⟨dst,.call ⟨.value f,args,ts⟩,type,pos,after,guard⟩ e) guard) v) s→∀ u w' M',Ext w0 M w M' w'→RelSt w0 M' s w' →
       entryOk w0 M' w' u (B1 all (B9 d all ⟨dst,.call ⟨.value f,args,ts⟩,type,pos,after,guard⟩ e) guard,v)→wpListIn (FW ro) m P all.toArray Q os (a.put dst u) w':=by
      intro v s G u w' M' hx hst hu
      exact Sj ro m d all KK Q c os _ _ _ _ M' (hr.put hx hst hd hu) G (fun e' st' a' b i p j N K=>C e' st' a' b i p j (hx.trans N) (K.trans (It a dst u)))
     cases hcc:B1 all (B9 d all ⟨dst,.call ⟨.value f,args,ts⟩,type,pos,after,guard⟩ e) guard with
     | true =>
      rw [hcc] at z x go
      obtain ⟨V,U⟩:=z rfl
      rw [Ai rfl]
      rcases x with ⟨v,p,j⟩ | ⟨_,Post,p,j⟩
      ·refine LJ k ro m V U (p rfl) Q _ (fun r s O u w' M' hx hst hu=>?_)
       obtain ⟨rfl,rfl⟩:=O
       exact go _ _ j u w' M' hx hst hu
      ·exact LJ k ro m V U (p rfl) Q _ (fun r s O u w' M' hx hst hu=>go _ _ (j r s (fun _=>O) (fun q=>by cases q)) u w' M' hx hst hu)
     | false =>
      rw [hcc] at z x go
      rw [Aj (by simp)]
      refine ⟨fun g _=>Tv ro g,?_⟩
      rcases x with ⟨v,p,j⟩ | ⟨_,Post,p,j⟩
      ·exact go _ _ j undef w M (.refl _ _ _) hr.st rfl
      ·exact go .junk st (j .junk st (fun q=>by cases q) (fun _=>rfl)) undef w M (.refl _ _ _) hr.st rfl
    by_cases hgl:Zi4 o.op=true
    ·obtain ⟨dst,op,type,pos,after,guard⟩:=o
     cases op<;>try cases hgl
     rename_i t y
     cases y<;>try cases hgl
     rename_i g
     simp only [evS] at h
     obtain ⟨E,hd,⟨_,z⟩,x⟩:=h
     unfold wpListIn
     rw [MS k E]
     cases hcc:B1 all (B9 d all ⟨dst,.load t (.global g),type,pos,after,guard⟩ e) guard with
     | true =>
      rw [hcc] at z x
      rw [Ai rfl]
      obtain ⟨v,p,j⟩:=z rfl M w hr.st.below
      refine ⟨fun f _=>Tv ro f,?_⟩
      have hs:Oper.semAt (FW ro).round a.eval ⟨dst,.load t (.global g),type,pos,after,guard⟩=execOp a.eval ⟨dst,.load t (.global g),type,pos,after,guard⟩:=by
       cases ro with
       | none=>rfl
       | some l=>exact Oper.semAt_some l a.eval _ (fun c hh=>by cases hh)
      have F:(execOp a.eval ⟨dst,.load t (.global g),type,pos,after,guard⟩).run P w = .ok (.value v) w:=by
       have Z:a.eval (.global g) = .pointer (some ⟨g,0,none⟩):=rfl
       simp [execOp,Z,p]
      rw [hs,F]
      exact ih _ _ _ _ M (hr.put (.refl _ _ _) hr.st hd (c:=true) (show entryOk w0 M w v (true,_) from j)) x (fun e' st' a' b i q1 q2 q3 J=>C e' st' a' b i q1 q2 q3 (J.trans (It a dst v)))
     | false =>
      rw [hcc] at x
      rw [Aj (by simp)]
      refine ⟨fun f _=>Tv ro f,ih _ _ _ _ M (hr.put (.refl _ _ _) hr.st hd (c:=false) (show entryOk w0 M w undef (false,_) from rfl)) x (fun e' st' a' b i q1 q2 q3 J=>C e' st' a' b i q1 q2 q3 (J.trans (It a dst undef)))⟩
    ·rw [XH hc hgl] at h
     obtain ⟨E,hd,z,Y,D⟩:=h
     unfold wpListIn
     rw [MS k E]
     have go:∀ u w' M',Ext w0 M w M' w'→RelSt w0 M' (A4 P (B9 d all o e) (B1 all (B9 d all o e) o.guard) st o.op).2.2 w' →
       entryOk w0 M' w' u (B1 all (B9 d all o e) o.guard,(A4 P (B9 d all o e) (B1 all (B9 d all o e) o.guard) st o.op).2.1)→wpListIn (FW ro) m P all.toArray Q os (a.put o.dst u) w':=by
      intro u w' M' hx hst hu
      exact ih _ _ _ _ M' (hr.put hx hst hd hu) D (fun e' st' a' b i p j N K=>C e' st' a' b i p j (hx.trans N) (K.trans (It a o.dst u)))
     cases hcc:B1 all (B9 d all o e) o.guard with
     | true =>
      rw [hcc] at z go
      rw [Ai rfl]
      exact SX k ro m o (z rfl) Q _ (fun v w' M' hx hst hv=>go v w' M' hx hst hv)
     | false =>
      rw [hcc] at Y go
      rw [Aj (by simp)]
      refine ⟨fun g _=>Tv ro g,go undef w M (.refl _ _ _) ?_ rfl⟩
      have q:(A4 P (B9 d all o e) false st o.op).2.2=st:=Y (.inl rfl)
      rw [q]
      exact hr.st
  exact H os e st a w M hr h C
end
def Marked (W0:World) (ds:List Deferred) (w:World):Prop :=
 ∃ Ds:List Nat,Ds.Nodup∧ds=Ds.map (fun D=>{ target := .collected D,args := #[] })∧∀ D∈Ds,W0.heap.size≤D∧w.heap[D]? = some (.deferred (some []))
abbrev AQ:=Exit→Env→St→Prop
structure At (w0:World) (n:Nat) (M0:Mem) (W0:World) (e:Env) (st:St) (a:Act) (w:World) (M:Mem):Prop where
 rel:Rel w0 n M e st a w
 ext:Ext w0 M0 W0 M w
 marks:Marked W0 a.defers w
def Zk1 (w0:World) (n:Nat) (M0:Mem) (W0:World) (Q:AQ) (x:Exit) (a':Act) (w':World):Prop :=
 ∃ M' e' st',At w0 n M0 W0 e' st' a' w' M'∧Q x e' st'
def Eb (P:Program) (w0:World) (n:Nat) (M0:Mem) (W0:World) (ro:Option Nat) (c:Code) (Q:AQ) (e:Env) (st:St):Prop :=
 ∀ m M a w,At w0 n M0 W0 e st a w M→c.wpIn (FW ro) m P (Zk1 w0 n M0 W0 Q) a w
def Xh (K:Env→St→Prop) (Q:AQ):AQ
 | .normal,e,st=>K e st
 | x,e,st=>Q x e st
def U9 (id:Nat) (Q:AQ):AQ
 | .exit i,e,st=>if i=id then Q .normal e st else Q (.exit i) e st
 | x,e,st=>Q x e st
section
variable {P:Program} {w0:World} {n:Nat} {M0:Mem} {W0:World} {ro:Option Nat} {Q:AQ} {e:Env} {st:St}
theorem Zfp {c:Code} {Q':AQ} (h:Eb P w0 n M0 W0 ro c Q e st) (hq:∀ x e s,Q x e s→Q' x e s):Eb P w0 n M0 W0 ro c Q' e st :=
 fun m M a w d=>wpIn_mono (h m M a w d) fun _ _ _ ⟨M',g,f,b,i⟩=>⟨M',g,f,b,hq _ _ _ i⟩
theorem At.sub {M:Mem} {a:Act} {w:World} {e':Env} (h:At w0 n M0 W0 e st a w M) (hs:Zd7 e' e):At w0 n M0 W0 e' st a w M:=⟨h.rel.sub hs,h.ext,h.marks⟩
theorem Marked.later {M M':Mem} {ds:List Deferred} {w w':World} (h:Marked W0 ds w) (hx:Ext w0 M w M' w') (hl:RelSt w0 M st w):Marked W0 ds w':=by
 obtain ⟨Ds,f,i,c⟩:=h
 refine ⟨Ds,f,i,fun D a=>⟨(c D a).1,hx.objs D _ (c D a).2 rfl fun k g e=>?_⟩⟩
 have b:k<st.loops.length:=by rw [←hl.loop.NL];exact g
 obtain ⟨_,d⟩:=hl.loop.record k _ (List.getElem?_eq_getElem b)
 rw [e] at d
 exact d.nodef (c D a).2
theorem Lh {c:Code} (e':Env) (h:Eb P w0 n M0 W0 ro c Q e' st) (hs:Zd7 e' e):Eb P w0 n M0 W0 ro c Q e st:=fun m M a w b=>h m M a w (b.sub hs)
theorem Ap (c:Nat) (L:List Nat) {id:Nat} {l:List Oper} (h:Uu P w0 n false l (fun e' st'=>Q .normal (Ea L e') st') c l e st):Eb P w0 n M0 W0 ro (.region id l.toArray false) Q e st:=by
 intro m M a w b
 refine wpIn_region_lit (Sj ro m false l _ _ c l e st a w M b.rel h fun e' st' k o f i j d g=>⟨f,_,_,⟨j.sub (DV L _),b.ext.trans d,?_⟩,i⟩)
 rw [g]
 exact b.marks.later d b.rel.st
theorem BI (h:Q .normal e st):Eb P w0 n M0 W0 ro .skip Q e st:=fun _ M _ _ a=>wpIn_skip ⟨M,e,st,a,h⟩
theorem E4 {id:Nat} (h:Q (.exit id) e st):Eb P w0 n M0 W0 ro (.exit id) Q e st:=fun _ M _ _ a=>wpIn_exit ⟨M,e,st,a,h⟩
theorem AM (h:Q .ret e st):Eb P w0 n M0 W0 ro .ret Q e st:=fun _ M _ _ a=>wpIn_ret ⟨M,e,st,a,h⟩
theorem An {x y:Code} (h:∀ K:Env→St→Prop,(∀ e s,Eb P w0 n M0 W0 ro y Q e s→K e s)→Eb P w0 n M0 W0 ro x (Xh K Q) e st):Eb P w0 n M0 W0 ro (.seq x y) Q e st:=by
 intro m M a w f
 refine wpIn_seq (wpIn_mono (h (Eb P w0 n M0 W0 ro y Q) (fun _ _ h=>h) m M a w f) ?_)
 rintro ex d j ⟨M',i,g,b,c⟩
 cases ex with
 | normal=>exact c m M' d j b
 | _=>exact ⟨M',i,g,b,c⟩
theorem AA {x y:Code} (I:Env→St→Prop) (hx:∀ K:Env→St→Prop,(∀ e s,I e s→K e s)→Eb P w0 n M0 W0 ro x (Xh K Q) e st) (hy:∀ e s,I e s→Eb P w0 n M0 W0 ro y Q e s):Eb P w0 n M0 W0 ro (.seq x y) Q e st :=
 An fun K a=>Zfp (hx I fun _ _ h=>h) fun ex e s h=>by
  cases ex with
  | normal=>exact a e s (hy e s h)
  | _=>exact h
theorem Ar {id:Nat} {c:Code} (h:Eb P w0 n M0 W0 ro c (U9 id Q) e st):Eb P w0 n M0 W0 ro (.block id c) Q e st:=by
 intro m M a w j
 refine wpIn_block (wpIn_mono (h m M a w j) ?_)
 rintro ex k l ⟨M',g,f,d,b⟩
 cases ex with
 | exit i =>
  simp only [U9] at b
  simp only [Exit.inBlock]
  split at b<;>rename_i hc
  ·rw [Ai hc];exact ⟨M',g,f,d,b⟩
  ·rw [Aj hc];exact ⟨M',g,f,d,b⟩
 | _=>exact ⟨M',g,f,d,b⟩
theorem AN {c:Operand} {x y:Code} (b:Bool) (hc:AP e true c) (hb:AC e c = .val (.bool b)) (ht:b=true→Eb P w0 n M0 W0 ro x Q e st) (hf:b=false→Eb P w0 n M0 W0 ro y Q e st):Eb P w0 n M0 W0 ro (.cond c x y) Q e st:=by
 intro m M a w d
 have hv:=A5 d.rel hc
 rw [hb] at hv
 have ev:a.eval c = .bool b:=hv.val_inv.1
 exact wpIn_cond_split ev (fun h=>ht h m M a w d) (fun h=>hf h m M a w d)
theorem NN (p:Nat→Prop) (h:∃ k,p k):∃ k,p k∧∀ m,p m→k≤m:=by
 obtain ⟨k,d⟩:=h
 induction k using Nat.strongRecOn with
 | _ k ih =>
  by_cases c:∃ m,m<k∧p m
  ·obtain ⟨m,a,b⟩:=c
   exact ih m a b
  ·exact ⟨k,d,fun m e=>by
    by_cases c':m<k
    ·exact absurd ⟨m,c',e⟩ c
    ·omega⟩
theorem Az {c:Code} (I:Nat→Env→St→Prop) (k0:Nat) (h0:I k0 e st) (round:∀ k e s,I k e s→∀ K:Env→St→Prop,(∀ k' e' s',k'<k→I k' e' s'→K e' s')→Eb P w0 n M0 W0 ro c (Xh K Q) e s):Eb P w0 n M0 W0 ro (.loop c) Q e st:=by
 intro m M a w t
 let J:Nat→Act→World→Prop:=fun k b d=>∃ M' e' s',At w0 n M0 W0 e' s' b d M'∧I k e' s'
 let μ:Act→World→Nat:=fun b d=>by
  classical exact if h:∃ k,J k b d then Classical.choose (NN (fun k=>J k b d) h) else 0
 have q:∀ b d k,J k b d→J (μ b d) b d∧μ b d≤k:=by
  intro b d k i
  have f:∃ k,J k b d:=⟨k,i⟩
  have:=Classical.choose_spec (NN (fun k=>J k b d) f)
  have e:μ b d=Classical.choose (NN (fun k=>J k b d) f):=by simp only [μ,dif_pos f]
  rw [e]
  exact ⟨this.1,this.2 k i⟩
 refine wpIn_loop (fun b d=>∃ k,J k b d) μ ⟨k0,M,e,st,t,h0⟩ ?_
 rintro a1 l ⟨k,i⟩
 obtain ⟨⟨M1,u,x,z,v⟩,_⟩:=q a1 l k i
 refine wpIn_mono (round _ u x v (fun e' s'=>∃ k',k'<_∧I k' e' s') (fun k' _ _ g y=>⟨k',g,y⟩) m M1 a1 l z) ?_
 rintro ex b d ⟨M',e',s',g,p⟩
 cases ex with
 | normal =>
  obtain ⟨k',j,r⟩:=p
  have o:J k' b d:=⟨M',e',s',g,r⟩
  exact ⟨⟨k',o⟩,Nat.lt_of_le_of_lt (q b d k' o).2 j⟩
 | _=>exact ⟨M',e',s',g,p⟩
def Own.under (nr:Nat):Own→Prop
 | .row id=>id<nr
 | _=>True
inductive Under (nb nr nl:Nat):AV→Prop
 | val (v:Value):Under nb nr nl (.val v)
 | list {xs:List AV} {o:Own} (h:∀ x∈xs,Under nb nr nl x) (ho:o.under nr):Under nb nr nl (.list xs o)
 | elem {x:AV} {k:Nat} (h:Under nb nr nl x):Under nb nr nl (.elem x k)
 | box {l k:Nat} (h:l<nb):Under nb nr nl (.box l k)
 | clo {f:FuncId} {xs:List AV} (h:∀ x∈xs,Under nb nr nl x):Under nb nr nl (.clo f xs)
 | agg {xs:List AV} (h:∀ x∈xs,Under nb nr nl x):Under nb nr nl (.agg xs)
 | tup {xs:List AV} (h:∀ x∈xs,Under nb nr nl x):Under nb nr nl (.tup xs)
 | yld {k:Nat} (h:k<nl):Under nb nr nl (.yld k)
 | mp {k:Nat} (h:k<nl):Under nb nr nl (.mp k)
 | vec {id ver o n:Nat} (h:id<nr):Under nb nr nl (.vec id ver o n)
 | vel {id ver o:Nat} (h:id<nr):Under nb nr nl (.vel id ver o)
theorem Xw {nb nr nl:Nat} (v:Value):Under nb nr nl (.val v)↔True:=iff_true_intro (.val v)
theorem VF {nb nr nl:Nat} {xs:List AV} {o:Own}:Under nb nr nl (.list xs o)↔(∀ x∈xs,Under nb nr nl x)∧o.under nr:=⟨fun h=>by cases h with | list a b=>exact ⟨a,b⟩,fun h => .list h.1 h.2⟩
theorem U2 {nb nr nl:Nat} {x:AV} {k:Nat}:Under nb nr nl (.elem x k)↔Under nb nr nl x:=⟨fun h=>by cases h;assumption,.elem⟩
theorem Xx {nb nr nl l k:Nat}:Under nb nr nl (.box l k)↔l<nb:=⟨fun h=>by cases h;assumption,.box⟩
theorem RQ {nb nr nl:Nat} {f:FuncId} {xs:List AV}:Under nb nr nl (.clo f xs)↔∀ x∈xs,Under nb nr nl x:=⟨fun h=>by cases h;assumption,.clo⟩
theorem Py {nb nr nl:Nat} {xs:List AV}:Under nb nr nl (.agg xs)↔∀ x∈xs,Under nb nr nl x:=⟨fun h=>by cases h;assumption,.agg⟩
theorem XE {nb nr nl:Nat} {xs:List AV}:Under nb nr nl (.tup xs)↔∀ x∈xs,Under nb nr nl x:=⟨fun h=>by cases h;assumption,.tup⟩
theorem Xq {nb nr nl k:Nat}:Under nb nr nl (.yld k)↔k<nl:=⟨fun h=>by cases h;assumption,.yld⟩
theorem ZM {nb nr nl k:Nat}:Under nb nr nl (.mp k)↔k<nl:=⟨fun h=>by cases h;assumption,.mp⟩
theorem XI {nb nr nl id ver o n:Nat}:Under nb nr nl (.vec id ver o n)↔id<nr:=⟨fun h=>by cases h;assumption,.vec⟩
theorem XC {nb nr nl id ver o:Nat}:Under nb nr nl (.vel id ver o)↔id<nr:=⟨fun h=>by cases h;assumption,.vel⟩
def Mem.cut (M:Mem) (nb nr nl:Nat):Mem:={ M with N:=nb,NR:=nr,NL:=nl }
theorem R.cut {M:Mem} {w:World} {v:Value} {x:AV} {nb nr nl:Nat} (h:R w0 M w v x) (hu:Under nb nr nl x):R w0 (M.cut nb nr nl) w v x:=by
 induction h with
 | flat h=>exact .flat h
 | agg hl d _ ih=>exact .agg hl d fun i a b=>ih i a b (Py.1 hu _ (List.getElem_mem _))
 | tup hl _ ih=>exact .tup hl fun i a b=>ih i a b (XE.1 hu _ (List.getElem_mem _))
 | nil ho=>exact .nil ho
 | emp ho=>exact .emp ho
 | @list b off cap xs o sz us hc hm hcell _ ho ih =>
  obtain ⟨d,e⟩:=VF.1 hu
  refine .list sz us hc hm hcell (fun i c=>ih i c (d _ (List.getElem_mem _))) ?_
  cases o with
  | none=>trivial
  | full=>exact ho
  | seed=>exact ho
  | row id=>exact ⟨e,ho.2⟩
 | elem u k hcell _ ih=>exact .elem u k hcell (ih (U2.1 hu))
 | box _=>exact .box (M:=M.cut nb nr nl) (Xx.1 hu)
 | clo hl _ ih=>exact .clo hl fun i a b=>ih i a b (RQ.1 hu _ (List.getElem_mem _))
 | yld _=>exact .yld (M:=M.cut nb nr nl) (Xq.1 hu)
 | mp _=>exact .mp (M:=M.cut nb nr nl) (ZM.1 hu)
 | vec c hv h=>exact .vec (M:=M.cut nb nr nl) (XI.1 hu) hv h
 | vel c hv h=>exact .vel (M:=M.cut nb nr nl) (XC.1 hu) hv h
theorem R.under {M:Mem} {w:World} {v:Value} {x:AV} (h:R w0 M w v x):Under M.N M.NR M.NL x:=by
 have c:∀ {cs:Array Value} {xs:List AV},cs.size=xs.length→(∀ i (_:i<cs.size) (h2:i<xs.length),Under M.N M.NR M.NL xs[i])→∀ x∈xs,Under M.N M.NR M.NL x:=by
  intro cs xs d h x e
  obtain ⟨i,a,rfl⟩:=List.mem_iff_getElem.1 e
  exact h i (d▸a) a
 induction h with
 | flat h=>exact .val _
 | agg d h1 _ ih=>exact .agg (c d ih)
 | tup d _ ih=>exact .tup (c d ih)
 | nil ho=>exact .list (fun _ h=>by cases h) (by rename_i o;cases o<;>first | trivial | exact absurd rfl (ho _))
 | emp ho=>exact .list (fun _ h=>by cases h) (by rename_i o;cases o<;>first | trivial | exact absurd rfl (ho _))
 | @list b off cap xs o sz us hc hm hcell _ ho ih =>
  refine .list (fun x e=>?_) ?_
  ·obtain ⟨i,a,rfl⟩:=List.mem_iff_getElem.1 e
   exact ih i a
  ·cases o with
   | row id=>exact ho.1
   | _=>trivial
 | elem u k hcell _ ih=>exact .elem ih
 | box h=>exact .box h
 | clo d _ ih=>exact .clo (c d ih)
 | yld h=>exact .yld h
 | mp h=>exact .mp h
 | vec a _ _=>exact .vec a
 | vel a _ _=>exact .vel a
def Jn (nb nr nl:Nat):Env→Prop
 | []=>True
 | (_,c,v)::e=>(c=true→Under nb nr nl v)∧Jn nb nr nl e
theorem Vd {nb nr nl:Nat}:∀ {e:Env} {s:Nat} {x:Bool × AV},Jn nb nr nl e→look e s=some x→x.1=true→Under nb nr nl x.2
 | (k,c,v)::e,s,x,h,hl,ht=>by
  simp only [look] at hl
  by_cases q:k=s
  ·rw [Ai q] at hl;cases hl;exact h.1 ht
  ·rw [Aj q] at hl;exact Vd h.2 hl ht
def St.cut (s:St) (nb nr nl:Nat):St:=⟨s.boxes.take nb,s.rows.take nr,s.loops.take nl⟩
def RowA.cells:RowA→List AV
 | .vec _ _ cs=>cs
 | _=>[]
structure Calm (nb nr nl:Nat) (s:St):Prop where
 rows:∀ r∈s.rows,∀ x∈r.cells,Under nb nr nl x
 boxes:∀ cs∈s.boxes,∀ x∈cs,Under nb nr nl x
 loops:∀ la∈s.loops,∀ k x,look la.e k=some x→x.1=true→Under nb nr nl x.2
theorem RelSt.calm {M:Mem} {w:World} (h:RelSt w0 M st w):Calm st.boxes.length st.rows.length st.loops.length st where
 rows:=by
  intro r n x hx
  obtain ⟨l,a,rfl⟩:=List.mem_iff_getElem.1 n
  have m:=h.row l _ (List.getElem?_eq_getElem a)
  cases hrow:st.rows[l] with
  | vec ver sz cs =>
   rw [hrow] at m hx
   obtain ⟨_,_,_,_,_,_,_,c,_,_,_,b,_,f⟩:=m
   obtain ⟨i,d,rfl⟩:=List.mem_iff_getElem.1 hx
   have e:i<cs.length:=d
   have:=(f i (by omega) e).under
   rwa [h.N,h.NR,h.loop.NL] at this
  | _=>rw [hrow] at hx;cases hx
 boxes:=by
  intro cs g x hx
  obtain ⟨l,a,rfl⟩:=List.mem_iff_getElem.1 g
  obtain ⟨_,_,c,_,_,b,_,f⟩:=h.box l _ (List.getElem?_eq_getElem a)
  obtain ⟨i,d,rfl⟩:=List.mem_iff_getElem.1 hx
  have:=(f i (b▸d) d).under
  rwa [h.N,h.NR,h.loop.NL] at this
 loops:=by
  intro p j k x hx o
  obtain ⟨l,a,rfl⟩:=List.mem_iff_getElem.1 j
  have:=(h.loop.record l _ (List.getElem?_eq_getElem a)).2.ent k x hx
  obtain ⟨v,this⟩:=this
  unfold entryOk at this
  rw [Ai o] at this
  have:=this.under
  rwa [h.N,h.NR,h.loop.NL] at this
theorem entryOk.cut {M:Mem} {w:World} {nb nr nl:Nat} {v:Value} {x:Bool × AV} (h:entryOk w0 M w v x) (hu:x.1=true→Under nb nr nl x.2):entryOk w0 (M.cut nb nr nl) w v x:=by
 unfold entryOk at *
 split
 ·rename_i c;rw [Ai c] at h;exact h.cut (hu c)
 ·rename_i c;rw [Aj c] at h;exact h
theorem RelSt.cut {M:Mem} {w:World} (h:RelSt w0 M st w) {nb nr nl:Nat} (h1:nb≤st.boxes.length) (h2:nr≤st.rows.length) (h3:nl≤st.loops.length) (hc:Calm nb nr nl (st.cut nb nr nl)) :
  RelSt w0 (M.cut nb nr nl) (st.cut nb nr nl) w where
 below:=h.below
 N:=by simp [Mem.cut,St.cut];omega
 NR:=by simp [Mem.cut,St.cut];omega
 top:=h.top
 inj:=fun l F k H e=>h.inj l F (by have:=h.N;simp only [Mem.cut] at k;omega) (by have:=h.N;simp only [Mem.cut] at H;omega) e
 box:=fun l cs g=>by
  simp only [St.cut] at g
  have m:l<nb:=by
   have:=(Ak.1 g).1
   simp at this;omega
  have a:cs∈st.boxes.take nb:=List.mem_of_getElem? g
  rw [List.getElem?_take_of_lt m] at g
  obtain ⟨a1,a2,c,r,a3,a4,a5,a6⟩:=h.box l cs g
  exact ⟨a1,a2,c,r,a3,a4,a5,fun i z o=>(a6 i z o).cut (hc.boxes cs a _ (List.getElem_mem _))⟩
 row:=fun id x b=>by
  simp only [St.cut] at b
  have u:id<nr:=by
   have:=(Ak.1 b).1
   simp at this;omega
  have a:x∈st.rows.take nr:=List.mem_of_getElem? b
  rw [List.getElem?_take_of_lt u] at b
  have f:=h.row id x b
  have d:nb≤M.N:=by have:=h.N;omega
  cases x with
  | grow n sz =>
   obtain ⟨a1,a2,a3,a4,a5,a6,a7,y⟩:=f
   exact ⟨a1,a2,a3,a4,fun l g=>a5 l (Nat.lt_of_lt_of_le g d),a6,a7,y⟩
  | vec v sz cs =>
   obtain ⟨a1,a2,a3,a4,a5,a6,a7,c,r,y,t,z,o,G⟩:=f
   exact ⟨a1,a2,a3,a4,fun l g=>a5 l (Nat.lt_of_lt_of_le g d),a6,a7,c,r,y,t,z,o,fun i h1 h2=>(G i h1 h2).cut (hc.rows _ a _ (List.getElem_mem _))⟩
  | dead v =>
   obtain ⟨a1,a2,a3,a4⟩:=f
   exact ⟨a1,a2,fun l g=>a3 l (Nat.lt_of_lt_of_le g d),a4⟩
 rowinj:=fun i j p C e=>h.rowinj i j (by have:=h.NR;simp only [Mem.cut] at p;omega) (by have:=h.NR;simp only [Mem.cut] at C;omega) e
 loop:={
  NL:=by simp [Mem.cut,St.cut];omega
  inj:=fun i j p C e=>h.loop.inj i j (by have:=h.loop.NL;simp only [Mem.cut] at p;omega) (by have:=h.loop.NL;simp only [Mem.cut] at C;omega) e
  record:=fun k D b=>by
   simp only [St.cut] at b
   have E:k<nl:=by
    have:=(Ak.1 b).1
    simp at this;omega
   have a:D∈st.loops.take nl:=List.mem_of_getElem? b
   rw [List.getElem?_take_of_lt E] at b
   obtain ⟨a1,a2⟩:=h.loop.record k D b
   exact ⟨a1,a2.map (fun _ q _=>q) fun s x v hs t=>t.cut (hc.loops D a s x hs)⟩ }
theorem Ext.cut {M1:Mem} {w1 w2:World} {M2:Mem} (h:Ext w0 M1 w1 M2 w2) {nb nr nl:Nat} (h1:M1.N≤nb) (h2:M1.NR≤nr) (h3:M1.NL≤nl) (h4:nl≤M2.NL):Ext w0 M1 w1 (M2.cut nb nr nl) w2 :=
 ⟨h1,h.bx,h2,h.rows,h.cell,h.size,h3,h.lb,fun k a b=>h.lnew k a (Nat.lt_of_lt_of_le b h4),h.objs⟩
theorem Rel.cut {M:Mem} {a:Act} {w:World} (h:Rel w0 n M e st a w) {nb nr nl:Nat} (h1:nb≤st.boxes.length) (h2:nr≤st.rows.length) (h3:nl≤st.loops.length) (hc:Calm nb nr nl (st.cut nb nr nl)) (he:Jn nb nr nl e) :
  Rel w0 n (M.cut nb nr nl) e (st.cut nb nr nl) a w :=
 ⟨h.st.cut h1 h2 h3 hc,h.size,fun s x hs=>(h.env s x hs).cut (Vd he hs)⟩
theorem Up {c:Code} (nb nr nl:Nat) (h1:nb≤st.boxes.length) (h2:nr≤st.rows.length) (h3:nl≤st.loops.length) (k1:M0.N≤nb) (k2:M0.NR≤nr) (k3:M0.NL≤nl) (hc:Calm nb nr nl (st.cut nb nr nl)) (he:Jn nb nr nl e)
  (h:Eb P w0 n M0 W0 ro c Q e (st.cut nb nr nl)):Eb P w0 n M0 W0 ro c Q e st :=
 fun m M a w b=>h m _ a w ⟨b.rel.cut h1 h2 h3 hc he,b.ext.cut k1 k2 k3 (by rw [b.rel.st.loop.NL];exact h3),b.marks⟩
end
section
variable {P:Program} {w0:World} {n:Nat} {M:Mem} {e:Env} {st:St} {a:Act} {w:World}
def Wa (P:Program) (e:Env) (st:St):ResultVar→Prop
 | .tmp t=>AP e true (.tmp t)
 | .cell t ty=>(A4 P e true st (.load ty (.tmp t))).1
def ZcL (P:Program) (e:Env) (st:St):ResultVar→AV
 | .tmp t=>(AC e (.tmp t)).pub
 | .cell t ty=>(A4 P e true st (.load ty (.tmp t))).2.1.pub
def Zap:List AV→AV
 | [x]=>x
 | l => .tup l
def ZeR (P:Program) (rs:List ResultVar) (Post:AV→St→Prop):AQ:=fun x e st =>
 match x with
 | .normal | .ret=>(∀ r∈rs,Wa P e st r)∧Post (Zap (rs.map (ZcL P e st))) st
 | _=>False
theorem Vz (h:Rel w0 n M e st a w) (t:TypeId) (x:Operand) (hob:(A4 P e true st (.load t x)).1) :
  ∃ v,(do loadVar t (← asAddr (a.eval x)):Sem Value).run P w = .ok v w∧R w0 M w v (A4 P e true st (.load t x)).2.1:=by
 unfold A4 at hob ⊢
 cases ht:HY P t with
 | none=>simp [ht] at hob
 | some p =>
  obtain ⟨sz,y⟩:=p
  simp only [ht] at hob ⊢
  obtain ⟨r,s,l,q⟩:=hob
  obtain ⟨b,o,ev,i,m⟩:=Z5 h.st (A5 h r) s
  rw [ev]
  have d:∀ j,j<sz→∃ u,w.cell? ⟨b,o+EF (AC e x)+j,none⟩=some u∧∀ c,R w0 M w u ((Bi st (AC e x))[EF (AC e x)+j]'c):=by
   intro j c
   obtain ⟨u,z,D⟩:=m (EF (AC e x)+j) (by omega)
   exact ⟨u,by rw [←z,Nat.add_assoc],fun _=>D⟩
  let f:Nat→Value:=fun j=>((w.cell? ⟨b,o+EF (AC e x)+j,none⟩).getD undef)
  have C:∀ j,j<sz→w.cell? ⟨b,o+EF (AC e x)+j,none⟩=some (f j):=fun j c=>by
   obtain ⟨u,g,_⟩:=d j c
   simp [f,g]
  refine ⟨if y then .agg ((List.range sz).map f).toArray else f 0,?_,(Q9 i l q (fun j c=>?_))⟩
  ·simp only [asAddr,Sem.run_bind,Sem.run_pure,Result.andThen_ok]
   exact N1 ht C q
  ·by_cases hjs:j<sz
   ·obtain ⟨u,g,k⟩:=d j hjs
    have:f j=u:=by simp [f,g]
    rw [this]
    exact k c
   ·obtain ⟨u,g,k⟩:=m (EF (AC e x)+j) c
    have:f j=u:=by simp [f,Nat.add_assoc,g]
    rw [this]
    exact k
theorem O5 {α:Type} (f:α→Sem Value) (g:α→Value):∀ (l:List α),(∀ x∈l,(f x).run P w = .ok (g x) w)→(l.mapM f).run P w = .ok (l.map g) w
 | [],_=>by simp
 | x::l,h=>by simp [h x (by simp),O5 f g l (fun y a=>h y (by simp [a]))]
theorem UZ {V:ResultVar→AV} (rs:List ResultVar) (g:ResultVar→Value) (hg:∀ r∈rs,R w0 M w (g r) (V r)) :
  R w0 M w (if h:(rs.map g).toArray.size=1 then (rs.map g).toArray[0] else .tuple (rs.map g).toArray) (Zap (rs.map V)):=by
 match rs,hg with
 | [],_=>exact .tup rfl (fun i a _=>absurd a (by simp))
 | [r],hg=>exact (hg r (by simp))
 | r::r'::l,hg =>
  have:¬ ((List.map g (r::r'::l)).toArray.size=1):=by simp
  rw [dif_neg this]
  refine .tup (by simp) (fun i a b=>?_)
  have e:i<(r::r'::l).length:=by simpa using b
  have d:(List.map g (r::r'::l)).toArray[i]=g (r::r'::l)[i]:=by rw [List.getElem_toArray,List.getElem_map]
  have c:(List.map V (r::r'::l))[i]'b=V (r::r'::l)[i]:=by rw [List.getElem_map]
  have:=(hg (r::r'::l)[i] (List.getElem_mem _))
  rw [←d,←c] at this
  exact this
theorem ZdD (h:Rel w0 n M e st a w) {fn:Func} {rs:List ResultVar} (hfn:fn.results=rs.toArray) (hrs:∀ r∈rs,Wa P e st r) :
  ∃ v,(results fn a.tmps).run P w = .ok v w∧R w0 M w v (Zap (rs.map (ZcL P e st))):=by
 let f:ResultVar→Sem Value:=fun
  | .tmp t=>pure (a.tmps.getD t undef)
  | .cell b t=>do loadVar t (← asAddr (a.tmps.getD b undef))
 have d:∀ r∈rs,∃ v,(f r).run P w = .ok v w∧R w0 M w v (ZcL P e st r):=by
  intro r c
  have:=hrs r c
  cases r with
  | tmp t=>exact ⟨_,rfl,(A5 h (x := .tmp t) this).pub⟩
  | cell b t =>
   obtain ⟨v,k,l⟩:=Vz h t (.tmp b) this
   exact ⟨v,k,l.pub⟩
 classical
 let g:ResultVar→Value:=fun r=>if c:r∈rs then Classical.choose (d r c) else undef
 have j:∀ r∈rs,(f r).run P w = .ok (g r) w∧R w0 M w (g r) (ZcL P e st r):=by
  intro r c
  have:=Classical.choose_spec (d r c)
  have e:g r=Classical.choose (d r c):=by simp only [g,dif_pos c]
  rw [e];exact this
 have m:(fn.results.mapM f).run P w = .ok ((rs.map g).toArray) w:=by
  rw [hfn,Array.mapM_eq_mapM_toList]
  simp only [Sem.run_map,O5 f g rs (fun r c=>(j r c).1),Result.andThen_ok]
 have i:(results fn a.tmps).run P w = .ok (if h:(rs.map g).toArray.size=1 then (rs.map g).toArray[0] else .tuple (rs.map g).toArray) w:=by
  unfold results
  simp only [Sem.run_bind]
  refine Eq.trans (congrArg (fun x=>Result.andThen x _) m) ?_
  simp only [Result.andThen_ok,Sem.run_pure]
 refine ⟨_,i,?_⟩
 exact UZ rs g fun r c=>(j r c).2
def AB:Nat→List AV→Env
 | _,[]=>[]
 | k,x::l=>(k,true,x)::AB (k+1) l
theorem Qu:∀ (l:List AV) (k s:Nat) (x:Bool × AV),look (AB k l) s=some x→∃ i,s=k+i∧∃ y,l[i]? = some y∧x=(true,y)
 | [],_,_,_,h=>by cases h
 | y::l,k,s,x,h=>by
  simp only [AB,look] at h
  by_cases c:k=s
  ·rw [Ai c] at h;cases h;exact ⟨0,c.symm,y,rfl,rfl⟩
  ·rw [Aj c] at h
   obtain ⟨i,d,z,a,b⟩:=Qu l (k+1) s x h
   exact ⟨i+1,by omega,z,a,b⟩
theorem NM {M0:Mem} {W0:World} {fn:Func} {RR:Ending→World→Prop} {m:Nat} {tmps:Array Value}:∀ (Ds:List Nat) (M:Mem) (w:World),Ds.Nodup→(∀ D∈Ds,W0.heap.size≤D∧w.heap[D]? = some (.deferred (some []))) →
  W0.heap.size≥w0.heap.size→RelSt w0 M st w→Ext w0 M0 W0 M w →
  (∀ w',RelSt w0 M st w'→Ext w0 M0 W0 M w'→(∀ v x,R w0 M w v x→R w0 M w' v x)→∃ v,(results fn tmps).run P w' = .ok v w'∧RR (.returned v) w') →
  LeavesInM (FW none) m P fn tmps RR (Ds.map fun D=>{ target := .collected D,args := #[] }) .returning w
 | [],M,w,_,_,_,hr,hx,hk=>hk w hr hx fun _ _ h=>h
 | D::Ds,M,w,hn,hD,hw,hr,hx,hk=>by
  obtain ⟨H,l⟩:=hD D (by simp)
  have n:∀ k,k<M.NL→M.lb k≠D:=by
   intro k r e
   have i:k<st.loops.length:=by rw [←hr.loop.NL];exact r
   obtain ⟨_,f⟩:=hr.loop.record k _ (List.getElem?_eq_getElem i)
   rw [e] at f
   exact f.nodef l
  have hs:∀ (b c:Nat) (v:Value),w.cell? ⟨b,c,none⟩=some v→(w.putObj D (.deferred none)).cell? ⟨b,c,none⟩=some v:=fun b c v=>MK l rfl
  have q:Ext w0 M0 W0 M (w.putObj D (.deferred none)) :=
   ⟨hx.N,hx.bx,hx.NR,hx.rows,fun b c v j p=>let ⟨a,b'⟩:=hx.cell b c v j p;⟨hs _ _ _ a,b'⟩,by have:=hx.size;simpa using this,hx.NL,hx.lb,hx.lnew,fun b o j p F=>by
    have G:b<W0.heap.size:=(Array.getElem?_eq_some_iff.1 j).1
    rw [World.putObj_heap_other (by omega)]
    exact hx.objs b o j p F⟩
  refine ⟨by simp,.inl ⟨D,_,rfl,run_takeDeferred l,?_⟩⟩
  have g:=List.nodup_cons.1 hn
  refine NM Ds M _ g.2 (fun E s=>?_) hw (hr.putObj _ l rfl (by omega) n) q (fun w' y t u=>hk w' y t fun v x h=>u v x (h.same hs))
  obtain ⟨C,z⟩:=hD E (List.mem_cons_of_mem _ s)
  have d:E≠D:=fun e=>g.1 (by rw [←e];exact s)
  exact ⟨C,by rw [World.putObj_heap_other d];exact z⟩
theorem B6 {f:FuncId} {fn:Func} {c:Code} {args:List AV} {rs:List ResultVar} {Post:AV→St→Prop} (hf:P.funcs[f]? = some fn) (hb:fn.body=some c) (hrs:fn.results=rs.toArray) (hn:fn.ntmps=n)
  (hen:KI P f) (ha:args.length≤n)
  (h:∀ (M0:Mem) (W0:World),M0.N=st.boxes.length→M0.NR=st.rows.length→M0.NL=st.loops.length→Calm st.boxes.length st.rows.length st.loops.length st→(∀ x∈args,Under st.boxes.length st.rows.length st.loops.length x) →
   Eb P w0 n M0 W0 none c (ZeR P rs Post) (AB 0 args) st):ACalls P w0 f args st Post:=by
 refine ⟨hen,fun M w a b d=>?_⟩
 have F:a.size=args.length:=d.1
 have E:∀ x∈args,Under st.boxes.length st.rows.length st.loops.length x:=by
  intro x J
  obtain ⟨i,u,rfl⟩:=List.mem_iff_getElem.1 J
  have:=(d.get (i:=i) (Array.getElem?_eq_getElem (by omega)) (List.getElem?_eq_getElem u)).under
  rwa [b.N,b.NR,b.loop.NL] at this
 have l:Rel w0 n M (AB 0 args) st { tmps:=a++Array.replicate (fn.ntmps-a.size) undef,defers:=[] } w:=by
  refine ⟨b,by simp;omega,fun s x hs=>?_⟩
  obtain ⟨i,j,y,q,rfl⟩:=Qu _ _ _ _ hs
  have u:i<args.length:=(Ak.1 q).1
  have hs':s=i:=by omega
  subst hs'
  simp only [entryOk,if_true]
  have U:(a++Array.replicate (fn.ntmps-a.size) undef).getD s undef=a[s]'(by omega):=by
   simp [Array.getD_eq_getD_getElem?,Array.getElem?_append_left (show s<a.size by omega),Array.getElem?_eq_getElem (show s<a.size by omega)]
  rw [U]
  exact d.get (Array.getElem?_eq_getElem (by omega)) q
 refine TG (n:=0) (callsIn_of_wp_marks hf hb trivial (wpIn_mono (h M w b.N b.NR b.loop.NL b.calm E 0 M _ w ⟨l,.refl _ _ _,[],by simp⟩) ?_))
 rintro ex o C ⟨M',p,k,j,m⟩
 have e:∀ (t:∀ r∈rs,Wa P p k r) (D:Post (Zap (rs.map (ZcL P p k))) k),
   LeavesInM (FW none) 0 P fn o.tmps (Comes' w0 M w Post) o.defers .returning C:=by
  intro t D
  obtain ⟨Ds,H,Q,O⟩:=j.marks
  rw [Q]
  refine NM Ds M' C H O b.base_le j.rel.st j.ext fun K z G k3=>?_
  have g:Rel w0 n M' p k o K:=⟨z,j.rel.size,fun s x hs=>by
   have:=j.rel.env s x hs
   unfold entryOk at *
   split
   ·rename_i c;rw [Ai c] at this;exact k3 _ _ this
   ·rename_i c;rw [Aj c] at this;exact this⟩
  obtain ⟨v,q1,q2⟩:=ZdD g hrs t
  exact ⟨v,q1,v,M',_,k,rfl,D,G,z,q2⟩
 cases ex with
 | normal=>exact e m.1 m.2
 | ret=>exact e m.1 m.2
 | _=>exact m.elim
def Zmt (st:St) (Post:AV→St→Prop) (r:AV) (s:St):Prop :=
 st.boxes.length≤s.boxes.length∧st.rows.length≤s.rows.length∧st.loops.length≤s.loops.length∧Calm st.boxes.length st.rows.length st.loops.length (s.cut st.boxes.length st.rows.length st.loops.length) ∧
  Under st.boxes.length st.rows.length st.loops.length r∧Post r (s.cut st.boxes.length st.rows.length st.loops.length)
theorem ACalls.fin {f:FuncId} {args:List AV} {Post:AV→St→Prop} (h:ACalls P w0 f args st (Zmt st Post)):ACalls P w0 f args st Post:=by
 refine ⟨h.1,fun M w b a c=>(h.2 M w b a c).mono ?_⟩
 rintro en n ⟨v,M',r,e,g,⟨k,m,d,j,l,i⟩,h3,h4,h5⟩
 exact ⟨v,M'.cut st.boxes.length st.rows.length st.loops.length,r,_,g,i,h3.cut (by have:=a.N;omega) (by have:=a.NR;omega) (by have:=a.loop.NL;omega) (by rw [h4.loop.NL];exact d),h4.cut k m d j,h5.cut l⟩
theorem enters_of {f:FuncId} {fn:Func} {c:Code} (hf:P.funcs[f]? = some fn) (hb:fn.body=some c) (hn:fn.name ≠ "runtime.NumGoroutine"):KI P f:=by
 intro args w
 simp [callFunc,hf,hb,hn]
end
section
variable {P:Program} {w0:World} {n:Nat}
def ZJ (P:Program) (w0:World) (e1:Env) (c:Bool) (st:St) (o:Oper) (v:AV):Prop :=
 match o.op with
 | .call ⟨.value f,args,_⟩=>c=true→AP e1 true f∧(∀ x∈args.toList,AP e1 true x)∧OH P w0 (AC e1 f) (args.toList.map fun x=>argP e1 (AC e1 x)) st fun r s=>r=v∧s=st
 | op=>(c=true→(A4 P e1 c st op).1)∧(A4 P e1 c st op).2.1=v∧(A4 P e1 c st op).2.2=st
theorem TI {e1:Env} {c:Bool} {st:St} {o:Oper} {v:AV} (hc:¬ MF o.op=true) :
  ZJ P w0 e1 c st o v=((c=true→(A4 P e1 c st o.op).1)∧(A4 P e1 c st o.op).2.1=v∧(A4 P e1 c st o.op).2.2=st):=by
 obtain ⟨g,op,d,e,a,b⟩:=o
 cases op with
 | call cc =>
  obtain ⟨callee,args,h⟩:=cc
  cases callee with
  | value f=>exact absurd rfl hc
  | _=>rfl
 | _=>rfl
theorem Ti {M:Mem} {e1:Env} {st:St} {a:Act} {w:World} (h:Rel w0 n M e1 st a w) (ro:Option Nat) (m:Nat) {all:List Oper} {o:Oper} {v:AV} (hg:Lm all e1 o.guard) (hv:ZJ P w0 e1 (B1 all e1 o.guard) st o v)
  (Q:Exit→Act→World→Prop) (K:Act→World→Prop) (hK:∀ u w' M',Ext w0 M w M' w'→RelSt w0 M' st w'→entryOk w0 M' w' u (B1 all e1 o.guard,v)→K (a.put o.dst u) w') :
  if Region.wanted o (yielded all.toArray a.tmps) then o.wpIn (FW ro) m P a w K Q else (∀ f,o.about P w a.eval=some f→(FW ro).fn f)∧K (a.put o.dst undef) w:=by
 rw [MS h hg]
 cases hcc:B1 all e1 o.guard with
 | true =>
  rw [hcc] at hv hK
  rw [Ai rfl]
  by_cases hc:MF o.op=true
  ·obtain ⟨dst,op,l,p,e,guard⟩:=o
   cases op<;>try cases hc
   rename_i cc
   obtain ⟨callee,args,t⟩:=cc
   cases callee<;>try cases hc
   rename_i f
   obtain ⟨j,k,d⟩:=hv rfl
   refine LJ h ro m j k d Q _ (fun r s q u w' M' i b c=>?_)
   obtain ⟨rfl,rfl⟩:=q
   exact hK u w' M' i b c
  ·rw [TI hc] at hv
   obtain ⟨j,k,d⟩:=hv
   refine SX h ro m o (j rfl) Q _ (fun u w' M' i b c=>?_)
   rw [d] at b
   rw [k] at c
   exact hK u w' M' i b c
 | false =>
  rw [hcc] at hK
  rw [Aj (by simp)]
  exact ⟨fun g _=>Tv ro g,hK undef w M (.refl _ _ _) h.st rfl⟩
structure Trail (P:Program) (w0:World) (n:Nat) (all os:List Oper) (e:Env) (st:St) (E:Nat→Env) (C:Nat→Bool) (V:Nat→AV):Prop where
 zero:E 0=e
 step:∀ j o,os[j]? = some o→E (j+1)=Lu (E j) o.dst (C j) (V j)∧Lm all (B9 true all o (E j)) o.guard∧KZ n o.dst∧B1 all (B9 true all o (E j)) o.guard=C j ∧
  ZJ P w0 (B9 true all o (E j)) (C j) st o (V j)
theorem UM {all os:List Oper} {e:Env} {st:St} {o:Oper} {E:Nat→Env} {C:Nat→Bool} {V:Nat→AV} {v:AV} (hg:Lm all (B9 true all o e) o.guard) (hd:KZ n o.dst)
  (ho:ZJ P w0 (B9 true all o e) (B1 all (B9 true all o e) o.guard) st o v) (T:Trail P w0 n all os (Lu e o.dst (B1 all (B9 true all o e) o.guard) v) st E C V) :
  Trail P w0 n all (o::os) e st (fun | 0=>e | j+1=>E j) (fun | 0=>B1 all (B9 true all o e) o.guard | j+1=>C j) (fun | 0=>v | j+1=>V j):=by
 refine ⟨rfl,fun j q hq=>?_⟩
 cases j with
 | zero =>
  simp only [List.getElem?_cons_zero,Option.some.injEq] at hq
  subst hq
  exact ⟨T.zero,hg,hd,rfl,ho⟩
 | succ j =>
  simp only [List.getElem?_cons_succ] at hq
  exact T.step j q hq
theorem Q4 {all:List Oper} {st:St} {KK:Env→St→Prop}:∀ (c:Nat) (os:List Oper) (e:Env),Uu P w0 n true all KK c os e st→∃ E C V,Trail P w0 n all os e st E C V∧KK (E os.length) st
 | 0,_,_,h=>h.elim
 | c+1,os,e,h=>by
  have p:∀ (os:List Oper) (e:Env),evS P w0 n true all (Uu P w0 n true all KK c) KK os e st→∃ E C V,Trail P w0 n all os e st E C V∧KK (E os.length) st:=by
   intro os
   induction os with
   | nil=>exact fun e h=>⟨fun _=>e,fun _=>false,fun _ => .junk,⟨rfl,fun j o x=>by simp at x⟩,h⟩
   | cons o os ih =>
    intro e h
    by_cases hc:MF o.op=true
    ·obtain ⟨s,op,l,q,d,i⟩:=o
     cases op<;>try cases hc
     rename_i cc
     obtain ⟨callee,args,z⟩:=cc
     cases callee<;>try cases hc
     rename_i f
     simp only [evS] at h
     obtain ⟨r,hd,m,u⟩:=h
     rcases u with ⟨v,k1,k2⟩ | ⟨hf,_⟩
     ·obtain ⟨E,C,V,T,k⟩:=Q4 c os _ k2
      exact ⟨_,_,_,UM r hd (fun g=>⟨(m g).1,(m g).2,k1 g⟩) T,k⟩
     ·cases hf
    by_cases hgl:Zi4 o.op=true
    ·obtain ⟨s,op,l,q,d,i⟩:=o
     cases op<;>try cases hgl
     rename_i t y
     cases y<;>try cases hgl
     simp only [evS] at h
     exact absurd h.2.2.1.1 (by simp)
    ·rw [XH hc hgl] at h
     obtain ⟨r,hd,m,w,a⟩:=h
     have b:=w (.inr rfl)
     simp only at b
     rw [b] at a
     obtain ⟨E,C,V,T,k⟩:=ih _ a
     exact ⟨_,_,_,UM r hd (by rw [TI hc];exact ⟨m,rfl,b⟩) T,k⟩
  exact p os e h
theorem N5 {all os:List Oper} {e:Env} {st:St} {E:Nat→Env} {C:Nat→Bool} {V:Nat→AV} (T:Trail P w0 n all os e st E C V)
  (uniq:∀ (i j:Nat) (o p:Oper) (s:Nat),os[i]? = some o→os[j]? = some p→o.dst=some s→p.dst=some s→i=j) (s:Nat):∀ j,j≤os.length →
  ((∀ i o,i<j→os[i]? = some o→o.dst≠some s)→look (E j) s=look e s)∧(∀ i o,i<j→os[i]? = some o→o.dst=some s→look (E j) s=some (C i,V i))
 | 0,_=>⟨fun _=>by rw [T.zero],fun i o h=>absurd h (by omega)⟩
 | j+1,hj=>by
  obtain ⟨g,f⟩:=N5 T uniq s j (by omega)
  have ho:os[j]? = some os[j]:=List.getElem?_eq_getElem (by omega)
  have a:=(T.step j _ ho).1
  have b:os[j].dst≠some s→look (E (j+1)) s=look (E j) s:=by
   intro b
   rw [a]
   cases hd:os[j].dst with
   | none=>rfl
   | some d =>
    rw [hd] at b
    simp only [Lu,look]
    rw [Aj (fun h=>b (by rw [h]))]
  refine ⟨fun h=>?_,fun i o k hio hd=>?_⟩
  ·rw [b (h j _ (by omega) ho)]
   exact g fun i o k=>h i o (by omega)
  ·by_cases c:i=j
   ·subst c
    rw [ho] at hio
    cases hio
    rw [a,hd]
    simp only [Lu,look,if_true]
   ·rw [b (fun h=>c (uniq i j o _ s hio ho hd h))]
    exact f i o (by omega) hio hd
theorem O4 {F:Fence} {m:Nat} {md:Region.Mode} {ops:Array Oper} {Q':Exit→Act→World→Prop}:∀ (l:List Oper) (k:Nat) (listed:Array Bool) (a:Act) (w:World),(∀ j,l[j]? = ops[k+j]?) →
  Region.seqB md ops l.length k listed=true→wpListIn F m P ops Q' l a w→wpAnyIn F m P md ops Q' l.length listed a w
 | [],_,_,_,_,_,hB,h=>⟨by simpa [Region.seqB] using hB,h⟩
 | o::l,k,listed,a,w,hl,hB,h=>by
  have d:ops[k]? = some o:=by simpa using (hl 0).symm
  simp only [List.length_cons,Region.seqB,Bool.and_eq_true,decide_eq_true_eq] at hB
  refine ⟨fun h1=>(by rw [hB.1] at h1;cases h1),fun i hi=>?_⟩
  rw [hB.1] at hi
  have hik:i=k:=by simpa using hi
  subst hik
  have c:wpOpIn F m P ops Q' i (wpListIn F m P ops Q' l) a w:=by unfold wpOpIn;simp only [d];exact h
  exact wpOpIn_mono (fun b e f=>O4 l (i+1) _ b e (fun j=>by have:=hl (j+1);simpa [Nat.add_assoc,Nat.add_comm 1 j] using this) hB.2 f) c
def Yn (o:Oper) (j:Nat):Bool:=o.after.any fun e=>Region.binds .any e&&e.on == j
theorem TD {o:Oper} {j:Nat} (h:Yn o j=true):∃ e∈o.after,Region.binds .any e=true∧e.on=j:=by
 obtain ⟨e,b,a⟩:=Array.any_eq_true'.1 h
 simp only [Bool.and_eq_true,beq_iff_eq] at a
 exact ⟨e,b,a.1,a.2⟩
def ZiS (l:List Oper) (i j:Nat) (o p:Oper):Bool :=
 match p.dst with
 | some s=>(decide (i=j)||o.dst != some s)&&(!(looks l o).contains s||(decide (j<i)&&Yn o j))
 | none=>true
def ZiR (l:List Oper) (h:Nat):Bool :=
 (List.range h).all fun i=>match l[i]? with
  | some o=>(o.after.toList.all fun e => !Region.binds .any e||decide (e.on<i))&&(List.range h).all fun j=>match l[j]? with
   | some p=>ZiS l i j o p
   | none=>true
  | none=>true
def ZlC (l:List Oper) (h:Nat):Bool :=
 (List.range (l.length-h)).all fun k=>(List.range (h+k)).all fun j=>(List.range (h+k+1)).any fun q=>decide (j<q)&&(match l[q]? with | some o=>Yn o j | none=>false)
def Xf (l:List Oper) (h:Nat):Bool :=
 decide (h≤l.length)&&ZiR l h&&ZlC l h&&Region.seqB .any l.toArray (l.length-h) h (Array.replicate h true++Array.replicate (l.length-h) false)
theorem QL {l:List Oper} {h:Nat} (hB:ZiR l h=true) {i:Nat} {o:Oper} (hi:i<h) (ho:l[i]? = some o) :
  (∀ e∈o.after,Region.binds .any e=true→e.on<i)∧∀ j p s,j<h→l[j]? = some p→p.dst=some s→(o.dst=some s→i=j)∧(s∈looks l o→j<i∧Yn o j=true):=by
 have a:=List.all_eq_true.1 hB i (List.mem_range.2 hi)
 simp only [ho,Bool.and_eq_true] at a
 refine ⟨fun e k d=>?_,fun j p s f g hs=>?_⟩
 ·have:=List.all_eq_true.1 a.1 e (by simpa using k)
  simpa [d] using this
 ·have b:=List.all_eq_true.1 a.2 j (List.mem_range.2 f)
  simp only [g,ZiS,hs,Bool.and_eq_true,Bool.or_eq_true,decide_eq_true_eq,bne_iff_ne,Bool.not_eq_true'] at b
  refine ⟨fun hd=>b.1.resolve_right (fun c=>c hd),fun m=>?_⟩
  rcases b.2 with h3 | h3
  ·have:(looks l o).contains s=true:=by simpa using m
   rw [h3] at this;cases this
  ·exact h3
theorem ZaR {listed:Array Bool} {i:Nat} (h:listed.getD i true=false):∃ hi:i<listed.size,listed[i]=false:=by
 by_cases c:i<listed.size
 ·exact ⟨c,by simpa [c] using h⟩
 ·simp [Array.getD_eq_getD_getElem?,Array.getElem?_eq_none (Nat.le_of_not_lt c)] at h
theorem Zdj {listed:Array Bool} {i:Nat} (h:listed.getD i false=true):∃ hi:i<listed.size,listed[i]=true:=by
 by_cases c:i<listed.size
 ·exact ⟨c,by simpa [c] using h⟩
 ·simp [Array.getD_eq_getD_getElem?,Array.getElem?_eq_none (Nat.le_of_not_lt c)] at h
theorem ER {listed:Array Bool} {i j:Nat} (hi:i<listed.size) (b:Bool):(listed.setIfInBounds i true).getD j b=if i=j then true else listed.getD j b:=by
 by_cases c:i=j
 ·subst c;simp [hi]
 ·rw [Aj c]
  simp [Array.getElem?_setIfInBounds_ne c]
structure DInv (w0:World) (n:Nat) (l:List Oper) (h:Nat) (e:Env) (st:St) (C:Nat→Bool) (V:Nat→AV) (M1:Mem) (w1:World) (ds:List Deferred) (listed:Array Bool) (a:Act) (w:World) (M:Mem):Prop where
 size:listed.size=l.length
 tail:∀ t,h≤t→t<l.length→listed.getD t true=false
 closed:∀ j oj,l[j]? = some oj→listed.getD j false=true→∀ e∈oj.after,Region.binds .any e=true→listed.getD e.on false=true
 rel:RelSt w0 M st w
 tmps:a.tmps.size=n
 defers:a.defers=ds
 ext:Ext w0 M1 w1 M w
 old:∀ s x,(∀ i o,i<h→l[i]? = some o→o.dst≠some s)→look e s=some x→entryOk w0 M w (a.tmps.getD s undef) x
 new:∀ i o s,i<h→l[i]? = some o→o.dst=some s→listed.getD i false=true→entryOk w0 M w (a.tmps.getD s undef) (C i,V i)
theorem TQ {listed:Array Bool} {h:Nat} (hn:¬ ∀ j,j<h→listed.getD j false=true):∃ j,j<h∧listed.getD j false=false∧∀ i,i<j→listed.getD i false=true:=by
 induction h with
 | zero=>exact absurd (fun j a=>absurd a (by omega)) hn
 | succ h ih =>
  by_cases c:∀ j,j<h→listed.getD j false=true
  ·refine ⟨h,by omega,?_,c⟩
   cases hq:listed.getD h false with
   | false=>rfl
   | true =>
    exact absurd (fun j a=>by
     by_cases e:j=h
     ·exact e▸hq
     ·exact c j (by omega)) hn
  ·obtain ⟨j,f,b,d⟩:=ih c
   exact ⟨j,by omega,b,d⟩
theorem ZfO {l:List Oper} {h:Nat} {e:Env} {st:St} {E:Nat→Env} {C:Nat→Bool} {V:Nat→AV} {M1:Mem} {w1:World} {ds:List Deferred} {ro:Option Nat} {m:Nat} {Q:Exit→Act→World→Prop}
  (T:Trail P w0 n l (l.take h) e st E C V) (hB:Xf l h=true)
  (hend:∀ a w M,Rel w0 n M (E h) st a w→Ext w0 M1 w1 M w→a.defers=ds→wpListIn (FW ro) m P l.toArray Q (l.drop h) a w) :
  ∀ fuel listed a w M,fuel=listed.toList.count false→DInv w0 n l h e st C V M1 w1 ds listed a w M→wpAnyIn (FW ro) m P .any l.toArray Q fuel listed a w:=by
 simp only [Xf,Bool.and_eq_true,decide_eq_true_eq] at hB
 obtain ⟨⟨⟨a5,hH⟩,hT⟩,hS⟩:=hB
 have ay:(l.take h).length=h:=by simp;omega
 have f:∀ j,j<h→(l.take h)[j]? = l[j]? := fun j hj=>List.getElem?_take_of_lt hj
 have ae:∀ {j:Nat} {o:Oper},(l.take h)[j]? = some o→j<h:=fun {j o} hj=>by
  have:=(Ak.1 hj).1;omega
 have aa:∀ (i j:Nat) (o p:Oper) (s:Nat),(l.take h)[i]? = some o→(l.take h)[j]? = some p→o.dst=some s→p.dst=some s→i=j:=by
  intro i j o p s hi hj hs ak
  have a1:=ae hi
  have a2:=ae hj
  rw [f _ a1] at hi
  rw [f _ a2] at hj
  exact ((QL hH a1 hi).2 j p s a2 hj ak).1 hs
 have g:∀ s j,j≤h→_:=fun s j hj=>N5 T aa s j (by omega)
 have Y:∀ (listed:Array Bool) (a:Act) (w:World) (M:Mem) (fuel:Nat),fuel=listed.toList.count false→DInv w0 n l h e st C V M1 w1 ds listed a w M→(∀ j,j<h→listed.getD j false=true) →
   wpAnyIn (FW ro) m P .any l.toArray Q fuel listed a w:=by
  intro listed a w M fuel hf b u
  have hl:listed=Array.replicate h true++Array.replicate (l.length-h) false:=by
   apply Array.ext
   ·simp [b.size];omega
   ·intro i z h2
    by_cases c:i<h
    ·have:=u i c
     simp only [Array.getD_eq_getD_getElem?,Array.getElem?_eq_getElem z,Option.getD_some] at this
     rw [this,Array.getElem_append_left (by simpa using c)]
     simp
    ·have:=b.tail i (by omega) (by rw [←b.size];exact z)
     simp only [Array.getD_eq_getD_getElem?,Array.getElem?_eq_getElem z,Option.getD_some] at this
     rw [this,Array.getElem_append_right (by simpa using c)]
     simp
  have am:fuel=(l.drop h).length:=by
   rw [hf,hl]
   simp [List.count_append,List.count_replicate]
  have F:Rel w0 n M (E h) st a w:=by
   refine ⟨b.rel,b.tmps,fun s x hs=>?_⟩
   by_cases c:∃ j p,j<h∧l[j]? = some p∧p.dst=some s
   ·obtain ⟨j,p,hj,hp,hd⟩:=c
    have:=(g s h (Nat.le_refl _)).2 j p hj (by rw [f _ hj];exact hp) hd
    rw [this] at hs
    cases hs
    exact b.new j p s hj hp hd (u j hj)
   ·have:=(g s h (Nat.le_refl _)).1 (fun j p hj hp hd=>c ⟨j,p,hj,by rw [←f _ hj];exact hp,hd⟩)
    rw [this] at hs
    exact b.old s x (fun j p hj hp hd=>c ⟨j,p,hj,hp,hd⟩) hs
  rw [am]
  refine O4 (l.drop h) h listed a w (fun j=>by simp [List.getElem?_drop]) ?_ (hend a w M F b.ext b.defers)
  rw [hl,List.length_drop]
  exact hS
 have U:∀ (listed:Array Bool) (t:Nat) (o:Oper),(∀ j oj,l[j]? = some oj→listed.getD j false=true→∀ e∈oj.after,Region.binds .any e=true→listed.getD e.on false=true) →
   l[t]? = some o→h≤t→(∀ e∈o.after,Region.binds .any e=true→listed.getD e.on false=true)→∀ d j,j+d+1=t→listed.getD j false=true:=by
  intro listed t o ah ho ht r d
  induction d using Nat.strongRecOn with
  | _ d ih =>
   intro j hj
   have a4:t<l.length:=(Ak.1 ho).1
   have z:=List.all_eq_true.1 (List.all_eq_true.1 hT (t-h) (List.mem_range.2 (by omega))) j (List.mem_range.2 (by omega))
   obtain ⟨q,hq,h2⟩:=List.any_eq_true.1 z
   have az:q≤t:=by have:=List.mem_range.1 hq;omega
   simp only [Bool.and_eq_true,decide_eq_true_eq] at h2
   obtain ⟨a0,h3⟩:=h2
   cases hoq:l[q]? with
   | none=>simp [hoq] at h3
   | some oq =>
    simp only [hoq] at h3
    obtain ⟨K,H,N,O⟩:=TD h3
    by_cases c:q=t
    ·subst c
     rw [ho] at hoq;cases hoq
     exact O▸r K H N
    ·have:=ih (t-q-1) (by omega) q (by omega)
     exact O▸ah q oq hoq this K H N
 intro fuel
 induction fuel with
 | zero =>
  intro listed a w M hf b
  refine Y listed a w M 0 hf b (fun j hj=>?_)
  cases hq:listed.getD j false with
  | true=>rfl
  | false =>
   exfalso
   have aj:j<listed.size:=by rw [b.size];omega
   have:false∈listed.toList:=by
    have e1:listed[j]=false:=by simpa [aj] using hq
    rw [←e1];simp
   have:=List.count_pos_iff.2 this
   omega
 | succ fuel ih =>
  intro listed a w M hf b
  by_cases u:∀ j,j<h→listed.getD j false=true
  ·exact Y listed a w M _ hf b u
  ·obtain ⟨k,ao,ad,aw⟩:=TQ u
   have aq:k<listed.size:=by rw [b.size];omega
   have ar:l[k]? = some l[k]:=List.getElem?_eq_getElem (by omega)
   have J:k∈Region.ready .any l.toArray listed:=by
    refine mem_ready.2 ⟨by simpa [aq] using ad,l[k],by simp,fun K he hb=>aw _ ((QL hH ao ar).1 K he hb)⟩
   refine ⟨fun h0=>absurd J (by rw [h0];simp),fun i hi=>?_⟩
   obtain ⟨au,o,ho,r⟩:=mem_ready.1 hi
   have y:l[i]? = some o:=by simpa using ho
   have a3:i<l.length:=(Ak.1 y).1
   have Z:i<h:=by
    refine Nat.lt_of_not_le fun ai=>?_
    have:=U listed i o b.closed y ai r (i-k-1) k (by omega)
    rw [ad] at this;cases this
   obtain ⟨t1,t2,t3,t4,t5⟩:=T.step i o (by rw [f _ Z];exact y)
   have G:=QL hH Z y
   have F:Rel w0 n M (B9 true l o (E i)) st a w:=by
    refine ⟨b.rel,b.tmps,fun s x hs=>?_⟩
    simp only [B9,if_true] at hs
    have hm:=Nk _ _ _ _ hs
    have hl:=Jq _ _ _ _ hs
    by_cases c:∃ j p,j<h∧l[j]? = some p∧p.dst=some s
    ·obtain ⟨j,p,hj,hp,hd⟩:=c
     obtain ⟨av,hw⟩:=(G.2 j p s hj hp hd).2 hm
     obtain ⟨K,H,N,O⟩:=TD hw
     have af:listed.getD j false=true:=O▸r K H N
     have:=(g s i (by omega)).2 j p av (by rw [f _ hj];exact hp) hd
     rw [this] at hl
     cases hl
     exact b.new j p s hj hp hd af
    ·have:=(g s i (by omega)).1 (fun j p hj hp hd=>c ⟨j,p,by omega,by rw [←f _ (by omega)];exact hp,hd⟩)
     rw [this] at hl
     exact b.old s x (fun j p hj hp hd=>c ⟨j,p,hj,hp,hd⟩) hl
   unfold wpOpIn
   simp only [ho]
   have D:i<listed.size:=by rw [b.size];omega
   refine Ti F ro m t2 (by rw [t4];exact t5) Q _ fun v w' M' hx ap hv=>?_
   rw [t4] at hv
   refine ih _ _ _ M' ?_ ?_
   ·have ab:listed[i]=false:=by simpa [D] using au
    have ax:0<listed.toList.count false:=List.count_pos_iff.2 (by rw [←ab];simp)
    rw [Array.toList_setIfInBounds,List.count_set (by simpa using D)]
    simp only [Array.getElem_toList,ab]
    rw [Ai (show (false == false)=true from rfl),Aj (show ¬ (true == false)=true by decide)]
    omega
   ·have keep:∀ s x,o.dst≠some s→entryOk w0 M w (a.tmps.getD s undef) x→entryOk w0 M' w' ((a.put o.dst v).tmps.getD s undef) x:=by
     intro s x ag z
     rw [LV a o.dst v s (by rw [b.tmps];exact t3),Aj ag]
     exact z.mono hx
    refine ⟨by simp [b.size],fun t z h2=>?_,fun j oj hj hl K he hb=>?_,ap,by rw [QT];exact b.tmps,by rw [It];exact b.defers,b.ext.trans hx,fun s x z h2=>?_,fun j p s hj hp hd hl=>?_⟩
    ·rw [ER D,Aa];exact b.tail t z h2
    ·rw [ER D] at hl ⊢
     split
     ·rfl
     ·by_cases c:i=j
      ·subst c
       rw [y] at hj;cases hj
       exact r K he hb
      ·rw [Aj c] at hl
       exact b.closed j oj hj hl K he hb
    ·exact keep s x (z i o Z y) (b.old s x z h2)
    ·by_cases c:i=j
     ·subst c
      rw [y] at hp;cases hp
      rw [LV a o.dst v s (by rw [b.tmps];exact t3),Ai hd]
      exact hv
     ·rw [ER D,Aj c] at hl
      refine keep s _ (fun hs=>c ((G.2 j p s hj hp hd).1 hs)) (b.new j p s hj hp hd hl)
theorem V4 {M0:Mem} {W0:World} {ro:Option Nat} {Q:AQ} {e:Env} {st:St} (hm:P.follows .mixedOrders=true) (h:Nat) (c1 c2:Nat) (L:List Nat) {id:Nat} {l:List Oper} (hB:Xf l h=true)
  (hev:Uu P w0 n true l (fun e1 s1=>Uu P w0 n false l (fun e2 s2=>Q .normal (Ea L e2) s2) c2 (l.drop h) e1 s1) c1 (l.take h) e st):Eb P w0 n M0 W0 ro (.region id l.toArray true) Q e st:=by
 intro m M a w b
 obtain ⟨E,C,V,T,q⟩:=Q4 _ _ _ hev
 have D:h≤l.length:=by
  simp only [Xf,Bool.and_eq_true,decide_eq_true_eq] at hB;exact hB.1.1.1
 have g:(l.take h).length=h:=by simp;omega
 rw [g] at q
 obtain ⟨u,o⟩:=b.rel.st.drew
 refine wpIn_region_any hm (ZfO T hB (M1:=M) (w1:=w) (ds:=a.defers) (fun a1 w1 M1 k f i=>?_) _ _ a _ M (by simp) ?_)
 ·refine Sj ro m false l _ _ c2 _ _ st a1 w1 M1 k q fun e2 s2 a2 F y z v p q2=>⟨y,_,_,⟨v.sub (DV L _),b.ext.trans (f.trans p),?_⟩,z⟩
  rw [q2,i]
  exact b.marks.later (f.trans p) b.rel.st
 ·exact ⟨by simp,fun t _ r=>by simp [Array.getD_eq_getD_getElem?,r],fun j _ _ d=>by
   exfalso
   by_cases c:j<l.length
   ·simp [Array.getD_eq_getD_getElem?,c] at d
   ·simp [Array.getD_eq_getD_getElem?,c] at d,u,b.rel.size,rfl,o,fun s x _ hs=>(b.rel.env s x hs).mono o,fun j _ _ _ _ _ d=>by
   exfalso
   by_cases c:j<l.length
   ·simp [Array.getD_eq_getD_getElem?,c] at d
   ·simp [Array.getD_eq_getD_getElem?,c] at d⟩
end
def St.ext (s X:St):St:=⟨s.boxes++X.boxes,s.rows++X.rows,s.loops++X.loops⟩
def St.push (s:St) (la:LoopA):St:={ s with loops:=s.loops++[la] }
def St.like (s t:St):Prop:=s.boxes.length=t.boxes.length∧t.rows.length≤s.rows.length∧s.loops.length=t.loops.length
def ZaQ (PX:St→Prop) (P:Program) (w0:World) (gf:FuncId) (caps:List AV) (items:Aq) (Fr:St→Prop):Prop :=
 ∀ (k:Nat) (J:Nat→St→Prop) (Jx:St→Prop),(∀ i s,J i s→Fr s∧k<s.loops.length) →
  (∀ i s x X,PX X→J i s→items[i]? = some x→U4 P w0 k x (s.ext X) fun r s'=>∃ t,s'=t.ext X∧t.like s∧((r = .val (.bool true)∧J (i+1) t)∨(r = .val (.bool false)∧Jx t))) →
  ∀ s,J 0 s→ACalls P w0 gf (.yld k::caps) s fun _ s'=>∃ t X,X.rows=[]∧s'=St.ext t X∧(J items.length t∨Jx t)
abbrev ZlE (P:Program) (w0:World) (gf:FuncId) (caps:List AV) (items:Aq) (Fr:St→Prop):Prop:=ZaQ (fun X=>X.rows=[]) P w0 gf caps items Fr
def W8:Env→List Nat→List AV→Env
 | e,p::ps,x::xs=>W8 ((p,true,x)::e) ps xs
 | e,_,_=>e
section
variable {P:Program} {w0:World} {n:Nat} {M:Mem} {e:Env} {st:St} {a:Act} {w:World}
theorem Rel.bind:∀ (ps:List Nat) (vs:List Value) (xs:List AV) (e:Env) (a:Act),Rel w0 n M e st a w→ps.length=xs.length→(∀ p∈ps,p<n)→vs.length=xs.length→(∀ (i:Nat) (v:Value) (x:AV),vs[i]? = some v→xs[i]? = some x→R w0 M w v x) →
  Rel w0 n M (W8 e ps xs) st { tmps:=(ps.zip vs).foldl (fun t (p,v)=>t.setIfInBounds p v) a.tmps,defers:=a.defers } w
 | [],[],[],_,_,h,_,_,_,_=>h
 | p::ps,v::vs,x::xs,e,a,h,h1,h2,h3,h4=>by
  simp only [List.zip_cons_cons,List.foldl_cons,W8]
  have d:p<n:=h2 p (by simp)
  have:=h.put (M':=M) (w':=w) (st':=st) (.refl _ _ _) h.st (dst:=some p) d (c:=true) (v:=v) (r:=x) (h4 0 v x rfl rfl)
  exact Rel.bind ps vs xs _ (a.put (some p) v) this (by simpa using h1) (fun q b=>h2 q (by simp [b])) (by simpa using h3) (fun i u y g f=>h4 (i+1) u y g f)
 | [],_::_,[],_,_,_,_,_,h,_=>by simp at h
 | [],_,_::_,_,_,_,h,_,_,_=>by simp at h
 | _::_,_,[],_,_,_,h,_,_,_=>by simp at h
 | _::_,[],_::_,_,_,_,_,_,h,_=>by simp at h
theorem RelSt.setLoop (h:RelSt w0 M st w) {k:Nat} {la:LoopA} (hk:st.loops[k]? = some la) (s:LoopState) (p:Option Code) {r:Loop} (hr:w.heap[M.lb k]? = some (.loop r)) :
  RelSt w0 M { st with loops:=st.loops.set k { la with st:=s,pend:=p } } (w.putObj (M.lb k) (.loop { r with state:=s,pending:=p }))∧Ext w0 M w M (w.putObj (M.lb k) (.loop { r with state:=s,pending:=p })):=by
 have g:k<st.loops.length:=(Ak.1 hk).1
 have f:k<M.NL:=by rw [h.loop.NL];exact g
 have y:M.lb k<w.heap.size:=(Array.getElem?_eq_some_iff.1 hr).1
 obtain ⟨g0,Q⟩:=h.loop.record k la hk
 obtain ⟨G,g2,g3,g4,g5,g6,D,U⟩:=Q.isLoop hr
 generalize ho':Obj.loop { r with state:=s,pending:=p }=o'
 have hs:∀ (b a:Nat) (v:Value),w.cell? ⟨b,a,none⟩=some v→(w.putObj (M.lb k) o').cell? ⟨b,a,none⟩=some v:=fun b a v=>MK hr rfl
 have C:∀ {b:Nat} {c:Array Value} {d:TypeId},w.heap[b]? = some (.cells c d (0,0))→(w.putObj (M.lb k) o').heap[b]? = some (.cells c d (0,0)):=by
  intro b c d hb
  rw [World.putObj_heap_other (fun e=>by subst e;rw [hr] at hb;cases hb)]
  exact hb
 refine ⟨⟨Below.putObj h.below g0 _,h.N,h.NR,fun b hb=>h.top b (by simpa using hb),h.inj,fun l cs m=>?_,fun id x J=>(h.row id x J).same hs C (by simp),h.rowinj,⟨by simp [h.loop.NL],h.loop.inj,fun j K hj=>?_⟩⟩,
  ⟨Nat.le_refl _,fun _ _=>rfl,Nat.le_refl _,fun _ _=>⟨Nat.le_refl _,fun _=>⟨rfl,rfl,rfl⟩⟩,fun b a v t E=>⟨hs b a v E,t⟩,by simp,Nat.le_refl _,fun _ _=>rfl,fun _ _ _=>by omega,fun b o t _ V=>?_⟩⟩
 ·obtain ⟨a1,a2,c,d,a3,a4,a5,a6⟩:=h.box l cs m
  exact ⟨a1,a2,c,d,C a3,a4,a5,fun i O F=>(a6 i O F).same hs⟩
 ·by_cases q:j=k
  ·subst q
   rw [List.getElem?_set_self g] at hj
   cases hj
   exact ⟨g0,.ofLoop G ⟨{ r with state:=s,pending:=p },by rw [←ho'];exact World.putObj_heap_same y,rfl,rfl,g4,g5,g6,D,fun s x u=>(U s x u).same hs⟩⟩
  ·rw [List.getElem?_set_ne (Ne.symm q)] at hj
   have n:j<M.NL:=by rw [h.loop.NL];exact (Ak.1 hj).1
   obtain ⟨a1,a2⟩:=h.loop.record j K hj
   exact ⟨a1,a2.map (fun o z _=>by rw [World.putObj_heap_other (fun e=>q (h.loop.inj j k n f e))];exact z) fun s x v _ H=>H.same hs⟩
 ·rw [World.putObj_heap_other (fun e=>V k f e.symm)]
  exact t
def Mem.newLoop (M:Mem) (b:Nat):Mem:={ M with NL:=M.NL+1,lb:=fun k=>if k=M.NL then b else M.lb k }
theorem Rel.newLoop (h:Rel w0 n M e st a w) (fn:FuncId) (ps:Array Tmp) (asg body:Code) :
  RelSt w0 (M.newLoop (w.heap.size+1)) (st.push ⟨e,n,ps,asg,body,.ready,none,none⟩) ((w.alloc (.deferred (some []))).alloc (.loop { state := .ready,pending:=none,fn,tmps:=a.tmps,params:=ps,assign:=asg,body,defers:=w.heap.size })) ∧
  Ext w0 M w (M.newLoop (w.heap.size+1)) ((w.alloc (.deferred (some []))).alloc (.loop { state := .ready,pending:=none,fn,tmps:=a.tmps,params:=ps,assign:=asg,body,defers:=w.heap.size })):=by
 generalize hr:({ state := .ready,pending:=none,fn,tmps:=a.tmps,params:=ps,assign:=asg,body,defers:=w.heap.size }:Loop)=r
 have g:KeepsObj w ((w.alloc (.deferred (some []))).alloc (.loop r)):=(KeepsObj.alloc _ _).trans (KeepsObj.alloc _ _)
 have u:∀ (b p:Nat) (v:Value),w.cell? ⟨b,p,none⟩=some v→((w.alloc (.deferred (some []))).alloc (.loop r)).cell? ⟨b,p,none⟩=some v:=by
  intro b p v hv
  have m:=World.block_lt_of_cell? w _ hv
  rw [World.cell?_alloc_lt _ _ _ (by simp;exact Nat.lt_succ_of_lt m),World.cell?_alloc_lt _ _ _ m]
  exact hv
 have f:∀ k,k<M.NL→(M.newLoop (w.heap.size+1)).lb k=M.lb k:=fun k hk=>by simp [Mem.newLoop];omega
 have d:(M.newLoop (w.heap.size+1)).lb M.NL=w.heap.size+1:=by simp [Mem.newLoop]
 have C:Ext w0 M w (M.newLoop (w.heap.size+1)) ((w.alloc (.deferred (some []))).alloc (.loop r)) :=
  ⟨Nat.le_refl _,fun _ _=>rfl,Nat.le_refl _,fun _ _=>⟨Nat.le_refl _,fun _=>⟨rfl,rfl,rfl⟩⟩,fun b p v D z=>⟨u b p v z,D⟩,by simp;omega,Nat.le_succ _,f,fun k D z=>by
   have:k=M.NL:=by simp only [Mem.newLoop] at z;omega
   rw [this,d];omega,fun b o D z _=>g b o D z⟩
 have H:∀ {b:Nat},b<w.heap.size→((w.alloc (.deferred (some []))).alloc (.loop r)).heap[b]? = w.heap[b]? := fun {b} E=>by
  rw [Bq _ _ (by simp;omega),Bq _ _ E]
 refine ⟨⟨(h.st.below.alloc h.st.base_le _).alloc (by have:=h.st.base_le;simp;omega) _,h.st.N,h.st.NR,fun b E=>h.st.top b (by simp at E;omega),h.st.inj,fun l cs Q=>?_,fun id x F=>(h.st.row id x F).keep C rfl rfl rfl rfl rfl (h.st.row id x F).ne (H (h.st.row id x F).lt),h.st.rowinj,⟨by simp [Mem.newLoop,St.push,h.st.loop.NL],fun k y hk t q=>?_,fun k Y hk=>?_⟩⟩,C⟩
 ·obtain ⟨a1,a2,c,K,a3,a4,a5,a6⟩:=h.st.box l cs Q
  exact ⟨a1,a2,c,K,by rw [show (M.newLoop (w.heap.size+1)).bx l=M.bx l from rfl,H (Array.getElem?_eq_some_iff.1 a3).1];exact a3,a4,a5,fun i U J=>(a6 i U J).mono C⟩
 ·have m:∀ j,j<M.NL→M.lb j<w.heap.size:=fun j V=>by
   exact (h.st.loop.record j _ (List.getElem?_eq_getElem (by rw [←h.st.loop.NL];exact V))).2.lt
  simp only [Mem.newLoop] at hk t
  by_cases c:k=M.NL
  ·by_cases c':y=M.NL
   ·omega
   ·subst c
    rw [d,f y (by omega)] at q
    have:=m y (by omega)
    omega
  ·by_cases c':y=M.NL
   ·subst c'
    rw [d,f k (by omega)] at q
    have:=m k (by omega)
    omega
   ·rw [f k (by omega),f y (by omega)] at q
    exact h.st.loop.inj k y (by omega) (by omega) q
 ·simp only [St.push] at hk
  by_cases c:k=st.loops.length
  ·subst c
   simp only [List.getElem?_concat_length,Option.some.injEq] at hk
   subst hk
   rw [←h.st.loop.NL,d]
   refine ⟨by have:=h.st.base_le;omega,.ofLoop rfl ⟨r,?_,?_⟩⟩
   ·have:=World.alloc_heap_new (w.alloc (.deferred (some []))) (.loop r)
    rwa [World.size_alloc] at this
   ·have G:r.tmps=a.tmps:=by rw [←hr]
    exact ⟨by rw [←hr],by rw [←hr],by rw [←hr],by rw [←hr],by rw [←hr],by rw [G];exact h.size,fun s x hs=>by rw [G];exact (h.env s x hs).mono C⟩
  ·have t:k<st.loops.length:=by
    have:=(Ak.1 hk).1
    simp at this;omega
   rw [List.getElem?_append_left t] at hk
   obtain ⟨a1,a2⟩:=h.st.loop.record k Y hk
   rw [f k (by rw [h.st.loop.NL];exact t)]
   exact ⟨a1,a2.map (fun o q1 q2=>g _ _ q1 q2) fun s x v _ O=>O.mono C⟩
def Y0 (I:Exit→St→Prop) (s1 X:St) (la:LoopA):AQ:=fun x _ s =>
 ∃ t b,s=⟨t.boxes++X.boxes++b,t.rows,(s1.loops++[la])++X.loops⟩∧t.like s1∧t.loops=s1.loops∧I x t ∧
  (b=[]∨Calm (s1.boxes.length+X.boxes.length) t.rows.length s.loops.length ⟨t.boxes++X.boxes,t.rows,s.loops⟩)
def VZ:Exit→Option (Option Code)
 | .normal=>some none
 | .ret=>some (some .ret)
 | .exit id=>some (some (.exit id))
 | _=>none
theorem Zdr {M0:Mem} {W0:World} {I:Exit→St→Prop} {s1 X:St} (hX:X.rows=[]) {la:LoopA} (hka:la.keys=none) {Post:AV→St→Prop} {x:Exit} {jump:Option Code}
  (h0:RelSt w0 M0 ((s1.push { la with st := .ready,pend:=none }).ext X) W0) (hx0:Ext w0 M0 W0 M w) {e':Env} {s':St} (hr:RelSt w0 M s' w) (hq:Y0 I s1 X { la with st := .busy,pend:=none } x e' s')
  (hpost:∀ t,t.like s1→t.loops=s1.loops→I x t→Post (.val (.bool jump.isNone)) ((t.push { la with st:=if jump.isNone then .ready else .done,pend:=jump }).ext X)) :
  ∃ v w',(Instr.endRound (M0.lb s1.loops.length) jump).run P w = .ok v w'∧Comes' w0 M0 W0 Post (.returned v) w':=by
 obtain ⟨t,b,rfl,F,o,p,t4⟩:=hq
 have n:((s1.loops++[{ la with st := .busy,pend:=none }])++X.loops)[s1.loops.length]? = some { la with st := .busy,pend:=none }:=by
  rw [List.getElem?_append_left (by simp),List.getElem?_concat_length]
 obtain ⟨s,g1,_⟩:=(hr.loop.record _ _ n).2.loop hka
 have f:s1.loops.length<M0.NL:=by rw [h0.loop.NL];simp [St.ext,St.push]
 rw [←hx0.lb _ f]
 obtain ⟨e,H⟩:=hr.setLoop n (if jump.isNone then .ready else .done) jump g1
 refine ⟨_,_,run_endRound jump g1,?_⟩
 have C:((s1.loops++[{ la with st := .busy,pend:=none }])++X.loops).set s1.loops.length { la with st:=if jump.isNone then .ready else .done,pend:=jump }=(s1.loops++[{ la with st:=if jump.isNone then .ready else .done,pend:=jump }])++X.loops:=by
  rw [List.set_append_left _ _ (by simp),List.set_append_right _ _ (by simp)]
  simp
 simp only at e
 rw [C] at e
 have g:=hx0.trans H
 have hd:M0.N=s1.boxes.length+X.boxes.length∧M0.NR=s1.rows.length∧M0.NL=s1.loops.length+1+X.loops.length:=by
  refine ⟨by rw [h0.N];simp [St.ext,St.push],by rw [h0.NR];simp [St.ext,St.push,hX],by rw [h0.loop.NL];simp [St.ext,St.push];omega⟩
 obtain ⟨u,z,r⟩:=F
 have m:=hpost t ⟨u,z,r⟩ o p
 have l:(t.push { la with st:=if jump.isNone then .ready else .done,pend:=jump }).ext X=⟨t.boxes++X.boxes,t.rows,(s1.loops++[{ la with st:=if jump.isNone then .ready else .done,pend:=jump }])++X.loops⟩:=by
  simp only [St.push,St.ext,o,hX,List.append_nil]
 rw [l] at m
 have c:∀ M' w',R w0 M' w' (.bool jump.isNone) (.val (.bool jump.isNone)):=fun _ _ => .flat rfl
 rcases t4 with rfl | t4
 ·simp only [List.append_nil] at e
  exact ⟨_,M,_,_,rfl,m,g,e,c _ _⟩
 ·refine ⟨_,M.cut (s1.boxes.length+X.boxes.length) t.rows.length (s1.loops.length+1+X.loops.length),_,_,rfl,m,g.cut (by omega) (by omega) (by omega) (by rw [e.loop.NL];simp;omega),?_,c _ _⟩
  have d:=e.cut (nb:=s1.boxes.length+X.boxes.length) (nr:=t.rows.length) (nl:=s1.loops.length+1+X.loops.length) (by simp;omega) (by simp) (by simp;omega)
  have G:List.take (s1.boxes.length+X.boxes.length) (t.boxes++X.boxes++b)=t.boxes++X.boxes:=List.take_left' (by simp;omega)
  have E:List.take t.rows.length t.rows=t.rows:=List.take_length
  have D:∀ a,List.take (s1.loops.length+1+X.loops.length) (s1.loops++[a]++X.loops)=s1.loops++[a]++X.loops:=fun a=>List.take_of_length_le (by simp;omega)
  simp only [St.cut,G,E,D] at d
  have j:(s1.loops++[{ la with st:=LoopState.busy,pend:=none }]++X.loops).length=s1.loops.length+1+X.loops.length:=by simp;omega
  refine d ⟨?_,?_,fun a hla k y h i=>?_⟩
  ·have:=t4.rows
   simp only [j] at this
   exact this
  ·have:=t4.boxes
   simp only [j] at this
   exact this
  ·have q:=t4.loops
   simp only [j] at q
   simp only [List.mem_append,List.mem_singleton] at hla q
   rcases hla with (hla | rfl) | hla
   ·exact q a (.inl (.inl hla)) k y h i
   ·exact q { la with st := .busy,pend:=none } (.inl (.inr rfl)) k y h i
   ·exact q a (.inr hla) k y h i
structure RoundAt (M0:Mem) (s:St):Prop where
 N:M0.N=s.boxes.length
 NR:M0.NR=s.rows.length
 NL:M0.NL=s.loops.length
 calm:Calm s.boxes.length s.rows.length s.loops.length s
theorem RoundAt.turn {M0:Mem} {s X:St} {la la':LoopA} (h:RoundAt M0 ((s.push la).ext X)) (he:la'.e=la.e):RoundAt M0 ((s.push la').ext X) where
 N:=h.N
 NR:=h.NR
 NL:=by rw [h.NL];simp [St.ext,St.push]
 calm:=by
  have f:((s.push la').ext X).loops.length=((s.push la).ext X).loops.length:=by simp [St.ext,St.push]
  rw [f]
  refine ⟨h.calm.rows,h.calm.boxes,fun l d k x a c=>?_⟩
  have b:l∈s.loops∨l=la'∨l∈X.loops:=by simpa [St.ext,St.push,or_assoc] using d
  rcases b with q | rfl | q
  ·exact h.calm.loops l (by simp [St.ext,St.push,q]) k x a c
  ·rw [he] at a
   exact h.calm.loops la (by simp [St.ext,St.push]) k x a c
  ·exact h.calm.loops l (by simp [St.ext,St.push,q]) k x a c
theorem Zdm {la:LoopA} (hka:la.keys=none) {s1 X:St} (hX:X.rows=[]) {I:Exit→St→Prop} {x:List AV} {Post:AV→St→Prop} (hlen:x.length=la.ps.size) (hps:∀ p∈la.ps.toList,p<la.n)
  (hbody:∀ (M0:Mem) (W0:World) (l:Nat),RoundAt M0 ((s1.push { la with st := .ready,pend:=none }).ext X)→RoundAt M0 ((s1.push { la with st := .busy,pend:=none }).ext X)→Eb P w0 la.n M0 W0 (some l) la.asg (Xh (fun e' s'=>s'.loops=((s1.push { la with st := .ready,pend:=none }).ext X).loops ∧
   Eb P w0 la.n M0 W0 (some l) la.body (Y0 I s1 X { la with st := .busy,pend:=none }) e' { s' with loops:=((s1.push { la with st := .busy,pend:=none }).ext X).loops }) (fun _ _ _=>False))
   (W8 la.e la.ps.toList x) ((s1.push { la with st := .ready,pend:=none }).ext X))
  (hI:∀ ex s,I ex s→(VZ ex).isSome=true)
  (hpost:∀ ex jump t,VZ ex=some jump→t.like s1→t.loops=s1.loops→I ex t→Post (.val (.bool jump.isNone)) ((t.push { la with st:=if jump.isNone then .ready else .done,pend:=jump }).ext X)) :
  U4 P w0 s1.loops.length x ((s1.push { la with st := .ready,pend:=none }).ext X) Post:=by
 intro M w d c f
 have V:((s1.push { la with st := .ready,pend:=none }).ext X).loops[s1.loops.length]? = some { la with st := .ready,pend:=none }:=by
  simp only [St.ext,St.push]
  rw [List.getElem?_append_left (by simp),List.getElem?_concat_length]
 obtain ⟨r,g1,g2,g3,g4,g5,g6,U,g8⟩:=(c.loop.record _ _ V).2.loop hka
 simp only at g2 g3 g4 g5 g6 U g8
 have J:=run_yield (P:=P) (args:=d) g1 (by rw [g4,f.1,hlen])
 refine ⟨_,_,_,_,J,fun m=>roundIn_of_wpIn (F:=Fence.wide) trivial ?_⟩
 rw [g5,g6]
 have k:Rel w0 la.n M la.e ((s1.push { la with st := .ready,pend:=none }).ext X) { tmps:=r.tmps,defers:=[] } w:=⟨c,U,g8⟩
 have C:=Rel.bind la.ps.toList d.toList x la.e _ k (by simp [hlen]) hps (by simp [f.1]) (fun i v y hv J=>f.get (by rw [←Array.getElem?_toList];exact hv) J)
 have H:(r.params.zip d).foldl (fun tmps (t,a)=>tmps.setIfInBounds t a) r.tmps=(la.ps.toList.zip d.toList).foldl (fun t (p,v)=>t.setIfInBounds p v) r.tmps:=by
  rw [g4,←Array.foldl_toList,Array.toList_zip]
 rw [H]
 refine wpIn_mono (hbody M w (M.lb s1.loops.length) ⟨c.N,c.NR,c.loop.NL,c.calm⟩ (RoundAt.turn (la:={ la with st := .ready,pend:=none }) ⟨c.N,c.NR,c.loop.NL,c.calm⟩ rfl) m M _ w ⟨C,.refl _ _ _,[],by simp⟩) ?_
 rintro ex a1 w1 ⟨M1,e1,s',h,Y⟩
 cases ex with
 | normal =>
  obtain ⟨z,hb⟩:=Y
  have q:s'.loops[s1.loops.length]? = some { la with st := .ready,pend:=none }:=by rw [z];exact V
  obtain ⟨E,G,k2,_⟩:=(h.rel.st.loop.record _ _ q).2.loop hka
  have Q:s1.loops.length<M.NL:=by rw [c.loop.NL];simp [St.ext,St.push]
  have g:=h.ext.lb _ Q
  rw [g] at G
  refine ⟨_,run_beginRound G k2,?_⟩
  obtain ⟨D,u⟩:=h.rel.st.setLoop q .busy none (by rw [g];exact G)
  rw [g] at D u
  have j:E.pending=none:=by
   obtain ⟨aa,k1',_,K,_⟩:=(h.rel.st.loop.record _ _ q).2.loop hka
   rw [g,G] at k1'
   cases k1'
   exact K
  have er:({ E with state:=LoopState.busy,pending:=none }:Loop)={ E with state:=LoopState.busy }:=by rw [←j]
  rw [er] at D u
  have eL:{ s' with loops:=s'.loops.set s1.loops.length { la with st := .busy,pend:=none } }={ s' with loops:=((s1.push { la with st := .busy,pend:=none }).ext X).loops }:=by
   rw [z]
   simp only [St.ext,St.push]
   rw [List.set_append_left _ _ (by simp),List.set_append_right _ _ (by simp)]
   simp
  simp only at D
  rw [eL] at D
  have O:At w0 la.n M w e1 { s' with loops:=((s1.push { la with st := .busy,pend:=none }).ext X).loops } a1 (w1.putObj (M.lb s1.loops.length) (.loop { E with state := .busy })) M1 :=
   ⟨⟨D,h.rel.size,fun s x hs=>(h.rel.env s x hs).mono u⟩,h.ext.trans u,h.marks.later u h.rel.st⟩
  refine wpIn_mono (hb m M1 a1 _ O) ?_
  rintro ex a2 w2 ⟨M2,e2,s2,h3,Z⟩
  have o:=hI ex
  have fin:∀ jump,VZ ex=some jump→∃ v w',(Instr.endRound (M.lb s1.loops.length) jump).run P w2 = .ok v w'∧Comes' w0 M w Post (.returned v) w':=fun jump hj =>
   Zdr hX hka (jump:=jump) c h3.ext h3.rel.st Z (fun t t1 t2 t3=>hpost ex jump t hj t1 t2 t3)
  obtain ⟨t,b,q1,q2,q3,q4,q5⟩:=Z
  have:=o t q4
  cases ex with
  | normal=>exact fin _ rfl
  | ret=>exact fin _ rfl
  | exit id=>exact fin _ rfl
  | _=>simp [VZ] at this
 | _=>exact Y.elim
theorem S5 {PX:St→Prop} {M0:Mem} {W0:World} {Q:AQ} {g:Operand} {ps:Array Tmp} {asg body:Code} {gf:FuncId} {caps:List AV} (items:Aq) (Fr:St→Prop) (I:Nat→St→Prop) (Ix:Exit→St→Prop)
  (hg:AP e true g) (hgv:AC e g = .clo gf caps) (hit:ZaQ PX P w0 gf caps items Fr) (hlen:∀ x∈items,x.length=ps.size) (hps:∀ p∈ps.toList,p<n)
  (hFr:∀ i s la,I i s→s.like st→s.loops=st.loops→Fr (s.push la)) (h0:I 0 st) (hIx:∀ ex s,Ix ex s→ex = .ret∨∃ id,ex = .exit id)
  (hbody:∀ (i:Nat) (s1 X:St) (x:List AV) (M0:Mem) (W0:World) (l:Nat) (la la':LoopA),PX X→I i s1→s1.like st→s1.loops=st.loops→items[i]? = some x→RoundAt M0 ((s1.push la').ext X) →
   ∀ K:Env→St→Prop,(∀ e' s',s'.loops=((s1.push la).ext X).loops→(∀ KQ:AQ,(∀ ex e s,Y0 (fun ex s=>match ex with | .normal=>I (i+1) s | _=>Ix ex s) s1 X la' ex e s→KQ ex e s)→Eb P w0 n M0 W0 (some l) body KQ e' { s' with loops:=((s1.push la').ext X).loops })→K e' s') →
   Eb P w0 n M0 W0 (some l) asg (Xh K (fun _ _ _=>False)) (W8 e ps.toList x) ((s1.push la).ext X))
  (hdone:∀ s la X,X.rows=[]→I items.length s→s.like st→s.loops=st.loops→Q .normal e ((s.push la).ext X))
  (hleft:∀ ex s la X,X.rows=[]→Ix ex s→s.like st→s.loops=st.loops→Q ex e ((s.push la).ext X)) (hPX:∀ X,PX X→X.rows=[]:=by first | exact fun _ h=>h | exact fun _ h=>h▸rfl):Eb P w0 n M0 W0 none (.rangeFunc g ps asg body) Q e st:=by
 intro m M a w o
 refine wpIn_rangeFunc fun fn _=>?_
 obtain ⟨n1,n2⟩:=o.rel.newLoop fn ps asg body
 obtain ⟨cs,ag,C⟩:=Zcd (hgv▸A5 o.rel hg)
 generalize hW1:((w.alloc (.deferred (some []))).alloc (.loop { state := .ready,pending:=none,fn,tmps:=a.tmps,params:=ps,assign:=asg,body,defers:=w.heap.size }))=W1 at n1 n2
 generalize hM1:M.newLoop (w.heap.size+1)=M1 at n1 n2
 have ad:M.NL=st.loops.length:=o.rel.st.loop.NL
 have E:M1.lb st.loops.length=w.heap.size+1:=by rw [←hM1,←ad];simp [Mem.newLoop]
 have aa:∀ k,k<st.loops.length→M1.lb k<w.heap.size:=fun k V=>by
  rw [n2.lb k (by omega)]
  exact (o.rel.st.loop.record k _ (List.getElem?_eq_getElem V)).2.lt
 have ak:M1.NL=st.loops.length+1:=by rw [n1.loop.NL];simp [St.push]
 have z:W1.heap[w.heap.size]? = some (.deferred (some [])):=by
  rw [←hW1];exact (Bq _ _ (by simp)).trans (World.alloc_heap_new w _)
 let la0:LoopA:=⟨e,n,ps,asg,body,.ready,none,none⟩
 let J:Nat→St→Prop:=fun i s=>∃ s1,I i s1∧s1.like st∧s1.loops=st.loops∧s=s1.push la0
 let Jx:St→Prop:=fun s=>∃ ex c s1,VZ ex=some (some c)∧Ix ex s1∧s1.like st∧s1.loops=st.loops∧s=s1.push { la0 with st := .done,pend:=some c }
 have j:=hit st.loops.length J Jx (fun i s ⟨s1,F,u,j3,j4⟩=>⟨by rw [j4];exact hFr i s1 la0 F u j3,by rw [j4];simp [St.push,j3]⟩)
  (fun i s x X hX ⟨s1,F,u,j3,j4⟩ U=>by
   subst j4
   have:=Zdm rfl (hPX X hX) (P:=P) (w0:=w0) (la:=la0) (s1:=s1) (X:=X) (I:=fun ex s=>match ex with | .normal=>I (i+1) s | _=>Ix ex s) (x:=x)
    (Post:=fun r s'=>∃ t,s'=t.ext X∧t.like (s1.push la0)∧((r = .val (.bool true)∧J (i+1) t)∨(r = .val (.bool false)∧Jx t)))
    (hlen x (List.mem_of_getElem? U)) hps (fun M0 W0 l _ ab=>hbody i s1 X x M0 W0 l _ _ hX F u j3 U ab _ (fun e' s' h1 N=>⟨h1,N _ (fun _ _ _ h=>h)⟩))
    (fun ex s h=>by
     cases ex with
     | normal=>rfl
     | ret=>rfl
     | exit id=>rfl
     | _=>rcases hIx _ s h with h | ⟨id,h⟩<;>cases h)
    (fun ex am t hj t1 t2 t3=>by
     refine ⟨_,rfl,⟨t1.1,t1.2.1,by simp [St.push,t2]⟩,?_⟩
     have like':t.like st:=⟨t1.1.trans u.1,Nat.le_trans u.2.1 t1.2.1,t1.2.2.trans u.2.2⟩
     cases ex with
     | normal=>cases hj;exact .inl ⟨rfl,t,t3,like',t2.trans j3,rfl⟩
     | ret=>cases hj;exact .inr ⟨rfl,.ret,.ret,t,rfl,t3,like',t2.trans j3,rfl⟩
     | exit id=>cases hj;exact .inr ⟨rfl,.exit id,.exit id,t,rfl,t3,like',t2.trans j3,rfl⟩
     | _=>cases hj)
   rw [j3] at this
   exact this)
  (st.push la0) ⟨st,h0,⟨rfl,Nat.le_refl _,rfl⟩,rfl,rfl⟩
 have H:RowR w0 M1 W1 (#[.func (.yield (w.heap.size+1)) #[] #[]]++cs) (.yld st.loops.length::caps):=by
  have e1:RowR w0 M1 W1 #[.func (.yield (w.heap.size+1)) #[] #[]] [.yld st.loops.length]:=by
   refine ⟨rfl,fun i h1 N=>?_⟩
   have:i=0:=by simp at N;exact N
   subst this
   have:=R.yld (w0:=w0) (M:=M1) (w:=W1) (k:=st.loops.length) (by omega)
   rw [E] at this
   exact this
  have e2:RowR w0 M1 W1 cs caps:=⟨C.1,fun i h1 N=>(C.2 i h1 N).mono n2⟩
  exact e1.append e2
 refine ⟨w.heap.size+1,[{ target := .collected w.heap.size,args := #[] }],W1,{ target := .fn (.func gf) cs,args := #[.func (.yield (w.heap.size+1)) #[] #[]] },W1,gf,
  #[.func (.yield (w.heap.size+1)) #[] #[]]++cs,W1,?_,?_,?_,?_,fun q=>Wh none q m,?_⟩
 ·rw [←hW1];exact run_enterLoop_outer _ _ _ _ _
 ·simp only [resolve,ag]
  simp [go_sem]
 ·intro f' _;exact Tv none f'
 ·simp [invoke,go_sem,j.1 _ W1]
 ·refine VU ((j.2 M1 W1 _ n1 H).mono ?_)
  rintro en w3 ⟨v,M3,r,s3,rfl,hp,x3,r3,_⟩
  have aj:M3.lb st.loops.length=w.heap.size+1:=(x3.lb _ (by omega)).trans E
  have d:∀ (s1 X:St) (p:Option Code) (b:LoopState),b ≠ .busy→s3=(s1.push { la0 with st:=b,pend:=p }).ext X→s1.loops=st.loops →
    ∃ O,(Instr.endLoop (w.heap.size+1)).run P w3 = .ok p O∧At w0 n M0 W0 e ((s1.push { la0 with st := .exhausted,pend:=p }).ext X) { a with defers:=[{ target := .collected w.heap.size,args := #[] }]++a.defers } O M3:=by
   intro s1 X p b Z hs3 Y
   subst hs3
   have V:((s1.push { la0 with st:=b,pend:=p }).ext X).loops[st.loops.length]? = some { la0 with st:=b,pend:=p }:=by
    simp [St.push,St.ext,Y]
   obtain ⟨G,g1,g2,g3,_⟩:=(r3.loop.record _ _ V).2.loop rfl
   simp only at g2 g3
   obtain ⟨z1,z2⟩:=r3.setLoop V .exhausted p g1
   rw [aj] at g1 z1 z2
   have f:=run_endLoop (P:=P) g1 (by rw [g2];exact Z)
   have er:({ G with state:=LoopState.exhausted,pending:=p }:Loop)={ G with state:=LoopState.exhausted }:=by rw [←g3]
   rw [er] at z1 z2
   have f:=f.trans (congrArg (fun q=>Result.ok q _) g3)
   have eL:{ ((s1.push { la0 with st:=b,pend:=p }).ext X) with loops:=((s1.push { la0 with st:=b,pend:=p }).ext X).loops.set st.loops.length { la0 with st := .exhausted,pend:=p } }=(s1.push { la0 with st := .exhausted,pend:=p }).ext X:=by
    simp only [St.push,St.ext,Y,List.append_assoc]
    rw [List.set_append_right _ _ (by simp)]
    simp
   simp only at z1
   have U:Ext w0 M w M3 (w3.putObj (w.heap.size+1) (.loop { G with state := .exhausted })):=n2.trans (x3.trans z2)
   refine ⟨_,f,⟨⟨?_,o.rel.size,fun s x hs=>(o.rel.env s x hs).mono U⟩,o.ext.trans U,?_⟩⟩
   ·rw [←eL];exact z1
   ·obtain ⟨Ds,d1,d2,d3⟩:=o.marks.later U o.rel.st
    obtain ⟨Ds',ao,ai,af⟩:=o.marks
    have ae:Ds'=Ds:=by
     rw [ai] at d2
     have ah:Function.Injective (fun D=>({ target := .collected D,args := #[] }:Deferred)):=fun x y h=>by simpa using h
     exact List.map_inj_right (fun x y h=>ah h) |>.1 d2
    refine ⟨w.heap.size::Ds,List.nodup_cons.2 ⟨fun hm=>?_,d1⟩,by simp [d2],fun D hD=>?_⟩
    ·have:=(af _ (ae▸hm)).2
     have:=(Array.getElem?_eq_some_iff.1 this).1
     omega
    ·rcases List.mem_cons.1 hD with rfl | hD
     ·refine ⟨o.ext.size,?_⟩
      rw [World.putObj_heap_other (by omega)]
      refine x3.objs _ _ z rfl fun k V=>?_
      by_cases c:k=st.loops.length
      ·subst c;omega
      ·have:=aa k (by omega)
       omega
     ·exact d3 D hD
  obtain ⟨t,X,hX,rfl,hp⟩:=hp
  rcases hp with ⟨s1,F,u,j3,rfl⟩ | ⟨ex,c,s1,j0,F,u,j3,rfl⟩
  ·obtain ⟨O,q1,q2⟩:=d s1 X none .ready (by simp) rfl j3
   exact ⟨none,O,q1,M3,e,_,q2,hdone s1 _ X hX F u j3⟩
  ·obtain ⟨O,q1,q2⟩:=d s1 X (some c) .done (by simp) rfl j3
   refine ⟨some c,O,q1,?_⟩
   have hq:=hleft ex s1 { la0 with st := .exhausted,pend:=some c } X hX F u j3
   cases ex with
   | ret=>cases j0;exact wpIn_ret ⟨M3,e,_,q2,hq⟩
   | exit id=>cases j0;exact wpIn_exit ⟨M3,e,_,q2,hq⟩
   | _=>cases j0
end
attribute [go_sem] Zef Oo eqCell.eq_1 eqCell.eq_2 eqCell.eq_3 NC Vu JM argP B9 looks Zfo Op.operands Call.operands Array.toList_append Option.toArray evS Lm KZ B1 A4 AP AC look Lu Ea Xh U9 ZeR Wa ZcL Zap Jo NW PI Qg GN W6 CO Ot inK Own.under AB Jn St.ext St.push St.cut W8 P1 nth evBin.eq_1 evBin.eq_2 evBin.eq_3 evBin.eq_4 evBin.eq_5 evBin.eq_6 evBin.eq_7 evBin.eq_8 evBin.eq_9 evBin.eq_10 evBin.eq_11 evBin.eq_12 evBin.eq_13 evBin.eq_14 evBin.eq_15 evBin.eq_16 evBin.eq_17 evBin.eq_18 evBin.eq_19 evBB.eq_1 evBB.eq_2 evUn.eq_1 evUn.eq_2
@[go_sem] theorem Zgu (k:Nat):UD (.tmp k)=false:=rfl
@[go_sem] theorem ZdN (v:Value):UD (.const v)=GX v:=rfl
@[go_sem] theorem ZgO (k:IntKind) (n:Int):GX (.int k n)=false:=rfl
@[go_sem] theorem Zgx (s:ByteArray):GX (.string s)=false:=rfl
@[go_sem] theorem Zd2 (b:Bool):GX (.bool b)=false:=rfl
@[go_sem] theorem Zf9:GX .nilIface=true:=rfl
@[go_sem] theorem Zh0 (t:TypeId) (v:Value):GX (.iface t v)=false:=rfl
@[go_sem] theorem Zha (v:Value):VV .eql v=(Q8 v=true,GX v):=rfl
@[go_sem] theorem Zh6 (v:Value):VV .neq v=(Q8 v=true,!GX v):=rfl
@[go_sem] theorem Zfn (v:Value):FB (.val v:AV)=true:=rfl
@[go_sem] theorem ZdY (xs:List AV) (o:Own):FB (.list xs o:AV)=false:=rfl
@[go_sem] theorem ZdR (x:AV) (k:Nat):FB (.elem x k:AV)=false:=rfl
@[go_sem] theorem ZeF (l k:Nat):FB (.box l k:AV)=false:=rfl
@[go_sem] theorem Zev (f:FuncId) (cs:List AV):FB (.clo f cs:AV)=false:=rfl
@[go_sem] theorem Zd9 (cs:List AV):FB (.agg cs:AV)=false:=rfl
@[go_sem] theorem Zfh (vs:List AV):FB (.tup vs:AV)=false:=rfl
@[go_sem] theorem ZfU (k:Nat):FB (.yld k:AV)=false:=rfl
@[go_sem] theorem ZgN (k:Nat):FB (.mp k:AV)=false:=rfl
@[go_sem] theorem Zd3 (id ver o n:Nat):FB (.vec id ver o n:AV)=false:=rfl
@[go_sem] theorem Zfg (id ver o:Nat):FB (.vel id ver o:AV)=false:=rfl
@[go_sem] theorem ZfJ (v:Value):Hr (.val v:AV)=v:=rfl
@[go_sem] theorem ZiE (xs:List AV) (o:Own):Wj (.list xs o:AV)=false:=rfl
@[go_sem] theorem ZiF (x:AV) (k:Nat):Wj (.elem x k:AV)=false:=rfl
@[go_sem] theorem ZjW (l k:Nat):Wj (.box l k:AV)=false:=rfl
@[go_sem] theorem Zjq (f:FuncId) (cs:List AV):Wj (.clo f cs:AV)=false:=rfl
@[go_sem] theorem Zjx (cs:List AV):Wj (.agg cs:AV)=false:=rfl
@[go_sem] theorem Zj8 (vs:List AV):Wj (.tup vs:AV)=false:=rfl
@[go_sem] theorem ZjI (k:Nat):Wj (.yld k:AV)=false:=rfl
@[go_sem] theorem ZkC (k:Nat):Wj (.mp k:AV)=false:=rfl
@[go_sem] theorem Zj2 (id ver o n:Nat):Wj (.vec id ver o n:AV)=false:=rfl
@[go_sem] theorem ZjE (id ver o:Nat):Wj (.vel id ver o:AV)=false:=rfl
@[go_sem] theorem Zgj (xs:List AV) (o:Own):Ee (.list xs o:AV)=false:=rfl
@[go_sem] theorem Zgy (x:AV) (k:Nat):Ee (.elem x k:AV)=false:=rfl
@[go_sem] theorem Zh8 (l k:Nat):Ee (.box l k:AV)=false:=rfl
@[go_sem] theorem Zh9 (f:FuncId) (cs:List AV):Ee (.clo f cs:AV)=false:=rfl
@[go_sem] theorem ZhX (cs:List AV):Ee (.agg cs:AV)=false:=rfl
@[go_sem] theorem ZgW (vs:List AV):Ee (.tup vs:AV)=false:=rfl
@[go_sem] theorem Zg3 (k:Nat):Ee (.yld k:AV)=false:=rfl
@[go_sem] theorem ZiV (k:Nat):Ee (.mp k:AV)=false:=rfl
@[go_sem] theorem Zij (id ver o n:Nat):Ee (.vec id ver o n:AV)=false:=rfl
@[go_sem] theorem ZhO (id ver o:Nat):Ee (.vel id ver o:AV)=false:=rfl
@[go_sem] theorem ZfY (xs:List AV) (o:Own):ND (.list xs o:AV)=false:=rfl
@[go_sem] theorem Zf0 (x:AV) (k:Nat):ND (.elem x k:AV)=false:=rfl
@[go_sem] theorem Zg9 (l k:Nat):ND (.box l k:AV)=false:=rfl
@[go_sem] theorem ZhC (f:FuncId) (cs:List AV):ND (.clo f cs:AV)=false:=rfl
@[go_sem] theorem Zhv (cs:List AV):ND (.agg cs:AV)=false:=rfl
@[go_sem] theorem ZhV (vs:List AV):ND (.tup vs:AV)=false:=rfl
@[go_sem] theorem Zhw (k:Nat):ND (.yld k:AV)=false:=rfl
@[go_sem] theorem ZiT (k:Nat):ND (.mp k:AV)=false:=rfl
@[go_sem] theorem ZhZ (id ver o n:Nat):ND (.vec id ver o n:AV)=false:=rfl
@[go_sem] theorem Zh2 (id ver o:Nat):ND (.vel id ver o:AV)=false:=rfl
@[go_sem] theorem ZiC (b:Bool):Wj (.val (.bool b))=true:=rfl
@[go_sem] theorem ZjN (k:IntKind) (n:Int):Wj (.val (.int k n))=false:=rfl
@[go_sem] theorem Zjn (s:ByteArray):Wj (.val (.string s))=false:=rfl
@[go_sem] theorem Zhu:Wj (.val undef)=false:=rfl
@[go_sem] theorem ZkD (b:Bool):KB (.val (.bool b))=b:=rfl
@[go_sem] theorem Zlz (k:IntKind) (n:Int):Ee (.val (.int k n))=true:=rfl
@[go_sem] theorem Zkg (k:IntKind) (n:Int):AW (.val (.int k n))=n:=rfl
@[go_sem] theorem Zi9 (k:IntKind) (n:Int):Lq (.val (.int k n))=k:=rfl
@[go_sem] theorem ZlB (s:ByteArray):ND (.val (.string s))=true:=rfl
@[go_sem] theorem Zld (s:ByteArray):Ze5 (.val (.string s))=s:=rfl
@[go_sem] theorem ZkQ (n:Int):UQ (.val (.int .u8 n))=(0≤n∧n≤255):=rfl
@[go_sem] theorem Zeq (xs:List AV) (o:Own):A0 (.list xs o:AV)=xs:=rfl
@[go_sem] theorem ZgF (v:Value):BD (.val v:AV)=false:=rfl
@[go_sem] theorem ZfF (xs:List AV) (o:Own):BD (.list xs o:AV)=true:=rfl
@[go_sem] theorem ZeL (x:AV) (k:Nat):BD (.elem x k:AV)=false:=rfl
@[go_sem] theorem Zga (l k:Nat):BD (.box l k:AV)=false:=rfl
@[go_sem] theorem Zgk (f:FuncId) (cs:List AV):BD (.clo f cs:AV)=false:=rfl
@[go_sem] theorem ZgA (cs:List AV):BD (.agg cs:AV)=false:=rfl
@[go_sem] theorem Zgw (vs:List AV):BD (.tup vs:AV)=false:=rfl
@[go_sem] theorem ZgU (k:Nat):BD (.yld k:AV)=false:=rfl
@[go_sem] theorem Zh3 (k:Nat):BD (.mp k:AV)=false:=rfl
@[go_sem] theorem ZgH (id ver o n:Nat):BD (.vec id ver o n:AV)=false:=rfl
@[go_sem] theorem Zf5 (id ver o:Nat):BD (.vel id ver o:AV)=false:=rfl
@[go_sem] theorem ZhS (v:Value):EF (.val v:AV)=0:=rfl
@[go_sem] theorem Zgb (xs:List AV) (o:Own):EF (.list xs o:AV)=0:=rfl
@[go_sem] theorem Zgl (x:AV) (k:Nat):EF (.elem x k:AV)=k:=rfl
@[go_sem] theorem Zhm (l k:Nat):EF (.box l k:AV)=k:=rfl
@[go_sem] theorem ZhQ (f:FuncId) (cs:List AV):EF (.clo f cs:AV)=0:=rfl
@[go_sem] theorem Zhx (cs:List AV):EF (.agg cs:AV)=0:=rfl
@[go_sem] theorem Zig (vs:List AV):EF (.tup vs:AV)=0:=rfl
@[go_sem] theorem Zg6 (k:Nat):EF (.yld k:AV)=0:=rfl
@[go_sem] theorem Zis (k:Nat):EF (.mp k:AV)=0:=rfl
@[go_sem] theorem ZhU (id ver o n:Nat):EF (.vec id ver o n:AV)=0:=rfl
@[go_sem] theorem Zhi (id ver o:Nat):EF (.vel id ver o:AV)=o:=rfl
@[go_sem] theorem Zg2 (v:Value):Oe (.val v:AV)=false:=rfl
@[go_sem] theorem Zgi (xs:List AV) (o:Own):Oe (.list xs o:AV)=false:=rfl
@[go_sem] theorem Zgm (x:AV) (k:Nat):Oe (.elem x k:AV)=false:=rfl
@[go_sem] theorem Zhn (l k:Nat):Oe (.box l k:AV)=true:=rfl
@[go_sem] theorem ZhT (f:FuncId) (cs:List AV):Oe (.clo f cs:AV)=false:=rfl
@[go_sem] theorem Zhz (cs:List AV):Oe (.agg cs:AV)=false:=rfl
@[go_sem] theorem Zid (vs:List AV):Oe (.tup vs:AV)=false:=rfl
@[go_sem] theorem Zhq (k:Nat):Oe (.yld k:AV)=false:=rfl
@[go_sem] theorem Zin (k:Nat):Oe (.mp k:AV)=false:=rfl
@[go_sem] theorem Zhy (id ver o n:Nat):Oe (.vec id ver o n:AV)=false:=rfl
@[go_sem] theorem Zil (id ver o:Nat):Oe (.vel id ver o:AV)=true:=rfl
@[go_sem] theorem Zgs (v:Value):A3 (.val v:AV)=true:=rfl
@[go_sem] theorem Zeg (xs:List AV) (o:Own):A3 (.list xs o:AV)=true:=rfl
@[go_sem] theorem Ze1 (x:AV) (k:Nat):A3 (.elem x k:AV)=true:=rfl
@[go_sem] theorem ZgJ (l k:Nat):A3 (.box l k:AV)=true:=rfl
@[go_sem] theorem ZgR (f:FuncId) (cs:List AV):A3 (.clo f cs:AV)=true:=rfl
@[go_sem] theorem Zgo (cs:List AV):A3 (.agg cs:AV)=true:=rfl
@[go_sem] theorem ZgE (vs:List AV):A3 (.tup vs:AV)=false:=rfl
@[go_sem] theorem Zgg (k:Nat):A3 (.yld k:AV)=true:=rfl
@[go_sem] theorem ZhH (k:Nat):A3 (.mp k:AV)=true:=rfl
@[go_sem] theorem Zf2 (id ver o n:Nat):A3 (.vec id ver o n:AV)=true:=rfl
@[go_sem] theorem Zf6 (id ver o:Nat):A3 (.vel id ver o:AV)=true:=rfl
@[go_sem] theorem Zf7 (v:Value):Gk (.val v:AV)=false:=rfl
@[go_sem] theorem ZeZ (xs:List AV) (o:Own):Gk (.list xs o:AV)=false:=rfl
@[go_sem] theorem ZfT (x:AV) (k:Nat):Gk (.elem x k:AV)=false:=rfl
@[go_sem] theorem ZgV (l k:Nat):Gk (.box l k:AV)=false:=rfl
@[go_sem] theorem ZfV (f:FuncId) (cs:List AV):Gk (.clo f cs:AV)=false:=rfl
@[go_sem] theorem ZgK (cs:List AV):Gk (.agg cs:AV)=true:=rfl
@[go_sem] theorem ZgL (vs:List AV):Gk (.tup vs:AV)=false:=rfl
@[go_sem] theorem ZgG (k:Nat):Gk (.yld k:AV)=false:=rfl
@[go_sem] theorem ZhE (k:Nat):Gk (.mp k:AV)=false:=rfl
@[go_sem] theorem Zf4 (id ver o n:Nat):Gk (.vec id ver o n:AV)=false:=rfl
@[go_sem] theorem Zf8 (id ver o:Nat):Gk (.vel id ver o:AV)=false:=rfl
@[go_sem] theorem ZdT (v:Value):AV.cells (.val v:AV)=[.val v]:=rfl
@[go_sem] theorem ZcY (xs:List AV) (o:Own):AV.cells (.list xs o:AV)=[.list xs o]:=rfl
@[go_sem] theorem ZcJ (x:AV) (k:Nat):AV.cells (.elem x k:AV)=[.elem x k]:=rfl
@[go_sem] theorem ZdP (l k:Nat):AV.cells (.box l k:AV)=[.box l k]:=rfl
@[go_sem] theorem ZdV (f:FuncId) (cs:List AV):AV.cells (.clo f cs:AV)=[.clo f cs]:=rfl
@[go_sem] theorem Ud (cs:List AV):AV.cells (.agg cs:AV)=cs:=rfl
@[go_sem] theorem ZdS (vs:List AV):AV.cells (.tup vs:AV)=[.tup vs]:=rfl
@[go_sem] theorem ZdO (k:Nat):AV.cells (.yld k:AV)=[.yld k]:=rfl
@[go_sem] theorem Zek (k:Nat):AV.cells (.mp k:AV)=[.mp k]:=rfl
@[go_sem] theorem ZdU (id ver o n:Nat):AV.cells (.vec id ver o n:AV)=[.vec id ver o n]:=rfl
@[go_sem] theorem ZdM (id ver o:Nat):AV.cells (.vel id ver o:AV)=[.vel id ver o]:=rfl
@[go_sem] theorem Zgt (v:Value):AV.pub (.val v:AV) = .val v:=rfl
@[go_sem] theorem Zfv (xs:List AV) (o:Own):AV.pub (.list xs o:AV) = .list xs .none:=rfl
@[go_sem] theorem Zep (x:AV) (k:Nat):AV.pub (.elem x k:AV) = .elem x k:=rfl
@[go_sem] theorem ZgT (l k:Nat):AV.pub (.box l k:AV) = .box l k:=rfl
@[go_sem] theorem ZgP (f:FuncId) (cs:List AV):AV.pub (.clo f cs:AV) = .clo f cs:=rfl
@[go_sem] theorem Zgn (cs:List AV):AV.pub (.agg cs:AV) = .agg (cs.map AV.pubCell):=rfl
@[go_sem] theorem ZgB (vs:List AV):AV.pub (.tup vs:AV) = .tup vs:=rfl
@[go_sem] theorem ZfZ (k:Nat):AV.pub (.yld k:AV) = .yld k:=rfl
@[go_sem] theorem Zhg (k:Nat):AV.pub (.mp k:AV) = .mp k:=rfl
@[go_sem] theorem Zgc (id ver o n:Nat):AV.pub (.vec id ver o n:AV) = .vec id ver o n:=rfl
@[go_sem] theorem ZfX (id ver o:Nat):AV.pub (.vel id ver o:AV) = .vel id ver o:=rfl
@[go_sem] theorem Zcq (v:Value):AV.pubCell (.val v:AV) = .val v:=rfl
@[go_sem] theorem ZbO (xs:List AV) (o:Own):AV.pubCell (.list xs o:AV) = .list xs .none:=rfl
@[go_sem] theorem Zbj (x:AV) (k:Nat):AV.pubCell (.elem x k:AV) = .elem x k:=rfl
@[go_sem] theorem Zco (l k:Nat):AV.pubCell (.box l k:AV) = .box l k:=rfl
@[go_sem] theorem Zcf (f:FuncId) (cs:List AV):AV.pubCell (.clo f cs:AV) = .clo f cs:=rfl
@[go_sem] theorem Zcc (cs:List AV):AV.pubCell (.agg cs:AV) = .agg cs:=rfl
@[go_sem] theorem Zcr (vs:List AV):AV.pubCell (.tup vs:AV) = .tup vs:=rfl
@[go_sem] theorem Zcm (k:Nat):AV.pubCell (.yld k:AV) = .yld k:=rfl
@[go_sem] theorem Zdi (k:Nat):AV.pubCell (.mp k:AV) = .mp k:=rfl
@[go_sem] theorem Zcv (id ver o n:Nat):AV.pubCell (.vec id ver o n:AV) = .vec id ver o n:=rfl
@[go_sem] theorem Zce (id ver o:Nat):AV.pubCell (.vel id ver o:AV) = .vel id ver o:=rfl
@[go_sem] theorem Zgz (v:Value):AV.one (.val v:AV)=true:=rfl
@[go_sem] theorem Zd1 (xs:List AV) (o:Own):AV.one (.list xs o:AV)=true:=rfl
@[go_sem] theorem Zex (x:AV) (k:Nat):AV.one (.elem x k:AV)=true:=rfl
@[go_sem] theorem Zgd (l k:Nat):AV.one (.box l k:AV)=true:=rfl
@[go_sem] theorem Zge (f:FuncId) (cs:List AV):AV.one (.clo f cs:AV)=true:=rfl
@[go_sem] theorem Zf1 (cs:List AV):AV.one (.agg cs:AV)=false:=rfl
@[go_sem] theorem Zgf (vs:List AV):AV.one (.tup vs:AV)=false:=rfl
@[go_sem] theorem ZgC (k:Nat):AV.one (.yld k:AV)=true:=rfl
@[go_sem] theorem ZgX (k:Nat):AV.one (.mp k:AV)=true:=rfl
@[go_sem] theorem Zgp (id ver o n:Nat):AV.one (.vec id ver o n:AV)=true:=rfl
@[go_sem] theorem ZgM (id ver o:Nat):AV.one (.vel id ver o:AV)=true:=rfl
@[go_sem] theorem Zgv (l o n:Nat):RJ (.box l o) n = .box l (o+n):=rfl
@[go_sem] theorem ZgS (id ver o n:Nat):RJ (.vel id ver o) n = .vel id ver (o+n):=rfl
@[go_sem] theorem Ze8 (x:AV) (o n:Nat):RJ (.elem x o) n = .elem x (o+n):=rfl
@[go_sem] theorem Zkm (st:St) (l o:Nat) (xs:List AV):We st (.box l o) xs={ st with boxes:=st.boxes.set l (CN (st.boxes.getD l []) o xs) }:=rfl
@[go_sem] theorem ZiN (a b:AV):AV.sel true a b=a:=by unfold AV.sel;split<;>rfl
@[go_sem] theorem Zg5 (a b:AV):AV.sel false a b=b:=by unfold AV.sel;split<;>rfl
@[go_sem] theorem Ziy (t a b:Bool):AV.sel t (.val (.bool a)) (.val (.bool b)) = .val (.bool (cond t a b)):=by cases t<;>rfl
attribute [go_sem] Xw VF U2 Xx RQ Py XE Xq ZM XI XC
@[go_sem] theorem ZjZ:KD []=[]:=rfl
@[go_sem] theorem ZjU (t:Nat) (r:List Operand):KD (.tmp t::r)=t::KD r:=rfl
@[go_sem] theorem ZgZ (v:Value) (r:List Operand):KD (.const v::r)=KD r:=rfl
@[go_sem] theorem ZiQ (f:FuncId) (r:List Operand):KD (.func f::r)=KD r:=rfl
@[go_sem] theorem Zgr (g:Nat) (r:List Operand):KD (.global g::r)=KD r:=rfl
@[go_sem] theorem Zlm (p:Prop):(False→p)=True:=eq_true False.elim
@[go_sem] theorem Zma (p:Prop):(True→p)=p:=propext ⟨fun h=>h trivial,fun h _=>h⟩
@[go_sem] theorem ZlP (p:Sort _):(p→True)=True:=eq_true fun _=>trivial
@[go_sem] theorem ite_f (b c:Bool):(if b=true then c else false)=(b&&c):=by cases b<;>rfl
@[go_sem] theorem ite_t (b c:Bool):(if b=true then true else c)=(b||c):=by cases b<;>rfl
@[go_sem] theorem bif_f (b c:Bool):cond b c false=(b&&c):=by cases b<;>rfl
@[go_sem] theorem bif_t (b c:Bool):cond b true c=(b||c):=by cases b<;>rfl
@[go_sem] theorem Zmw (b c:Bool):cond true b c=b:=rfl
@[go_sem] theorem ZmA (b c:Bool):cond false b c=c:=rfl
@[go_sem] theorem Zki (b:Bool):(b == true)=b:=by cases b<;>rfl
@[go_sem] theorem Zjo (b:Bool):(b == false) = !b:=by cases b<;>rfl
attribute [go_sem] List.filterMap_nil List.append_nil List.nil_append List.cons_append Option.toList List.map_cons List.map_nil and_imp not_false_eq_true true_and and_true forall_const imp_self reduceIte List.getElem?_cons_zero List.getElem?_cons_succ Af Bool.true_and Bool.and_true Bool.false_and Bool.and_false Bool.or_true Bool.true_or Bool.or_false Bool.false_or List.toList_toArray List.mem_cons List.not_mem_nil or_false false_or forall_eq forall_eq_or_imp decide_eq_true_eq decide_eq_false_iff_not Bool.not_true Bool.not_false Bool.not_not
@[go_sem] theorem Zmx (b:Bool):((!b)=true)=(b=false):=by cases b<;>simp
@[go_sem] theorem ZmE (b:Bool):((!b)=false)=(b=true):=by cases b<;>simp
@[go_sem] theorem ZmN (b c:Bool):((b&&c)=true)=(b=true∧c=true):=Bool.and_eq_true b c
@[go_sem] theorem Zkb (n:Nat):(no_index (@OfNat.ofNat Int n instOfNat)).toNat = @OfNat.ofNat Nat n (instOfNatNat n):=rfl
@[go_sem] theorem Zlt (i:Decidable True) : @decide True i=true:=by cases i with | isTrue h=>rfl | isFalse h=>exact absurd trivial h
@[go_sem] theorem ZkA (i:Decidable False) : @decide False i=false:=by cases i with | isTrue h=>exact h.elim | isFalse h=>rfl
@[go_sem] theorem Zmz (b:Bool):(b == b)=true:=by cases b<;>rfl
@[go_sem] theorem ZkM (s:St):(s=s)=True:=eq_true rfl
@[go_sem] theorem tt_tt:(true=true)=True:=eq_true rfl
@[go_sem] theorem ff_tt:(false=true)=False:=eq_false (by decide)
@[go_sem] theorem tt_ff:(true=false)=False:=eq_false (by decide)
@[go_sem] theorem ff_ff:(false=false)=True:=eq_true rfl
@[go_sem] theorem Zke (B l:Aq):(B++l).length=B.length+l.length:=List.length_append
@[go_sem] theorem ZkV (B l:Aw):(B++l).length=B.length+l.length:=List.length_append
@[go_sem] theorem ZbP (B:Aq) (R:Aw) (L:Av) (ks:List ByteArray):NJ ⟨B,R,L++[RS ks]⟩ L.length=some ks:=by simp [NJ,RS]
@[go_sem] theorem ZcF (B l:Aq) (R:Aw) (L:Av) (k o:Nat):DW ⟨B++l,R,L⟩ (.box (B.length+k) o)=decide (k<l.length):=by simp [DW]
@[go_sem] theorem ZbM (B l:Aq) (R:Aw) (L:Av) (o:Nat):DW ⟨B++l,R,L⟩ (.box B.length o)=decide (0<l.length):=by simp [DW]
@[go_sem] theorem Zj4 (s:St) (x:AV) (o:Nat):DW s (.elem x o)=A3 x:=by cases x<;>rfl
@[go_sem] theorem ZaH (B l:Aq) (k:Nat):(B++l).getD (B.length+k) []=l.getD k []:=by
 rw [List.getD_eq_getElem?_getD,List.getElem?_append_right (by omega),Nat.add_sub_cancel_left,List.getD_eq_getElem?_getD]
@[go_sem] theorem Xg (B l:Aq):(B++l).getD B.length []=l.getD 0 []:=by
 rw [List.getD_eq_getElem?_getD,List.getElem?_append_right (by omega),Nat.sub_self,List.getD_eq_getElem?_getD]
@[go_sem] theorem Zi3 (B l:Aq) (R:Aw) (L:Av) (k o:Nat):Bi ⟨B++l,R,L⟩ (.box (B.length+k) o)=l.getD k []:=ZaH B l k
@[go_sem] theorem Zhh (B l:Aq) (R:Aw) (L:Av) (o:Nat):Bi ⟨B++l,R,L⟩ (.box B.length o)=l.getD 0 []:=Xg B l
@[go_sem] theorem Zia (s:St) (x:AV) (o:Nat):Bi s (.elem x o)=x.cells:=rfl
@[go_sem] theorem ZhA (B l:Aq) (k:Nat) (x:List AV):(B++l).set (B.length+k) x=B++l.set k x:=by rw [List.set_append_right _ _ (by omega),Nat.add_sub_cancel_left]
@[go_sem] theorem ZdZ (B l:Aq) (x:List AV):(B++l).set B.length x=B++l.set 0 x:=by rw [List.set_append_right _ _ (by omega),Nat.sub_self]
@[go_sem] theorem ZhM (B l:Aw) (k:Nat):(B++l)[B.length+k]? = l[k]? := by rw [List.getElem?_append_right (by omega),Nat.add_sub_cancel_left]
@[go_sem] theorem Zei (B l:Aw):(B++l)[B.length]? = l[0]? := by rw [List.getElem?_append_right (by omega),Nat.sub_self]
@[go_sem] theorem Zlf (B l:Aw) (k:Nat) (x:RowA):(B++l).set (B.length+k) x=B++l.set k x:=by rw [List.set_append_right _ _ (by omega),Nat.add_sub_cancel_left]
@[go_sem] theorem Zkz (B l:Aw) (x:RowA):(B++l).set B.length x=B++l.set 0 x:=by rw [List.set_append_right _ _ (by omega),Nat.sub_self]
attribute [go_sem] List.take_succ_cons List.take_zero List.take_nil List.drop_succ_cons List.drop_zero List.drop_nil Int.toNat_natCast List.append_assoc List.length_cons List.length_nil Nat.zero_add Nat.add_zero List.set_cons_zero List.set_cons_succ List.getD_cons_zero List.getD_cons_succ
@[go_sem] theorem Zjh (x v:AV):CN [x] 0 [v]=[v]:=rfl
@[go_sem] theorem Zgh (l:List AV) (n:Nat) (h:l.length=n):(l.drop 0).take n=l:=by simp [←h]
theorem AL {P:Program} {f:FuncId} {fn:Func} (hf:P.funcs[f]? = some fn) (hb:fn.body.isSome=true) (hn:fn.name ≠ "runtime.NumGoroutine"):KI P f:=by
 obtain ⟨c,a⟩:=Option.isSome_iff_exists.1 hb
 exact Ev.enters_of hf a hn
theorem Lx {P:Program} {w0:World} {f:FuncId} {args:List AV} {st:St} {r:Value} (hen:KI P f) (hr:GN r=true)
  (h:∀ (M:Mem) (w:World) (vals:Array Value),Below w0.heap.size w0 w→RowR w0 M w vals args→Calls P f vals w fun en w'=>en = .returned r∧Below w.heap.size w w'):ACalls P w0 f args st fun v s=>v = .val r∧s=st :=
 ⟨hen,fun M w vals a b=>(h M w vals a.below b).mono fun en w' ⟨c,e⟩=>by
  obtain ⟨g,d⟩:=a.later e w.heap.size 0 (Nat.le_refl _) (.inr rfl)
  exact ⟨r,_,_,st,c,⟨rfl,rfl⟩,d,g,.flat hr⟩⟩
theorem SG {P:Program} {w0:World} {f:FuncId} {args:List AV} {st:St} {rs:List Value} (hen:KI P f) (hr:∀ r∈rs,GN r=true)
  (h:∀ (M:Mem) (w:World) (vals:Array Value),Below w0.heap.size w0 w→RowR w0 M w vals args→Calls P f vals w fun en w'=>en = .returned (.tuple rs.toArray)∧Below w.heap.size w w'):ACalls P w0 f args st fun v s=>v = .tup (rs.map .val)∧s=st :=
 ⟨hen,fun M w vals c d=>(h M w vals c.below d).mono fun en w' ⟨e,j⟩=>by
  obtain ⟨k,g⟩:=c.later j w.heap.size 0 (Nat.le_refl _) (.inr rfl)
  exact ⟨.tuple rs.toArray,_,_,st,e,⟨rfl,rfl⟩,g,k,.tup (by simp) fun i a b=>by simp only [List.getElem_toArray,List.getElem_map];exact .flat (hr _ (List.getElem_mem _))⟩⟩
theorem Np {w0:World} {M:Mem} {w:World} {vals:Array Value} {us:List Value} (h:RowR w0 M w vals (us.map .val)):vals=us.toArray:=by
 apply Array.ext
 ·simpa using h.1
 ·intro i b c
  have a:i<us.length:=by simpa using c
  have:=h.2 i b (by simpa using a)
  simp only [List.getElem_map] at this
  simp only [List.getElem_toArray]
  exact this.val_inv.1
@[go_sem] theorem WE (P:Program) (st:St) (t:TypeId) (xs:List AV) (x:AV):BP P st t (.list xs .full) x=match Mc P t with
  | some (el,sz,_,by8)=>if (A0 x).length=0 then (BD x=true∧0<sz,.list xs .full,st)
   else (BD x=true∧C5 P el sz by8 xs.length (A0 x)∧(∀ y∈xs,y.cells.length=sz),.list (xs++(A0 x).map AV.pub) (.row st.rows.length),{ st with rows:=st.rows++[.grow (xs.length+(A0 x).length) sz] })
  | none=>(False,.junk,st):=rfl
@[go_sem] theorem YS (P:Program) (st:St) (t:TypeId) (xs:List AV) (id:Nat) (x:AV):BP P st t (.list xs (.row id)) x=match Mc P t with
  | some (el,sz,_,by8)=>(BD x=true∧C5 P el sz by8 xs.length (A0 x)∧(∀ y∈xs,y.cells.length=sz)∧st.rows[id]? = some (.grow xs.length sz),.list (xs++(A0 x).map AV.pub) (.row id),{ st with rows:=st.rows.set id (.grow (xs.length+(A0 x).length) sz) })
  | none=>(False,.junk,st):=rfl
@[go_sem] theorem ZgQ (P:Program) (st:St) (t:TypeId) (ys:List AV) (x:AV):BP P st t (.list ys .seed) x=match Mc P t with
  | some (el,sz,_,by8)=>if (A0 x).length=0 then (BD x=true∧0<sz,.list ys .seed,st)
   else (BD x=true∧C5 P el sz by8 0 (A0 x)∧ys.length=0∧0<(A0 x).length,.vec st.rows.length 0 0 (A0 x).length,{ st with rows:=st.rows++[.vec 0 sz ((A0 x).flatMap fun y=>y.pub.cells)] })
  | none=>(False,.junk,st):=rfl
@[go_sem] theorem ZhG (P:Program) (st:St) (t:TypeId) (id ver o n:Nat) (x:AV):BP P st t (.vec id ver o n) x=match Mc P t with
  | some (el,sz,_,by8)=>match C4 st.rows id ver with
   | some (sz',cs)=>(BD x=true∧C5 P el sz by8 n (A0 x)∧sz'=sz∧o=0∧n*sz≤cs.length,.vec id (ver+1) 0 (n+(A0 x).length),{ st with rows:=st.rows.set id (.vec (ver+1) sz (cs.take (n*sz)++(A0 x).flatMap fun y=>y.pub.cells)) })
   | none=>(False,.junk,st)
  | none=>(False,.junk,st):=rfl
attribute [go_sem] C5
@[go_sem] theorem Zk0 (B l:Aw) (k ver:Nat):C4 (B++l) (B.length+k) ver=C4 l k ver:=by simp [C4,ZhM]
@[go_sem] theorem Zkf (B l:Aw) (ver:Nat):C4 (B++l) B.length ver=C4 l 0 ver:=by simp [C4,Zei]
@[go_sem] theorem ZkI (ver sz:Nat) (cs:List AV) (l:Aw):C4 (.vec ver sz cs::l) 0 ver=some (sz,cs):=by simp [C4]
@[go_sem] theorem ZkJ (r:RowA) (l:Aw) (k ver:Nat):C4 (r::l) (k+1) ver=C4 l k ver:=by simp [C4]
@[go_sem] theorem Zkd (s:St) (id ver o:Nat):DW s (.vel id ver o)=(C4 s.rows id ver).isSome:=rfl
@[go_sem] theorem Zit (s:St) (id ver o:Nat):Bi s (.vel id ver o)=match C4 s.rows id ver with | some (_,cs)=>cs | none=>[]:=rfl
@[go_sem] theorem ZgD (st:St) (id ver o:Nat) (xs:List AV):We st (.vel id ver o) xs=match C4 st.rows id ver with
  | some (sz,cs)=>{ st with rows:=st.rows.set id (.vec ver sz (CN cs o xs)) }
  | none=>st:=rfl
def Grow (Rw:Aw) (sz:Nat) (xs:List AV) (o:Own) (r:Aw):Prop:=(xs=[]∧o = .full∧r=[])∨(o = .row Rw.length∧r=[.grow xs.length sz])
theorem Grow.nil (Rw:Aw) (sz:Nat):Grow Rw sz [] .full [] := .inl ⟨rfl,rfl,rfl⟩
theorem Grow.more (Rw:Aw) (sz:Nat) (xs:List AV) (n:Nat) (h:xs.length=n):Grow Rw sz xs (.row Rw.length) [.grow n sz] := .inr ⟨rfl,by rw [h]⟩
theorem Grow.len {Rw r:List RowA} {sz:Nat} {xs:List AV} {o:Own} (h:Grow Rw sz xs o r):r.length≤1:=by
 rcases h with ⟨_,_,rfl⟩ | ⟨_,rfl⟩<;>simp
theorem WI {P:Program} {t el:TypeId} {sz by8:Nat} {ag:Bool} {Rw r:List RowA} {xs:List AV} {o:Own} (he:Mc P t=some (el,sz,ag,by8)) (hz:(Br P el).isSome=true) (hs:0<sz) (h:Grow Rw sz xs o r) (B:Aq) (L:Av) (y:AV) (o2:Own) :
  BP P ⟨B,Rw++r,L⟩ t (.list xs o) (.list [y] o2)=(((xs.length+1)*by8≤140737488355328∧xs.length+1≤4611686018427387904∧(∀ y∈xs,y.cells.length=sz)∧y.cells.length=sz∧A3 y=true),.list (xs++[y.pub]) (.row Rw.length),⟨B,Rw++[.grow (xs.length+1) sz],L⟩):=by
 rcases h with ⟨rfl,rfl,rfl⟩ | ⟨rfl,rfl⟩
 ·rw [WE,he];simp [A0,BD,C5,hz,hs]
 ·rw [YS,he];simp [A0,BD,C5,hz,hs]
  exact ⟨fun ⟨⟨a,b,c,d⟩,e⟩=>⟨a,b,e,c,d⟩,fun ⟨a,b,e,c,d⟩=>⟨⟨a,b,c,d⟩,e⟩⟩
def Zci (c:Option IntKind × Bool) (x y:AV):Prop :=
 match x,y with
 | .val (.int k _),.val (.int k' _)=>c.1.isSome=true∧k=k'
 | .val (.string _),.val (.string _)=>c=(none,true)
 | .val (.bool _),.val (.bool _)=>c=(none,false)
 | _,_=>False
def Zfq (P:Program) (t:TypeId):Option (Option IntKind × Bool) :=
 match OG P t with
 | some k=>some (some k,false)
 | none=>if EK P t=true then some (none,true) else if Nn P t=true then some (none,false) else none
def Ul (P:Program):List Field→Nat→Option (List (Option IntKind × Bool))
 | [],_=>some []
 | f::fs,i=>if f.name ≠ "_" ∧ f.offset=i∧HY P f.type=some (1,false) then
   match Zfq P f.type,Ul P fs (i+1) with
   | some k,some ks=>some (k::ks)
   | _,_=>none
  else none
def Ym (P:Program) (t:TypeId):Option (List (Option IntKind × Bool)) :=
 match eqT P t with
 | some fs=>Ul P fs 0
 | none=>none
def obK:List (Option IntKind × Bool)→List AV→List AV→Prop
 | [],[],[]=>True
 | k::ks,x::xs,y::ys=>Zci k x y∧obK ks xs ys
 | _,_,_=>False
theorem Zdu {P:Program} {t:TypeId} {k:Option IntKind × Bool} (h:Zfq P t=some k) (x y:AV):L6 P t x y=Zci k x y:=by
 have c:∀ j,OG P t=some j→EK P t=false∧Nn P t=false:=fun j hj=>by
  unfold OG at hj
  unfold EK Nn
  split at hj
  ·rename_i q;rw [q];exact ⟨rfl,rfl⟩
  ·cases hj
 have b:EK P t=true→Nn P t=false:=fun hj=>by
  unfold EK at hj
  unfold Nn
  split at hj
  ·rename_i q;rw [q]
  ·cases hj
 unfold Zfq at h
 unfold L6 Zci
 cases hi:OG P t with
 | some j =>
  obtain ⟨q1,q2⟩:=c j hi
  rw [hi] at h
  cases h
  rw [q1,q2]
  split<;>simp
 | none =>
  rw [hi] at h
  simp only at h
  by_cases hs:EK P t=true
  ·rw [Ai hs] at h
   cases h
   rw [hs,b hs]
   split<;>simp
  ·rw [Aj hs] at h
   have a:EK P t=false:=by simpa using hs
   by_cases hb:Nn P t=true
   ·rw [Ai hb] at h
    cases h
    rw [a,hb]
    split<;>simp
   ·rw [Aj hb] at h;cases h
theorem XW {P:Program}:∀ (fs:List Field) (i:Nat) (ks:List (Option IntKind × Bool)),Ul P fs i=some ks→∀ xs ys,XY P fs i xs ys=obK ks xs ys
 | [],i,ks,h,xs,ys=>by
  cases h
  cases xs<;>cases ys<;>simp [XY,obK]
 | f::fs,i,ks,h,xs,ys=>by
  unfold Ul at h
  split at h
  ·rename_i q
   split at h
   ·rename_i k ks' h1 h2
    cases h
    cases xs with
    | nil=>cases ys<;>simp [XY,obK]
    | cons x xs=>cases ys with
     | nil=>simp [XY,obK]
     | cons y ys =>
      simp only [XY,obK,XW fs (i+1) ks' h2 xs ys,Zdu h1,q,true_and]
      simp [q.1]
   ·cases h
  ·cases h
theorem Xb {P:Program} {t:TypeId} {ks:List (Option IntKind × Bool)} (h:Ym P t=some ks) (xs ys:List AV):Oq P .eql t xs ys=(obK ks xs ys,Oo xs ys):=by
 unfold Ym at h
 split at h
 ·rename_i fs q
  simp only [Oq,q,XW fs 0 ks h]
 ·cases h
theorem ZcZ {P:Program} {t:TypeId} {ks:List (Option IntKind × Bool)} (h:Ym P t=some ks) (xs ys:List AV):Oq P .neq t xs ys=(obK ks xs ys,!Oo xs ys):=by
 unfold Ym at h
 split at h
 ·rename_i fs q
  simp only [Oq,q,XW fs 0 ks h]
 ·cases h
attribute [go_sem] Zci obK
section
variable {P:Program} {w0:World} {n:Nat} {M:Mem} {e:Env} {st:St} {a:Act} {w:World}
theorem R.seed {v:Value} (h:R w0 M w v (.list [] .full)):R w0 M w v (.list [] .seed):=by
 cases h with
 | nil ho=>exact .nil (fun id=>by simp)
 | emp ho=>exact .emp (fun id=>by simp)
 | list sz us hc hm hcell hu ho=>exact .list (xs:=[]) sz us hc hm hcell hu ho
theorem I8 {M0:Mem} {W0:World} {ro:Option Nat} {Q:AQ} {c:Code} (e':Env) (st':St)
  (hc:∀ M a w,Rel w0 n M e st a w→∃ M',Ext w0 M w M' w∧Rel w0 n M' e' st' a w) (h:Eb P w0 n M0 W0 ro c Q e' st'):Eb P w0 n M0 W0 ro c Q e st:=by
 intro m M a w b
 obtain ⟨M',d,f⟩:=hc M a w b.rel
 exact h m M' a w ⟨f,b.ext.trans d,b.marks.later d b.rel.st⟩
theorem Rel.relabel (h:Rel w0 n M e st a w) (k:Nat) (x:AV) (hx:R w0 M w (a.tmps.getD k undef) x):Rel w0 n M ((k,true,x)::e) st a w :=
 ⟨h.st,h.size,fun s y hs=>by
  simp only [look] at hs
  by_cases q:k=s
  ·subst q
   rw [Ai rfl] at hs
   cases hs
   exact hx
  ·rw [Aj q] at hs
   exact h.env s y hs⟩
theorem Vo {M0:Mem} {W0:World} {ro:Option Nat} {Q:AQ} {c:Code} (k:Nat) (hk:look e k=some (true,.list [] .full)) (h:Eb P w0 n M0 W0 ro c Q ((k,true,.list [] .seed)::e) st):Eb P w0 n M0 W0 ro c Q e st :=
 I8 _ _ (fun M a w b=>⟨M,.refl _ _ _,b.relabel k _ (by
  have:=b.env k _ hk
  simp only [entryOk,if_true] at this
  exact this.seed)⟩) h
theorem RelSt.setBox (h:RelSt w0 M st w) {l i:Nat} {cs:List AV} (hl:st.boxes[l]? = some cs) {x y:AV} (hi:cs[i]? = some x) (hone:y.one=true) (hR:∀ v,R w0 M w v x→R w0 M w v y) :
  RelSt w0 M { st with boxes:=st.boxes.set l (cs.set i y) } w:=by
 have d:l<st.boxes.length:=(Ak.1 hl).1
 have g:i<cs.length:=(Ak.1 hi).1
 refine ⟨h.below,by simp [h.N],h.NR,h.top,h.inj,fun a cs' hl'=>?_,h.row,h.rowinj,h.loop⟩
 by_cases q:a=l
 ·subst q
  rw [List.getElem?_set_self d] at hl'
  cases hl'
  obtain ⟨a1,a2,c,k,a3,a4,a5,a6⟩:=h.box a cs hl
  refine ⟨a1,a2,c,k,a3,by simp [a4],fun z b=>?_,fun j f m=>?_⟩
  ·rcases List.mem_or_eq_of_mem_set b with b | rfl
   ·exact a5 z b
   ·exact hone
  ·by_cases e:j=i
   ·subst e
    rw [List.getElem_set_self]
    obtain ⟨q1,q2⟩:=Ak.1 hi
    exact hR _ (q2▸a6 j f q1)
   ·rw [List.getElem_set_ne (Ne.symm e)]
    exact a6 j f (by simpa using m)
 ·rw [List.getElem?_set_ne (Ne.symm q)] at hl'
  exact h.box a cs' hl'
theorem Q0 {M0:Mem} {W0:World} {ro:Option Nat} {Q:AQ} {c:Code} (l i:Nat) {cs:List AV} (hl:st.boxes[l]? = some cs) (hi:cs[i]? = some (.list [] .full)) (h:Eb P w0 n M0 W0 ro c Q e { st with boxes:=st.boxes.set l (cs.set i (.list [] .seed)) }):Eb P w0 n M0 W0 ro c Q e st :=
 I8 _ _ (fun M a w b=>⟨M,.refl _ _ _,b.st.setBox hl hi rfl (fun v hv=>hv.seed),b.size,b.env⟩) h
def OA (sz:Nat) (ag:Bool) (cs:List AV) (o m:Nat):List AV:=(List.range m).map fun i=>P1 ag cs ((o+i)*sz) sz
theorem Zz (sz:Nat) (ag:Bool) (cs:List AV) (o m:Nat):(OA sz ag cs o m).length=m:=by simp [OA]
def Mem.freeze (M:Mem) (id k:Nat):Mem:={ M with fr:=fun i=>if i=id then M.fr i+1 else M.fr i,top:=fun b=>if b=M.blk id then k else M.top b }
theorem RelSt.freeze (h:RelSt w0 M st w) {id ver sz:Nat} {cs:List AV} (hid:st.rows[id]? = some (.vec ver sz cs)) :
  Ext w0 M w (M.freeze id cs.length) w∧RelSt w0 (M.freeze id cs.length) { st with rows:=st.rows.set id (.dead (ver+1)) } w:=by
 have a:id<st.rows.length:=(Ak.1 hid).1
 have d:id<M.NR:=by rw [h.NR];exact a
 obtain ⟨y,O,z,f4,s,J,K,c,r,p,Q,G,D,C⟩:=h.row id _ hid
 have f:Ext w0 M w (M.freeze id cs.length) w :=
  ⟨Nat.le_refl _,fun _ _=>rfl,Nat.le_refl _,fun i hi=>by
   simp only [Mem.freeze]
   by_cases q:i=id
   ·rw [Ai q];exact ⟨Nat.le_succ _,fun e=>absurd e (by omega)⟩
   ·rw [Aj q];exact ⟨Nat.le_refl _,fun _=>⟨trivial,trivial,trivial⟩⟩,fun b H v hi u=>⟨u,hi.imp (fun q=>q) fun q=>by
    simp only [Mem.freeze]
    split
    ·rename_i e;rw [e,f4] at q;omega
    ·exact q⟩,Nat.le_refl _,Nat.le_refl _,fun _ _=>rfl,fun _ k g=>absurd g (Nat.not_lt.2 k),fun _ _ h _ _=>h⟩
 refine ⟨f,h.below,h.N,by simp [Mem.freeze,h.NR],fun b E=>?_,h.inj,fun l cs' t=>?_,fun i x hi=>?_,h.rowinj,h.loop.mono f rfl (KeepsObj.refl _)⟩
 ·have F:=(Array.getElem?_eq_some_iff.1 p).1
  simp only [Mem.freeze]
  rw [Aa]
  exact h.top b E
 ·obtain ⟨a1,a2,c,r,a3,a4,a5,a6⟩:=h.box l cs' t
  have j:l<M.N:=by rw [h.N];exact (Ak.1 t).1
  refine ⟨a1,?_,c,r,a3,a4,a5,fun i k g=>(a6 i k g).mono f⟩
  show (M.freeze id cs.length).top (M.bx l)=0
  simp only [Mem.freeze]
  rw [Aj (s l j)]
  exact a2
 ·by_cases q:i=id
  ·subst q
   rw [List.getElem?_set_self a] at hi
   cases hi
   exact ⟨by simp [Mem.freeze,y],z,s,(Array.getElem?_eq_some_iff.1 p).1⟩
  ·rw [List.getElem?_set_ne (Ne.symm q)] at hi
   have m:i<M.NR:=by rw [h.NR];exact (Ak.1 hi).1
   have o:=h.row i x hi
   have n:M.blk i≠M.blk id:=fun e=>q (h.rowinj i id m d e)
   exact o.keep f (by simp [Mem.freeze,q]) rfl rfl rfl (by simp [Mem.freeze,n]) o.ne rfl
theorem R.freeze (h:RelSt w0 M st w) {id ver sz:Nat} {cs:List AV} (hid:st.rows[id]? = some (.vec ver sz cs)) {ag:Bool} (hag:ag=true∨sz=1) {o m:Nat} (hb:(o+m)*sz≤cs.length) {v:Value} (hv:R w0 M w v (.vec id ver o m)) :
  R w0 (M.freeze id cs.length) w v (.list (OA sz ag cs o m) .none):=by
 obtain ⟨E,_⟩:=h.freeze hid
 obtain ⟨D,H,O,V,Q,N,U,c,F,C,Y,K,r,n⟩:=h.row id _ hid
 cases hv with
 | @vec _ _ _ _ p cap d hver hh =>
 obtain ⟨rfl,z,J⟩:=hh D.symm
 have s:(OA sz ag cs o m).length=m:=Zz _ _ _ _ _
 have k:∀ i,i<m→(o+i)*sz+sz≤cs.length:=fun i d=>by
  have:(o+i+1)*sz≤(o+m)*sz:=Nat.mul_le_mul_right _ (by omega)
  rw [Nat.succ_mul] at this
  omega
 let us:Nat→Value:=fun i=>if ag then .agg ((List.range sz).map fun j=>c.getD ((o+i)*sz+j) undef).toArray else c.getD ((o+i)*sz) undef
 have t:∀ i,i<m→R w0 M w (us i) (P1 ag cs ((o+i)*sz) sz):=fun i d=>by
  refine Q9 (f:=fun j=>c.getD ((o+i)*sz+j) undef) r (k i d) hag (fun j l=>?_)
  have a:(o+i)*sz+j<c.size:=by omega
  rw [Array.getD_eq_getD_getElem?,Array.getElem?_eq_getElem a]
  exact n _ a l
 have g:∀ i,i<m→(us i).cells.size=sz∧∀ j,j<sz→(us i).cells[j]? = c[(o+i)*sz+j]? := fun i d=>by
  by_cases q:ag=true
  ·have e:us i = .agg ((List.range sz).map fun j=>c.getD ((o+i)*sz+j) undef).toArray:=by simp [us,q]
   rw [e]
   refine ⟨by simp [Value.cells],fun j l=>?_⟩
   have a:(o+i)*sz+j<c.size:=by have:=k i d;omega
   simp [Value.cells,l,Array.getElem?_eq_getElem a]
  ·have u:sz=1:=hag.resolve_left q
   have e:us i=c.getD ((o+i)*sz) undef:=by simp [us,q]
   have a:(o+i)*sz<c.size:=by have:=k i d;omega
   have y:(o+i)*sz<cs.length:=by have:=k i d;omega
   have x:=(n _ a y).cells_one (r _ (List.getElem_mem _))
   rw [e,Array.getD_eq_getD_getElem?,Array.getElem?_eq_getElem a,Option.getD_some,x.1]
   refine ⟨by simp [u],fun j l=>?_⟩
   obtain rfl:j=0:=by omega
   simp [Array.getElem?_eq_getElem a]
 have:=R.list (w0:=w0) (M:=M.freeze id cs.length) (w:=w) (b:=M.blk id) (off:=o*sz) (cap:=cap) (xs:=OA sz ag cs o m) (o := .none) sz us (by rw [s];exact J) (by omega)
  (fun i d=>by
   rw [s] at d
   refine ⟨(g i d).1,fun j l=>⟨.inr ?_,?_⟩⟩
   ·have G:=k i d
    rw [Nat.add_mul] at G
    simp only [Mem.freeze,if_true]
    omega
   ·rw [(g i d).2 j l,Nat.add_mul,cell_of_row w _ _ c F _ C]) (fun i d=>by
   rw [s] at d
   simp only [OA,List.getElem_map,List.getElem_range]
   exact (t i d).mono E) trivial
 rw [s] at this
 rw [H]
 exact this
theorem ZaW {M0:Mem} {W0:World} {ro:Option Nat} {Q:AQ} {c:Code} (k:Nat) {id ver sz o m:Nat} {cs:List AV} (ag:Bool) (hk:look e k=some (true,.vec id ver o m)) (hid:C4 st.rows id ver=some (sz,cs)) (hag:ag=true∨sz=1) (hb:(o+m)*sz≤cs.length)
  (h:Eb P w0 n M0 W0 ro c Q ((k,true,.list (OA sz ag cs o m) .none)::e) { st with rows:=st.rows.set id (.dead (ver+1)) }):Eb P w0 n M0 W0 ro c Q e st :=
 I8 _ _ (fun M a w b=>by
  obtain ⟨d,f⟩:=b.st.freeze (DO hid)
  refine ⟨_,d,Rel.relabel ⟨f,b.size,fun s x hs=>(b.env s x hs).mono d⟩ k _ ?_⟩
  have:=b.env k _ hk
  simp only [entryOk,if_true] at this
  exact R.freeze b.st (DO hid) hag hb this) h
theorem OK {M0:Mem} {W0:World} {ro:Option Nat} {Q:AQ} {c:Code} (l i:Nat) {id ver sz o m:Nat} {bs cs:List AV} (ag:Bool) (hl:st.boxes[l]? = some bs) (hi:bs[i]? = some (.vec id ver o m)) (hid:C4 st.rows id ver=some (sz,cs)) (hag:ag=true∨sz=1) (hb:(o+m)*sz≤cs.length)
  (h:Eb P w0 n M0 W0 ro c Q e { st with boxes:=st.boxes.set l (bs.set i (.list (OA sz ag cs o m) .none)),rows:=st.rows.set id (.dead (ver+1)) }):Eb P w0 n M0 W0 ro c Q e st :=
 I8 _ _ (fun M a w d=>by
  obtain ⟨t,b⟩:=d.st.freeze (DO hid)
  have f:=d.st.box l bs hl
  obtain ⟨a1,a2,c,K,a3,a4,a5,a6⟩:=f
  obtain ⟨q1,q2⟩:=Ak.1 hi
  have y:R w0 (M.freeze id cs.length) w (c[i]'(by omega)) (.list (OA sz ag cs o m) .none):=R.freeze d.st (DO hid) hag hb (q2▸a6 i (by omega) q1)
  have r:l<st.boxes.length:=(Ak.1 hl).1
  refine ⟨_,t,⟨b.below,by simpa using b.N,b.NR,b.top,b.inj,fun g cs' hl'=>?_,b.row,b.rowinj,b.loop⟩,d.size,fun s x hs=>(d.env s x hs).mono t⟩
  by_cases q:g=l
  ·subst q
   simp only [List.getElem?_set_self r,Option.some.injEq] at hl'
   subst hl'
   obtain ⟨H,C,v,p,u,G,E,D⟩:=b.box g bs hl
   have ec:v=c:=by
    have:=u.symm.trans a3
    simp only [Option.some.injEq,Obj.cells.injEq] at this
    exact this.1
   subst ec
   refine ⟨H,C,v,p,u,by simp [G],fun z k=>?_,fun j J F=>?_⟩
   ·rcases List.mem_or_eq_of_mem_set k with k | rfl
    ·exact E z k
    ·rfl
   ·by_cases e:j=i
    ·subst e
     rw [List.getElem_set_self]
     exact y
    ·rw [List.getElem_set_ne (Ne.symm e)]
     exact D j J (by simpa using F)
  ·simp only [List.getElem?_set_ne (Ne.symm q)] at hl'
   exact b.box g cs' hl') h
end
end Go.Ev
