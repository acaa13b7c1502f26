/-
  Part 2 of the proof: rules and walks that the claim's last text uses.
-/
import Derived.Attr
import Derived.Laws.BytesArg
import Derived.Laws.IdiomStrings
import Derived.Laws.MakeOwn
import Derived.Laws.Runes
import Derived.Lib.ConvBytes
import Derived.OrdersIn
import Derived.RangeFuncIn
import Derived.StillTail
import Derived.Test.YtcdnijfbfdnjlaaGreatDoorKi1
set_option linter.unusedSimpArgs false
set_option linter.unusedVariables false
set_option maxRecDepth 100000
set_option maxHeartbeats 4000000
namespace Go.Ev
open Go Go.RowKit
section
variable {P:Program} {w0:World} {n:Nat} {M:Mem} {e:Env} {st:St} {a:Act} {w:World}
def flat (us:Nat→Value) (m:Nat):List Value:=(List.range m).flatMap fun i=>(us i).cells.toList
theorem SV (us:Nat→Value) (m:Nat):flat us (m+1)=flat us m++(us m).cells.toList:=by
 simp [flat,List.range_succ]
theorem AM {us:Nat→Value} {sz:Nat}:∀ {m:Nat},(∀ i,i<m→(us i).cells.size=sz)→(flat us m).length=m*sz
 | 0,_=>by simp [flat]
 | m+1,h=>by
  rw [SV,List.length_append,AM (fun i a=>h i (by omega)),Array.length_toList,h m (by omega),Nat.succ_mul]
theorem Hl {us:Nat→Value} {sz:Nat}:∀ {m:Nat},(∀ i,i<m→(us i).cells.size=sz)→∀ i,i<m→∀ j,j<sz→(flat us m)[i*sz+j]? = (us i).cells[j]?
 | 0,_,i,a,_,_=>absurd a (by omega)
 | m+1,h,i,a,j,hj=>by
  have d:=AM (us:=us) (m:=m) (fun i a=>h i (by omega))
  rw [SV,List.getElem?_append,d]
  by_cases c:i=m
  ·subst c
   rw [Aa,show i*sz+j-i*sz=j from by omega,Array.getElem?_toList]
  ·have b:(i+1)*sz≤m*sz:=Nat.mul_le_mul_right _ (by omega)
   rw [Nat.succ_mul] at b
   rw [Ab]
   exact Hl (fun i a=>h i (by omega)) i (by omega) j hj
theorem EV {us:Nat→Value} {sz m:Nat} (hs:∀ i,i<m→(us i).cells.size=sz) {b off:Nat} (hsz:0<sz) (hc:∀ i,i<m→∀ j,j<sz→w.cell? ⟨b,off+i*sz+j,none⟩=(us i).cells[j]?) :
  ∀ j u,(flat us m)[j]? = some u→w.cell? ((⟨b,off,none⟩:Addr).add j)=some u:=by
 intro j u h
 have l:=AM hs
 have k:j<m*sz:=by rw [←l];exact (Aj.1 h).1
 have e:=Nat.div_add_mod j sz
 have d:j / sz<m:=(Nat.div_lt_iff_lt_mul hsz).2 k
 have a:=Nat.mod_lt j hsz
 have c:=Hl hs (j / sz) d (j % sz) a
 have g:=hc (j / sz) d (j % sz) a
 have f:j / sz*sz+j % sz=j:=by rw [Nat.mul_comm];exact e
 rw [f] at c
 rw [Nat.add_assoc,f] at g
 rw [DU,g,←c,h]
theorem R.list_open {v:Value} {xs:List AV} {o:Own} {sz:Nat} (h:R w0 M w v (.list xs o)) (hs:∀ y∈xs,y.cells.length=sz) :
  ∃ us:Nat→Value,(∀ i (hi:i<xs.length),(us i).cells.size=sz∧R w0 M w (us i) xs[i]) ∧
   (((v = .slice none 0 0∨∃ ad,v = .slice (some ad) 0 0)∧xs=[]∧∀ id,o ≠ .row id)∨∃ b off cap sz',v = .slice (some ⟨b,off,none⟩) xs.length cap∧xs.length≤cap∧cap≤maxLen∧Zi M b off cap xs.length sz' o ∧
    ∀ i,i<xs.length→∀ j,j<sz→w.cell? ⟨b,off+i*sz+j,none⟩=(us i).cells[j]?):=by
 cases h with
 | nil ho=>exact ⟨fun _=>undef,fun i hi=>absurd hi (by simp),.inl ⟨.inl rfl,rfl,ho⟩⟩
 | emp ho=>exact ⟨fun _=>undef,fun i hi=>absurd hi (by simp),.inl ⟨.inr ⟨_,rfl⟩,rfl,ho⟩⟩
 | @list b off cap _ _ sz' us hc hm hcell hu ho =>
  have a:∀ i (hi:i<xs.length),(us i).cells.size=sz:=fun i hi=>by rw [(hu i hi).cells.1];exact hs _ (List.getElem_mem _)
  refine ⟨us,fun i hi=>⟨a i hi,hu i hi⟩,.inr ⟨b,off,cap,sz',rfl,hc,hm,ho,fun i hi j c=>?_⟩⟩
  have e:sz'=sz:=by rw [←(hcell i hi).1,a i hi]
  subst e
  exact ((hcell i hi).2 j c).2
theorem Vi {us:Nat→Value} {xs:List AV} {sz:Nat} (hu:∀ i (hi:i<xs.length),(us i).cells.size=sz∧R w0 M w (us i) xs[i]) (hn:∀ y∈xs,AA y=true):∀ u∈flat us xs.length,u.oneCell'=true:=by
 intro u g
 obtain ⟨i,hi,b⟩:=List.mem_flatMap.1 g
 have c:i<xs.length:=List.mem_range.1 hi
 obtain ⟨hs,f⟩:=hu i c
 obtain ⟨k,d,rfl⟩:=List.getElem_of_mem b
 simp only [Array.length_toList] at d
 rw [Array.getElem_toList]
 have a:=f.cellsOne (fun vs e=>by have:=hn _ (List.getElem_mem c);rw [e] at this;cases this)
 exact (f.cells.2 k d (by rw [←f.cells.1];exact d)).oneCell (a _ (List.getElem_mem _))
def Mem.addRow (M:Mem) (b cap k sz tp:Nat):Mem :=
  { M with NR:=M.NR+1,fr:=fun i=>if i=M.NR then k else M.fr i,blk:=fun i=>if i=M.NR then b else M.blk i,cap:=fun i=>if i=M.NR then cap else M.cap i,
           rsz:=fun i=>if i=M.NR then sz else M.rsz i,top:=fun x=>if x=b then tp else M.top x }
def Mem.growRow (M:Mem) (id b cap k tp:Nat):Mem :=
 { M with fr:=fun i=>if i=id then k else M.fr i,blk:=fun i=>if i=id then b else M.blk i,cap:=fun i=>if i=id then cap else M.cap i,top:=fun x=>if x=b then tp else M.top x }
theorem J5 {id cap k tp b:Nat} (hid:id<M.NR) (h:M.foreign b):(M.growRow id (M.blk id) cap k tp).foreign b∧(M.growRow id (M.blk id) cap k tp).top b=M.top b:=by
 refine ⟨⟨h.1,fun i a=>?_,h.2.2⟩,?_⟩
 ·simp only [Mem.growRow]
  split
  ·exact h.2.1 id hid
  ·exact h.2.1 i a
 ·simp only [Mem.growRow]
  rw [Ai (fun e=>h.2.1 id hid e.symm)]
theorem ML {id g cap k tp b:Nat} (hb:b<g) (h:M.foreign b):(M.growRow id g cap k tp).foreign b:=by
 refine ⟨h.1,fun i a=>?_,h.2.2⟩
 simp only [Mem.growRow]
 split
 ·omega
 ·exact h.2.1 i a
theorem RelSt.addRow' (h:RelSt w0 M st w) {cs:Array Value} {ty:TypeId} {cap k sz tp:Nat} {x:RowA}
  (hnew:Ext w0 M w (M.addRow w.heap.size cap k sz tp) (w.alloc (.cells cs ty))→(∀ l,l<M.N→M.bx l≠w.heap.size)→RowOk w0 (M.addRow w.heap.size cap k sz tp) (w.alloc (.cells cs ty)) M.NR x) :
  RelSt w0 (M.addRow w.heap.size cap k sz tp) { st with rows:=st.rows++[x] } (w.alloc (.cells cs ty))∧Ext w0 M w (M.addRow w.heap.size cap k sz tp) (w.alloc (.cells cs ty)):=by
 have f:∀ b,b<w.heap.size→(M.addRow w.heap.size cap k sz tp).top b=M.top b:=fun b t=>by simp [Mem.addRow];omega
 have a:∀ i,i<M.NR→(M.addRow w.heap.size cap k sz tp).fr i=M.fr i∧(M.addRow w.heap.size cap k sz tp).blk i=M.blk i∧(M.addRow w.heap.size cap k sz tp).cap i=M.cap i∧(M.addRow w.heap.size cap k sz tp).rsz i=M.rsz i:=by
  intro i g
  have:¬ i=M.NR:=by omega
  simp [Mem.addRow,this]
 have n:Ext w0 M w (M.addRow w.heap.size cap k sz tp) (w.alloc (.cells cs ty)) :=
  N9 _ _ (.inl rfl) (fun _ _=>rfl) (Nat.le_succ _) (fun i g=>by obtain ⟨a1,a2,a3,a4⟩:=a i g;exact ⟨by omega,fun _=>⟨a2,a3,a4⟩⟩) f (fun b t q=>⟨q.1,fun i g=>by
   by_cases c:i=M.NR
   ·subst c;simp only [Mem.addRow,if_true];omega
   ·have m:i<M.NR:=by simp only [Mem.addRow] at g;omega
    rw [(a i m).2.1];exact q.2.1 i m,q.2.2⟩)
 have s:∀ l,l<M.N→M.bx l≠w.heap.size:=fun l v=>by have:=h.box_lt v;omega
 refine ⟨⟨h.below.alloc h.base_le _,h.N,by simp [Mem.addRow,h.NR],fun b t=>?_,h.inj,fun l c v=>?_,fun id y hid=>?_,fun i j g J d=>?_,h.loop.mono n rfl (KeepsObj.alloc _ _)⟩,n⟩
 ·simp at t
  have:(M.addRow w.heap.size cap k sz tp).top b=M.top b:=by simp [Mem.addRow];omega
  rw [this]
  exact h.top b (by omega)
 ·obtain ⟨a1,a2,F,u,a3,a4,a5,a6⟩:=h.box l c v
  have o:=(Array.getElem?_eq_some_iff.1 a3).1
  exact ⟨a1,by rw [show (M.addRow w.heap.size cap k sz tp).bx l=M.bx l from rfl,f _ o];exact a2,F,u,by rw [show (M.addRow w.heap.size cap k sz tp).bx l=M.bx l from rfl,AW _ _ o];exact a3,a4,a5,fun i G E=>(a6 i G E).mono n⟩
 ·by_cases e1:id=M.NR
  ·subst e1
   simp only [h.NR,List.getElem?_concat_length,Option.some.injEq] at hid
   subst hid
   exact hnew n s
  ·have e:id<M.NR:=by
    have:id<(st.rows++[x]).length:=(Aj.1 hid).1
    have z:=h.NR
    simp at this
    omega
   rw [List.getElem?_append_left (by rw [←h.NR];exact e)] at hid
   have r:=h.row id y hid
   obtain ⟨C,K,D,H⟩:=a id e
   exact r.keep n C H K D (f _ r.lt) r.ne (AW _ _ r.lt)
 ·have z:(M.addRow w.heap.size cap k sz tp).NR=M.NR+1:=rfl
  rw [z] at g J
  have p:(M.addRow w.heap.size cap k sz tp).blk M.NR=w.heap.size:=by simp [Mem.addRow]
  by_cases e1:i=M.NR
  ·by_cases e2:j=M.NR
   ·omega
   ·subst e1
    rw [p,(a j (by omega)).2.1] at d
    have:=h.row_lt (i:=j) (by omega)
    omega
  ·by_cases e2:j=M.NR
   ·subst e2
    rw [p,(a i (by omega)).2.1] at d
    have:=h.row_lt (i:=i) (by omega)
    omega
   ·rw [(a i (by omega)).2.1,(a j (by omega)).2.1] at d
    exact h.rowinj i j (by omega) (by omega) d
theorem RelSt.addRow (h:RelSt w0 M st w) {cs:Array Value} {ty:TypeId} {cap k sz:Nat} (hm:cap≤maxLen) (hk:k≤cap) (hs:cs.size=cap*sz) :
  RelSt w0 (M.addRow w.heap.size cap k sz (k*sz)) { st with rows:=st.rows++[.grow k sz] } (w.alloc (.cells cs ty))∧Ext w0 M w (M.addRow w.heap.size cap k sz (k*sz)) (w.alloc (.cells cs ty)) :=
 h.addRow' fun _ a=>by
  have q:(M.addRow w.heap.size cap k sz (k*sz)).fr M.NR=k∧(M.addRow w.heap.size cap k sz (k*sz)).blk M.NR=w.heap.size∧(M.addRow w.heap.size cap k sz (k*sz)).cap M.NR=cap∧(M.addRow w.heap.size cap k sz (k*sz)).rsz M.NR=sz∧(M.addRow w.heap.size cap k sz (k*sz)).top w.heap.size=k*sz:=by simp [Mem.addRow]
  obtain ⟨q1,q2,q3,b,c⟩:=q
  simp only [RowOk,q1,q2,q3,b,c]
  exact ⟨trivial,trivial,h.base_le,trivial,a,hm,hk,cs,ty,heap_alloc_new w _,hs⟩
theorem RelSt.addVec (h:RelSt w0 M st w) {cs:Array Value} {ty:TypeId} {cap sz:Nat} {xs:List AV} (hm:cap≤maxLen) (hz:0<sz) (hs:cs.size=cap*sz) (hl:xs.length≤cs.size) (h1:∀ x∈xs,x.one=true) (hR:∀ (i:Nat) (v:Value) (x:AV),cs[i]? = some v→xs[i]? = some x→R w0 M w v x) :
  RelSt w0 (M.addRow w.heap.size cap 0 sz 0) { st with rows:=st.rows++[.vec 0 sz xs] } (w.alloc (.cells cs ty))∧Ext w0 M w (M.addRow w.heap.size cap 0 sz 0) (w.alloc (.cells cs ty)) :=
 h.addRow' fun f c=>by
  have q:(M.addRow w.heap.size cap 0 sz 0).fr M.NR=0∧(M.addRow w.heap.size cap 0 sz 0).blk M.NR=w.heap.size∧(M.addRow w.heap.size cap 0 sz 0).cap M.NR=cap∧(M.addRow w.heap.size cap 0 sz 0).rsz M.NR=sz∧(M.addRow w.heap.size cap 0 sz 0).top w.heap.size=0:=by simp [Mem.addRow]
  obtain ⟨q1,q2,q3,d,e⟩:=q
  simp only [RowOk,q1,q2,q3,d,e]
  exact ⟨trivial,trivial,h.base_le,trivial,c,hm,hz,cs,ty,heap_alloc_new w _,hs,hl,h1,fun i a b=>(hR i _ _ (Array.getElem?_eq_getElem a) (List.getElem?_eq_getElem b)).mono f⟩
theorem RelSt.growRow' (h:RelSt w0 M st w) {id:Nat} {x0 x:RowA} (hid:st.rows[id]? = some x0) {w':World} {b cap k tp:Nat} (hbelow:Below w0.heap.size w w')
  (hsize:w.heap.size≤w'.heap.size) (hbw:b<w'.heap.size) (hbox:∀ l,l<M.N→M.bx l≠b∧w'.heap[M.bx l]? = w.heap[M.bx l]?) (hrow:∀ i,i<M.NR→i≠id→M.blk i≠b∧w'.heap[M.blk i]? = w.heap[M.blk i]?)
  (hnew:RowOk w0 (M.growRow id b cap k tp) w' id x) (hx:Ext w0 M w (M.growRow id b cap k tp) w') (hko:KeepsObj w w') :
  RelSt w0 (M.growRow id b cap k tp) { st with rows:=st.rows.set id x } w':=by
 have e:id<st.rows.length:=(Aj.1 hid).1
 refine ⟨h.below.trans hbelow,h.N,by simp [Mem.growRow,h.NR],fun y v=>?_,h.inj,fun l c s=>?_,fun i y hi=>?_,fun i j hi m a=>?_,h.loop.mono hx rfl hko⟩
 ·have:(M.growRow id b cap k tp).top y=M.top y:=by simp [Mem.growRow];omega
  rw [this]
  exact h.top y (by omega)
 ·obtain ⟨a1,a2,z,n,a3,a4,a5,a6⟩:=h.box l c s
  have o:l<M.N:=by rw [h.N];exact (Aj.1 s).1
  obtain ⟨f,g⟩:=hbox l o
  refine ⟨a1,?_,z,n,by rw [show (M.growRow id b cap k tp).bx l=M.bx l from rfl,g];exact a3,a4,a5,fun i f g=>(a6 i f g).mono hx⟩
  show (M.growRow id b cap k tp).top (M.bx l)=0
  simp [Mem.growRow,f,a2]
 ·by_cases e1:i=id
  ·subst e1
   rw [List.getElem?_set_self e] at hi
   cases hi
   exact hnew
  ·rw [List.getElem?_set_ne (Ne.symm e1)] at hi
   have p:i<M.NR:=by rw [h.NR];exact (Aj.1 hi).1
   have r:=h.row i y hi
   obtain ⟨f,g⟩:=hrow i p e1
   have q:(M.growRow id b cap k tp).fr i=M.fr i∧(M.growRow id b cap k tp).blk i=M.blk i∧(M.growRow id b cap k tp).cap i=M.cap i∧(M.growRow id b cap k tp).rsz i=M.rsz i∧(M.growRow id b cap k tp).top (M.blk i)=M.top (M.blk i):=by simp [Mem.growRow,e1,f]
   obtain ⟨q1,q2,q3,u,t⟩:=q
   exact r.keep hx q1 u q2 q3 t r.ne g
 ·have d:∀ j,(M.growRow id b cap k tp).blk j=if j=id then b else M.blk j:=fun j=>rfl
  rw [d,d] at a
  have C:(M.growRow id b cap k tp).NR=M.NR:=rfl
  rw [C] at hi m
  by_cases e1:i=id
  ·by_cases e2:j=id
   ·omega
   ·rw [Ah e1,Ai e2] at a
    exact absurd a.symm (hrow j m e2).1
  ·by_cases e2:j=id
   ·rw [Ai e1,Ah e2] at a
    exact absurd a (hrow i hi e1).1
   ·rw [Ai e1,Ai e2] at a
    exact h.rowinj i j hi m a
theorem RelSt.growRow (h:RelSt w0 M st w) {id:Nat} {k0 sz:Nat} (hid:st.rows[id]? = some (.grow k0 sz)) {w':World} {b cap k:Nat} (hb0:w0.heap.size≤b) (hbelow:Below w0.heap.size w w')
  (hsize:w.heap.size≤w'.heap.size) (hbw:b<w'.heap.size) (hm:cap≤maxLen) (hk:k≤cap) (hbox:∀ l,l<M.N→M.bx l≠b∧w'.heap[M.bx l]? = w.heap[M.bx l]?) (hrow:∀ i,i<M.NR→i≠id→M.blk i≠b∧w'.heap[M.blk i]? = w.heap[M.blk i]?)
  {cs:Array Value} {ty:TypeId} (hcs:w'.heap[b]? = some (.cells cs ty (0,0))) (hs:cs.size=cap*sz) (hx:Ext w0 M w (M.growRow id b cap k (k*sz)) w') (hko:KeepsObj w w') :
  RelSt w0 (M.growRow id b cap k (k*sz)) { st with rows:=st.rows.set id (.grow k sz) } w':=by
 refine h.growRow' hid hbelow hsize hbw hbox hrow ?_ hx hko
 have q:(M.growRow id b cap k (k*sz)).fr id=k∧(M.growRow id b cap k (k*sz)).blk id=b∧(M.growRow id b cap k (k*sz)).cap id=cap∧(M.growRow id b cap k (k*sz)).rsz id=M.rsz id∧(M.growRow id b cap k (k*sz)).top b=k*sz:=by simp [Mem.growRow]
 obtain ⟨q1,q2,q3,a,c⟩:=q
 simp only [RowOk,q1,q2,q3,a,c]
 exact ⟨trivial,(h.row id _ hid).2.1,hb0,trivial,fun l d=>(hbox l d).1,hm,hk,cs,ty,hcs,hs⟩
def Uj (us ux:Nat→Value) (k:Nat):Nat→Value:=fun i=>if i<k then us i else ux (i-k)
theorem Xx {us ux:Nat→Value} {xs ys:List AV} {sz:Nat} {M':Mem} {w':World} (hx:Ext w0 M w M' w') (h1:∀ i (hi:i<xs.length),(us i).cells.size=sz∧R w0 M w (us i) xs[i]) (h2:∀ i (hi:i<ys.length),(ux i).cells.size=sz∧R w0 M w (ux i) ys[i]) :
  ∀ i (hi:i<(xs++ys.map AV.pub).length),(Uj us ux xs.length i).cells.size=sz∧R w0 M' w' (Uj us ux xs.length i) (xs++ys.map AV.pub)[i]:=by
 intro i hi
 unfold Uj
 by_cases c:i<xs.length
 ·rw [Ah c,List.getElem_append_left c]
  exact ⟨(h1 i c).1,((h1 i c).2).mono hx⟩
 ·simp at hi
  rw [Ai c,List.getElem_append_right (by omega),List.getElem_map]
  exact ⟨(h2 _ (by omega)).1,((h2 _ (by omega)).2).pub.mono hx⟩
theorem Wj {us ux:Nat→Value} {k m sz:Nat} (hs:∀ i,i<k→(us i).cells.size=sz) (hx:∀ i,i<m→(ux i).cells.size=sz) (zs:List Value) :
  ∀ i,i<k+m→∀ j,j<sz→(flat us k++flat ux m++zs)[i*sz+j]? = (Uj us ux k i).cells[j]? := by
 intro i f j a
 have d:=AM hs
 have b:=AM hx
 rw [List.append_assoc,List.getElem?_append,d]
 unfold Uj
 by_cases c:i<k
 ·have q:(i+1)*sz≤k*sz:=Nat.mul_le_mul_right _ c
  rw [Nat.succ_mul] at q
  rw [Ab,Ah c]
  exact Hl hs i c j a
 ·have q:k*sz≤i*sz:=Nat.mul_le_mul_right _ (by omega)
  have q2:(i-k+1)*sz≤m*sz:=Nat.mul_le_mul_right _ (by omega)
  rw [Nat.succ_mul] at q2
  have e:i*sz=k*sz+(i-k)*sz:=by rw [←Nat.add_mul];congr 1;omega
  rw [Aa,Ai c,List.getElem?_append,b,Ab,show i*sz+j-k*sz=(i-k)*sz+j from by omega]
  exact Hl hx (i-k) (by omega) j a
theorem VN (t ty el:TypeId) {sz:Nat} {ag:Bool} (ht:P.underlying t=some (.slice el)) (hty:Ez P el=some (sz,ag)) (g k cap:Nat) (cur:Array Value) (te:TypeId) (hg:w.heap[g]? = some (.cells cur te (0,0)))
  {x:Value} {m:Nat} (hlen:(Builtin.lenOf x).run P w = .ok m w) (news:List Value) (hf:(Builtin.firstCells sz m x).run P w = .ok news.toArray w) (h1:∀ u∈news,u.oneCell'=true)
  (hroom:k+m≤cap) (hfit:k*sz+news.length≤cur.size) :
  (Builtin.append_ #[t,t] ty #[.slice (some ⟨g,0,none⟩) k cap,x]).run P w =
   .ok (.slice (some ⟨g,0,none⟩) (k+m) cap) (w.setRow g (cur.toList.take (k*sz)++news++cur.toList.drop (k*sz+news.length)).toArray):=by
 have b:=run_storeCells_at P g (k*sz) te news 0 cur w hg (by simpa using hfit) h1
 simp only [Nat.add_zero] at b
 obtain ⟨i,d,c,hsz,_,_⟩:=Iw hty
 subst hsz
 have a:(⟨g,0,none⟩:Addr).add (k*i.size)=⟨g,k*i.size,none⟩:=by rw [DU,Nat.zero_add]
 simp [Builtin.append_,run_underlying ht,sizeOf,typeInfo,c,hlen,hroom,hf,a,b]
theorem Mc {ys:List AV} {sz:Nat} (hs:∀ y∈ys,y.cells.length=sz):(ys.flatMap fun y=>y.pub.cells).length=ys.length*sz:=by
 induction ys with
 | nil=>simp
 | cons y ys ih =>
  rw [List.flatMap_cons,List.length_append,ih (fun z a=>hs z (by simp [a])),AV.pub_cells_length,hs y (by simp),List.length_cons,Nat.succ_mul]
  omega
theorem Zbw {sz:Nat}:∀ (ys:List AV),(∀ y∈ys,y.cells.length=sz)→∀ i y,ys[i]? = some y→∀ k,k<sz→(ys.flatMap fun y=>y.pub.cells)[i*sz+k]? = y.pub.cells[k]?
 | [],_,i,y,h,_,_=>by simp at h
 | x::ys,hs,0,y,h,k,hk=>by
  simp only [List.getElem?_cons_zero,Option.some.injEq] at h
  subst h
  rw [List.flatMap_cons,Nat.zero_mul,Nat.zero_add,List.getElem?_append_left (by rw [AV.pub_cells_length,hs x (by simp)];exact hk)]
 | x::ys,hs,i+1,y,h,k,hk=>by
  have a:x.pub.cells.length=sz:=by rw [AV.pub_cells_length];exact hs x (by simp)
  rw [List.flatMap_cons,List.getElem?_append_right (by rw [a,Nat.succ_mul];omega),a,show (i+1)*sz+k-sz=i*sz+k from by rw [Nat.succ_mul];omega]
  exact Zbw ys (fun z b=>hs z (by simp [b])) i y (by simpa using h) k hk
theorem Xb {ux:Nat→Value} {ys:List AV} (hu:∀ i (hi:i<ys.length),R w0 M w (ux i) ys[i]) (hn:∀ y∈ys,AA y=true):∀ x∈ys.flatMap (fun y=>y.pub.cells),x.one=true:=by
 intro x c
 obtain ⟨y,b,a⟩:=List.mem_flatMap.1 c
 obtain ⟨i,hi,rfl⟩:=List.mem_iff_getElem.1 b
 refine ((hu i hi).pub).cellsOne (fun vs e=>?_) x a
 have:=hn _ b
 cases h:ys[i]<;>rw [h] at e this<;>first | (cases this;done) | (cases e;done)
theorem ZjC {ux:Nat→Value} {ys:List AV} {sz:Nat} (hz:0<sz) (hu:∀ i (hi:i<ys.length),(ux i).cells.size=sz∧R w0 M w (ux i) ys[i]) (hs:∀ y∈ys,y.cells.length=sz) {j:Nat} {v:Value} {x:AV} (hv:(flat ux ys.length)[j]? = some v) (hx:(ys.flatMap fun y=>y.pub.cells)[j]? = some x):R w0 M w v x:=by
 have d:j<ys.length*sz:=by rw [←Mc hs];exact (Aj.1 hx).1
 have hi:j / sz<ys.length:=(Nat.div_lt_iff_lt_mul hz).2 d
 have c:=Nat.mod_lt j hz
 have e:j / sz*sz+j % sz=j:=by rw [Nat.mul_comm];exact Nat.div_add_mod j sz
 have a:=Hl (us:=ux) (sz:=sz) (fun i hi=>(hu i hi).1) (j / sz) hi (j % sz) c
 have b:=Zbw ys hs (j / sz) _ (List.getElem?_eq_getElem hi) (j % sz) c
 rw [e] at a b
 rw [hv] at a
 rw [hx] at b
 obtain ⟨_,f⟩:=((hu _ hi).2).pub.cells
 obtain ⟨q1,q2⟩:=Array.getElem?_eq_some_iff.1 a.symm
 obtain ⟨q3,g⟩:=Aj.1 b.symm
 rw [←q2,←g]
 exact f _ q1 q3
theorem Z4 (h:Rel w0 n M e st a w) (s x:Operand) (t ty:TypeId) (hs:argOk e true s) (hx:argOk e true x) (hob:(evAppend P st t (Aq e s) (Aq e x)).1) :
  Yields' P w0 M (evAppend P st t (Aq e s) (Aq e x)).2.2 (evAppend P st t (Aq e s) (Aq e x)).2.1 w (do pure (.value (← Builtin.append_ #[t,t] ty #[a.eval s,a.eval x]))):=by
 have hRs:=AP h hs
 have hRx:=AP h hx
 generalize Aq e s=S at hRs hob ⊢
 generalize Aq e x=X at hRx hob ⊢
 generalize a.eval s=vs at hRs ⊢
 generalize a.eval x=vx at hRx ⊢
 unfold evAppend at hob ⊢
 cases he:GT P t with
 | none=>simp [he] at hob
 | some p =>
  obtain ⟨el,sz,ag,bo⟩:=p
  simp only [he] at hob ⊢
  obtain ⟨f,hu,g,a4,a7⟩:=EN he
  have r:f.size=sz:=by
   obtain ⟨i',d,h1,h2,_⟩:=Iw a7
   rw [g] at h1;cases h1;exact h2
  cases S with
  | list xs o =>
   have a2:(AO X).length=0→BA X=true→Yields' P w0 M st (.list xs o) w (do pure (.value (← Builtin.append_ #[t,t] ty #[vs,vx]))):=by
    intro ah lx
    obtain ⟨ys,o',rfl⟩:=GG lx
    simp only [AO] at ah
    have:ys=[]:=List.length_eq_zero_iff.1 ah
    subst this
    refine .here h.st (v:=vs) ?_ hRs
    have bk:(Builtin.lenOf vx).run P w = .ok 0 w∧(Builtin.firstCells sz 0 vx).run P w = .ok #[] w:=by
     cases hRx with
     | nil _=>exact ⟨rfl,rfl⟩
     | emp _=>exact ⟨rfl,by simp [Builtin.firstCells,loadCells,loadCellsFrom]⟩
     | list=>exact ⟨rfl,by simp [Builtin.firstCells,loadCells,loadCellsFrom]⟩
    obtain ⟨be,bf⟩:=bk
    have bb:∀ (ad:Option Addr) (ln cap:Nat),ln≤cap→(Builtin.append_ #[t,t] ty #[.slice ad ln cap,vx]).run P w = .ok (.slice ad ln cap) w:=fun ad ln cap Z=>by
     cases ad with
     | none=>simp [Builtin.append_,run_underlying hu,sizeOf,typeInfo,g,r,be,bf,Z]
     | some ad=>simp [Builtin.append_,run_underlying hu,sizeOf,typeInfo,g,r,be,bf,Z,storeCells]
    cases hRs with
    | nil _=>exact bb none 0 0 (Nat.le_refl _)
    | emp _=>exact bb _ 0 0 (Nat.le_refl _)
    | list sz us hc=>exact bb _ _ _ hc
   cases o with
   | none=>exact hob.elim
   | full =>
   simp only at hob ⊢
   by_cases ah:(AO X).length=0
   ·rw [Ah ah] at hob ⊢
    exact a2 ah hob.1
   rw [Ai ah] at hob ⊢
   obtain ⟨lx,⟨O,hz,J,a0,cx⟩,cs⟩:=hob
   obtain ⟨ys,o',rfl⟩:=GG lx
   simp only [AO] at *
   have hpos:0<ys.length:=by omega
   obtain ⟨z,ar⟩:=Option.isSome_iff_exists.1 hz
   obtain ⟨i',v,hi',hv,hc,ab,rfl⟩:=C0 ar
   rw [g] at hi';cases hi'
   obtain ⟨us,u1,u2⟩:=hRs.list_open cs
   obtain ⟨ux,x1,x2⟩:=hRx.list_open (fun y hy=>(cx y hy).1)
   have ak:∀ i,i<xs.length→(us i).cells.size=sz:=fun i g=>(u1 i g).1
   have m:∀ i,i<ys.length→(ux i).cells.size=sz:=fun i g=>(x1 i g).1
   rcases x2 with ⟨_,q,_⟩ | ⟨bx,ox,cx',_,rfl,_,_,_,hcx⟩
   ·subst q;exact absurd hpos (by simp)
   have K:=EV (w:=w) m O hcx
   have U:xs.length+ys.length≤maxLen:=by simp [maxLen];omega
   have G:∀ (Q:Nat) (zs:List Value) (cells:Array Value),cells.toList=flat us xs.length++flat ux ys.length++zs→zs.length=(grownCap w (xs.length+ys.length) Q el-(xs.length+ys.length))*sz →
     (Builtin.append_ #[t,t] ty #[vs,.slice (some ⟨bx,ox,none⟩) ys.length cx']).run P w = .ok (.slice (some ⟨w.heap.size,0,none⟩) (xs.length+ys.length) (grownCap w (xs.length+ys.length) Q el)) (w.drew.alloc (.cells cells el)) →
     Yields' P w0 M { st with rows:=st.rows++[.grow (xs.length+ys.length) sz] } (.list (xs++ys.map AV.pub) (.row st.rows.length)) w (do pure (.value (← Builtin.append_ #[t,t] ty #[vs,.slice (some ⟨bx,ox,none⟩) ys.length cx']))):=by
    intro Q zs cells E ba hrun
    obtain ⟨d1,d2⟩:=h.st.drew
    have ae:=grownCap_ge w (xs.length+ys.length) Q el
    have Z:=grownCap_le_maxLen w (xs.length+ys.length) Q el U
    have H:cells.size=grownCap w (xs.length+ys.length) Q el*sz:=by
     have:cells.size=cells.toList.length:=by simp
     rw [this,E]
     simp only [List.length_append,AM ak,AM m,ba]
     rw [←Nat.add_mul,←Nat.add_mul]
     congr 1
     omega
    obtain ⟨r1,r2⟩:=d1.addRow (cs:=cells) (ty:=el) (sz:=sz) Z ae H
    have ai:=Xx (w0:=w0) d2 u1 x1
    have C:(xs++ys.map AV.pub).length=xs.length+ys.length:=by simp
    have Y:=R.row (w0:=w0) (M:=M) (w:=w.drew) (us:=Uj us ux xs.length) (xs:=xs++ys.map AV.pub) (cs:=cells) (ty:=el) (sz:=sz) (k:=(xs.length+ys.length)*sz) (cap:=grownCap w (xs.length+ys.length) Q el) (o := .row st.rows.length) ai
     (fun i g j hj=>by
      rw [C] at g
      rw [←Array.getElem?_toList,E]
      exact Wj ak m zs i g j hj) (by rw [C];exact ae) Z (by rw [C];exact Nat.le_refl _) (M.addRow w.drew.heap.size (grownCap w (xs.length+ys.length) Q el) (xs.length+ys.length) sz ((xs.length+ys.length)*sz)) (by simp [Mem.addRow]) r2
     (by
      have hN:=h.st.NR
      refine ⟨by simp [Mem.addRow,hN],by rw [C];simp [Mem.addRow,hN],fun _=>by simp [Mem.addRow,hN]⟩)
    rw [C] at Y
    exact .value ⟨_,_,_,hrun,d2.trans r2,r1,Y⟩
   have af:(flat ux ys.length).length=ys.length*f.size:=by rw [AM m,r]
   have am:(xs.length+ys.length)*f.bytes≤140737488355328:=by rw [a4];exact J
   rcases u2 with ⟨rfl | ⟨ad,rfl⟩,q,_⟩ | ⟨bs,os,cps,sz',rfl,_,_,ho,hcs'⟩
   ·subst q
    simp only [List.length_nil,Nat.zero_add] at *
    have hrun:=run_append_nil (P:=P) w t ty el f v hu g hv ⟨bx,ox,none⟩ ys.length cx' (flat ux ys.length) af K hpos (by omega) (by omega)
    refine G 0 (Builtin.zeroCells v.cells (grownCap w ys.length 0 el-ys.length)).toList _ ?_ ?_ hrun
    ·simp [flat]
    ·simp only [Array.length_toList,size_zeroCells,ab,r]
   ·subst q
    simp only [List.length_nil,Nat.zero_add] at *
    have hrun:=run_append_grow (P:=P) w t ty el f v hu g hv ad 0 0 [] (by simp) (fun j u hu=>by simp at hu) ⟨bx,ox,none⟩ ys.length cx' (flat ux ys.length) af K (by omega) (by rw [Nat.zero_add];omega) (growslice_fits (by omega) (by rw [Nat.zero_add];exact am))
    simp only [Nat.zero_add] at hrun
    refine G 0 (Builtin.zeroCells v.cells (grownCap w ys.length 0 el-ys.length)).toList _ ?_ ?_ hrun
    ·simp [flat]
    ·simp only [Array.length_toList,size_zeroCells,ab,r]
   ·have hcap:xs.length=cps:=ho
    have ap:=EV (w:=w) ak O hcs'
    have aw:(flat us xs.length).length=xs.length*f.size:=by rw [AM ak,r]
    have hrun:=run_append_grow (P:=P) w t ty el f v hu g hv ⟨bs,os,none⟩ xs.length cps (flat us xs.length) aw ap ⟨bx,ox,none⟩ ys.length cx' (flat ux ys.length) af K (by omega) (by omega) (growslice_fits (by omega) am)
    refine G cps (Builtin.zeroCells v.cells (grownCap w (xs.length+ys.length) cps el-(xs.length+ys.length))).toList _ ?_ ?_ hrun
    ·simp
    ·simp only [Array.length_toList,size_zeroCells,ab,r]
   | seed =>
   simp only at hob ⊢
   by_cases ah:(AO X).length=0
   ·rw [Ah ah] at hob ⊢
    exact a2 ah hob.1
   rw [Ai ah] at hob ⊢
   obtain ⟨lx,⟨O,hz,J,a0,cx⟩,bi,hpos⟩:=hob
   obtain ⟨ys,o',rfl⟩:=GG lx
   have:xs=[]:=List.length_eq_zero_iff.1 bi
   subst this
   simp only [AO,Nat.zero_add] at *
   obtain ⟨z,ar⟩:=Option.isSome_iff_exists.1 hz
   obtain ⟨i',v,hi',hv,hc,ab,rfl⟩:=C0 ar
   rw [g] at hi';cases hi'
   obtain ⟨ux,x1,x2⟩:=hRx.list_open (fun y hy=>(cx y hy).1)
   have m:∀ i,i<ys.length→(ux i).cells.size=sz:=fun i g=>(x1 i g).1
   rcases x2 with ⟨_,q,_⟩ | ⟨bx,ox,cx',_,rfl,_,_,_,hcx⟩
   ·subst q;exact absurd hpos (by simp)
   have K:=EV (w:=w) m O hcx
   have U:ys.length≤maxLen:=by simp [maxLen];omega
   have af:(flat ux ys.length).length=ys.length*f.size:=by rw [AM m,r]
   have am:ys.length*f.bytes≤140737488355328:=by rw [a4];exact J
   have G:∀ (Q:Nat) (zs:List Value) (cells:Array Value),cells.toList=flat ux ys.length++zs→zs.length=(grownCap w ys.length Q el-ys.length)*sz →
     (Builtin.append_ #[t,t] ty #[vs,.slice (some ⟨bx,ox,none⟩) ys.length cx']).run P w = .ok (.slice (some ⟨w.heap.size,0,none⟩) ys.length (grownCap w ys.length Q el)) (w.drew.alloc (.cells cells el)) →
     Yields' P w0 M { st with rows:=st.rows++[.vec 0 sz (ys.flatMap fun y=>y.pub.cells)] } (.vec st.rows.length 0 0 ys.length) w (do pure (.value (← Builtin.append_ #[t,t] ty #[vs,.slice (some ⟨bx,ox,none⟩) ys.length cx']))):=by
    intro Q zs cells E ba hrun
    obtain ⟨d1,d2⟩:=h.st.drew
    have ae:=grownCap_ge w ys.length Q el
    have Z:=grownCap_le_maxLen w ys.length Q el U
    have H:cells.size=grownCap w ys.length Q el*sz:=by
     have:cells.size=cells.toList.length:=by simp
     rw [this,E]
     simp only [List.length_append,AM m,ba]
     rw [←Nat.add_mul]
     congr 1
     omega
    have a3:=Mc (fun y hy=>(cx y hy).1)
    obtain ⟨r1,r2⟩:=d1.addVec (cs:=cells) (ty:=el) (sz:=sz) (xs:=ys.flatMap fun y=>y.pub.cells) Z O H (by rw [H,a3];exact Nat.mul_le_mul_right _ ae) (Xb (fun i g=>((x1 i g).2).mono d2) (fun y hy=>(cx y hy).2))
     (fun i v x aq ao=>by
      have a8:i<ys.length*sz:=by rw [←a3];exact (Aj.1 ao).1
      rw [←Array.getElem?_toList,E,List.getElem?_append_left (by rw [AM m];exact a8)] at aq
      exact (ZjC O x1 (fun y hy=>(cx y hy).1) aq ao).mono d2)
    refine .value ⟨_,_,_,hrun,d2.trans r2,r1,?_⟩
    have hN:=h.st.NR
    refine .vec (by simp [Mem.addRow,hN]) (Nat.zero_le _) fun _=>⟨by simp [Mem.addRow,hN],by simp [Mem.addRow,hN],ae⟩
   (cases hRs with
   | nil ho =>
    have hrun:=run_append_nil (P:=P) w t ty el f v hu g hv ⟨bx,ox,none⟩ ys.length cx' (flat ux ys.length) af K hpos (by omega) (by omega)
    refine G 0 (Builtin.zeroCells v.cells (grownCap w ys.length 0 el-ys.length)).toList _ ?_ ?_ hrun
    ·simp
    ·simp only [Array.length_toList,size_zeroCells,ab,r]
   | @emp ad _ ho =>
    have hrun:=run_append_grow (P:=P) w t ty el f v hu g hv ad 0 0 [] (by simp) (fun j u hu=>by simp at hu) ⟨bx,ox,none⟩ ys.length cx' (flat ux ys.length) af K (by omega) (by rw [Nat.zero_add];omega) (growslice_fits (by omega) (by rw [Nat.zero_add];exact am))
    simp only [Nat.zero_add] at hrun
    refine G 0 (Builtin.zeroCells v.cells (grownCap w ys.length 0 el-ys.length)).toList _ ?_ ?_ hrun
    ·simp
    ·simp only [Array.length_toList,size_zeroCells,ab,r]
   | @list b off cap _ _ sz' us hc' hm' hcell hu' ho =>
    have hcap:(0:Nat)=cap:=ho
    subst hcap
    have hrun:=run_append_grow (P:=P) w t ty el f v hu g hv ⟨b,off,none⟩ 0 0 [] (by simp) (fun j u hu=>by simp at hu) ⟨bx,ox,none⟩ ys.length cx' (flat ux ys.length) af K (by omega) (by rw [Nat.zero_add];omega) (growslice_fits (by omega) (by rw [Nat.zero_add];exact am))
    simp only [Nat.zero_add] at hrun
    refine G 0 (Builtin.zeroCells v.cells (grownCap w ys.length 0 el-ys.length)).toList _ ?_ ?_ hrun
    ·simp
    ·simp only [Array.length_toList,size_zeroCells,ab,r])
   | row id =>
   simp only at hob ⊢
   obtain ⟨lx,⟨O,hz,J,a0,cx⟩,cs,aj⟩:=hob
   obtain ⟨ys,o',rfl⟩:=GG lx
   simp only [AO] at *
   obtain ⟨z,ar⟩:=Option.isSome_iff_exists.1 hz
   obtain ⟨i',v,hi',hv,hc,ab,rfl⟩:=C0 ar
   rw [g] at hi';cases hi'
   obtain ⟨us,u1,u2⟩:=hRs.list_open cs
   obtain ⟨ux,x1,x2⟩:=hRx.list_open (fun y hy=>(cx y hy).1)
   have ak:∀ i,i<xs.length→(us i).cells.size=sz:=fun i g=>(u1 i g).1
   have m:∀ i,i<ys.length→(ux i).cells.size=sz:=fun i g=>(x1 i g).1
   have F:id<M.NR:=by rw [h.st.NR];exact (Aj.1 aj).1
   obtain ⟨f1,f2,f3,f4,f5,f6,f7,cur,te,f8,f9⟩:=h.st.row id _ aj
   rcases u2 with ⟨_,_,q⟩ | ⟨bs,os,cps,sz',rfl,_,_,ho,hcs'⟩
   ·exact absurd rfl (q id)
   obtain ⟨_,_,bg⟩:=ho
   obtain ⟨e1,e2,e3,_⟩:=bg f1.symm
   subst e1;subst e2;subst e3
   have C:(xs++ys.map AV.pub).length=xs.length+ys.length:=by simp
   have a9:(Builtin.lenOf vx).run P w = .ok ys.length w:=by
    rcases x2 with ⟨rfl | ⟨_,rfl⟩,q,_⟩ | ⟨bx,ox,cx',_,rfl,_⟩
    ·subst q;rfl
    ·subst q;rfl
    ·rfl
   have af:(flat ux ys.length).length=ys.length*f.size:=by rw [AM m,r]
   have au:(Builtin.firstCells sz ys.length vx).run P w = .ok (flat ux ys.length).toArray w:=by
    rcases x2 with ⟨rfl | ⟨_,rfl⟩,q,_⟩ | ⟨bx,ox,cx',_,rfl,_,_,_,hcx⟩
    ·subst q;rfl
    ·subst q;simp [Builtin.firstCells,loadCells,loadCellsFrom,flat]
    ·exact run_firstCells_some w sz ys.length ⟨bx,ox,none⟩ ys.length cx' (flat ux ys.length) (AM m) (EV (w:=w) m O hcx)
   by_cases hroom:xs.length+ys.length≤M.cap id
   ·-- there is room
    have az:xs.length*sz+(flat ux ys.length).length≤cur.size:=by rw [AM m,f9,←Nat.add_mul];exact Nat.mul_le_mul_right _ hroom
    have hrun:=VN (P:=P) (w:=w) t ty el hu a7 (M.blk id) xs.length (M.cap id) cur te f8 a9 (flat ux ys.length) au (Vi x1 (fun y hy=>(cx y hy).2)) hroom az
    generalize hc':(cur.toList.take (xs.length*sz)++flat ux ys.length++cur.toList.drop (xs.length*sz+(flat ux ys.length).length)).toArray=cur' at hrun
    have av:cur'.size=cur.size:=by rw [←hc'];simp;omega
    have a1:∀ j,j<xs.length*sz→cur'[j]? = cur[j]? := by
     intro j hj
     rw [←hc',List.getElem?_toArray,List.append_assoc,List.getElem?_append_left (by simp;omega),List.getElem?_take,Ah hj,Array.getElem?_toList]
    have bd:∀ j,j<ys.length*sz→cur'[xs.length*sz+j]? = (flat ux ys.length)[j]? := by
     intro j hj
     have l2:=AM m
     rw [←hc',List.getElem?_toArray,List.append_assoc,List.getElem?_append_right (by simp;omega)]
     simp only [List.length_take,Array.length_toList]
     have e:min (xs.length*sz) cur.size=xs.length*sz:=by omega
     rw [e,show xs.length*sz+j-xs.length*sz=j from by omega,List.getElem?_append_left (by rw [l2];exact hj)]
    have D:Ext w0 M w (M.growRow id (M.blk id) (M.cap id) (xs.length+ys.length) ((xs.length+ys.length)*sz)) (w.setRow (M.blk id) cur'):=by
     refine Hq (M:=M) (M.growRow id (M.blk id) (M.cap id) (xs.length+ys.length) ((xs.length+ys.length)*sz)) rfl (fun _ _=>rfl) rfl (fun i g=>?_) (fun b=>?_) f8 f3 (fun j hj=>a1 j (by rw [f4] at hj;exact hj)) (Mem.own_row F) (fun b=>J5 F)
     ·by_cases c:i=id
      ·subst c
       simp only [Mem.growRow,if_true,f1]
       exact ⟨by omega,fun _=>⟨trivial,trivial,trivial⟩⟩
      ·simp only [Mem.growRow,Ai c]
       exact ⟨Nat.le_refl _,fun _=>⟨trivial,trivial,trivial⟩⟩
     ·simp only [Mem.growRow]
      split
      ·rename_i c
       rw [c,f4]
       exact Nat.mul_le_mul_right _ (by omega)
      ·exact Nat.le_refl _
    have ay:=h.st.row_lt F
    have aa:=h.st.growRow aj (w':=w.setRow (M.blk id) cur') (b:=M.blk id) (cap:=M.cap id) (k:=xs.length+ys.length) f3 (Below.setRow (Below.refl _ _) f3 _) (by simp) (by simpa using ay) f6 hroom
     (fun l hl=>⟨f5 l hl,setRow_other w _ _ _ (f5 l hl)⟩) (fun i g ax=>by
      have:M.blk i≠M.blk id:=fun q=>ax (h.st.rowinj i id g F q)
      exact ⟨this,setRow_other w _ _ _ this⟩) (setRow_heap w _ cur cur' te _ f8) (by rw [av];exact f9) D (KeepsObj.setRow f8 _)
    have ai:=Xx (w0:=w0) D u1 x1
    have Y:=R.list (w0:=w0) (M:=M.growRow id (M.blk id) (M.cap id) (xs.length+ys.length) ((xs.length+ys.length)*sz)) (w:=w.setRow (M.blk id) cur') (b:=M.blk id) (off:=0) (cap:=M.cap id) (xs:=xs++ys.map AV.pub) (o := .row id) sz (Uj us ux xs.length) (by rw [C];exact hroom) f6
     (fun i g=>⟨(ai i g).1,fun j hj=>by
      rw [C] at g
      have q1:(i+1)*sz≤(xs.length+ys.length)*sz:=Nat.mul_le_mul_right _ g
      rw [Nat.succ_mul] at q1
      refine ⟨.inr ?_,?_⟩
      ·simp only [Mem.growRow,if_true]
       omega
      ·rw [Nat.zero_add,cell_of_row _ _ _ cur' te _ (setRow_heap w _ cur cur' te _ f8)]
       unfold Uj
       by_cases c:i<xs.length
       ·have q:(i+1)*sz≤xs.length*sz:=Nat.mul_le_mul_right _ c
        rw [Nat.succ_mul] at q
        have:=hcs' i c j hj
        rw [Nat.zero_add,cell_of_row _ _ _ cur te _ f8] at this
        rw [Ah c,a1 _ (by omega),this]
       ·have q:(i-xs.length+1)*sz≤ys.length*sz:=Nat.mul_le_mul_right _ (by omega)
        rw [Nat.succ_mul] at q
        have e:i*sz=xs.length*sz+(i-xs.length)*sz:=by rw [←Nat.add_mul];congr 1;omega
        rw [Ai c,show i*sz+j=xs.length*sz+((i-xs.length)*sz+j) from by omega,bd _ (by omega)]
        exact Hl m _ (by omega) j hj⟩) (fun i g=>(ai i g).2)
     (by
      rw [C]
      refine ⟨F,by simp [Mem.growRow],fun _=>⟨by simp [Mem.growRow],rfl,by simp [Mem.growRow],?_⟩⟩
      simp [Mem.growRow,f2])
    rw [C] at Y
    exact .value ⟨_,_,_,hrun,D,aa,Y⟩
   ·-- a new row
    have hypos:0<ys.length:=by omega
    rcases x2 with ⟨_,q,_⟩ | ⟨bx,ox,cx',_,rfl,_,_,_,hcx⟩
    ·subst q;simp at hypos
    have K:=EV (w:=w) m O hcx
    have ap:=EV (w:=w) ak O hcs'
    have aw:(flat us xs.length).length=xs.length*f.size:=by rw [AM ak,r]
    have am:(xs.length+ys.length)*f.bytes≤140737488355328:=by rw [a4];exact J
    have hrun:=run_append_grow (P:=P) w t ty el f v hu g hv ⟨M.blk id,0,none⟩ xs.length (M.cap id) (flat us xs.length) aw ap ⟨bx,ox,none⟩ ys.length cx' (flat ux ys.length) af K (by omega) (by omega) (growslice_fits (by omega) am)
    have U:xs.length+ys.length≤maxLen:=by simp [maxLen];omega
    have ae:=grownCap_ge w (xs.length+ys.length) (M.cap id) el
    have Z:=grownCap_le_maxLen w (xs.length+ys.length) (M.cap id) el U
    generalize hcl:((flat us xs.length).toArray++(flat ux ys.length).toArray++Builtin.zeroCells v.cells (grownCap w (xs.length+ys.length) (M.cap id) el-(xs.length+ys.length)))=cells at hrun
    have V:cells.toList=flat us xs.length++flat ux ys.length++(Builtin.zeroCells v.cells (grownCap w (xs.length+ys.length) (M.cap id) el-(xs.length+ys.length))).toList:=by rw [←hcl];simp
    generalize grownCap w (xs.length+ys.length) (M.cap id) el=gc at *
    have H:cells.size=gc*sz:=by
     have:cells.size=cells.toList.length:=by simp
     rw [this,V]
     simp only [List.length_append,AM ak,AM m,Array.length_toList,size_zeroCells,ab,r]
     rw [←Nat.add_mul,←Nat.add_mul]
     congr 1
     omega
    obtain ⟨d1,d2⟩:=h.st.drew
    have D:Ext w0 M w.drew (M.growRow id w.drew.heap.size gc (xs.length+ys.length) ((xs.length+ys.length)*sz)) (w.drew.alloc (.cells cells el)):=by
     refine N9 _ _ (.inl rfl) (fun _ _=>rfl) (Nat.le_refl _) (fun i g=>?_) (fun b hb=>?_) (fun b hb=>ML hb)
     ·by_cases c:i=id
      ·subst c
       simp only [Mem.growRow,if_true,f1]
       exact ⟨by omega,fun q=>absurd q (by omega)⟩
      ·simp only [Mem.growRow,Ai c]
       exact ⟨Nat.le_refl _,fun _=>⟨trivial,trivial,trivial⟩⟩
     ·simp only [Mem.growRow]
      rw [Aa]
    have aa:=d1.growRow aj (w':=w.drew.alloc (.cells cells el)) (b:=w.drew.heap.size) (cap:=gc) (k:=xs.length+ys.length) h.st.base_le ((Below.refl _ w.drew).alloc h.st.base_le _) (by simp) (by simp) Z ae
     (fun l hl=>by have:=h.st.box_lt hl;exact ⟨fun q=>by simp at q;omega,AW _ _ this⟩) (fun i g ax=>by have:=h.st.row_lt g;exact ⟨fun q=>by simp at q;omega,AW _ _ this⟩) (heap_alloc_new w.drew _) H D (KeepsObj.alloc _ _)
    have ai:=Xx (w0:=w0) d2 u1 x1
    have Y:=R.row (w0:=w0) (M:=M) (w:=w.drew) (us:=Uj us ux xs.length) (xs:=xs++ys.map AV.pub) (cs:=cells) (ty:=el) (sz:=sz) (k:=(xs.length+ys.length)*sz) (cap:=gc) (o := .row id) ai
     (fun i g j hj=>by
      rw [C] at g
      rw [←Array.getElem?_toList,V]
      exact Wj ak m _ i g j hj) (by rw [C];exact ae) Z (by rw [C];exact Nat.le_refl _) (M.growRow id w.drew.heap.size gc (xs.length+ys.length) ((xs.length+ys.length)*sz)) (by simp [Mem.growRow]) D
     (by
      refine ⟨F,by rw [C];simp [Mem.growRow],fun _=>⟨by simp [Mem.growRow],rfl,by simp [Mem.growRow],?_⟩⟩
      simp [Mem.growRow,f2])
    rw [C] at Y
    exact .value ⟨_,_,_,hrun,d2.trans D,aa,Y⟩
  | vec id ver o n' =>
   simp only at hob ⊢
   cases hvr:CN st.rows id ver with
   | none=>simp [hvr] at hob
   | some q =>
   obtain ⟨sz',cs⟩:=q
   simp only [hvr] at hob ⊢
   obtain ⟨lx,⟨O,hz,J,a0,cx⟩,rfl,rfl,bm⟩:=hob
   obtain ⟨ys,o',rfl⟩:=GG lx
   simp only [AO] at *
   obtain ⟨z,ar⟩:=Option.isSome_iff_exists.1 hz
   obtain ⟨i',v,hi',hv,hc,ab,rfl⟩:=C0 ar
   rw [g] at hi';cases hi'
   have aj:=GN hvr
   have F:id<M.NR:=by rw [h.st.NR];exact (Aj.1 aj).1
   obtain ⟨f1,f2,f3,f4,f5,f6,f7,cur,te,f8,f9,bp,bj,bl⟩:=h.st.row id _ aj
   cases hRs with
   | @vec _ _ _ _ p cap hid' hver hh =>
   obtain ⟨rfl,hcap,bn⟩:=hh f1.symm
   simp only [Nat.add_zero,Nat.zero_mul] at hcap ⊢
   subst hcap
   obtain ⟨ux,x1,x2⟩:=hRx.list_open (fun y hy=>(cx y hy).1)
   have m:∀ i,i<ys.length→(ux i).cells.size=sz':=fun i g=>(x1 i g).1
   have a9:(Builtin.lenOf vx).run P w = .ok ys.length w:=by
    rcases x2 with ⟨rfl | ⟨_,rfl⟩,q,_⟩ | ⟨bx,ox,cx',_,rfl,_⟩
    ·subst q;rfl
    ·subst q;rfl
    ·rfl
   have af:(flat ux ys.length).length=ys.length*f.size:=by rw [AM m,r]
   have au:(Builtin.firstCells sz' ys.length vx).run P w = .ok (flat ux ys.length).toArray w:=by
    rcases x2 with ⟨rfl | ⟨_,rfl⟩,q,_⟩ | ⟨bx,ox,cx',_,rfl,_,_,_,hcx⟩
    ·subst q;rfl
    ·subst q;simp [Builtin.firstCells,loadCells,loadCellsFrom,flat]
    ·exact run_firstCells_some w sz' ys.length ⟨bx,ox,none⟩ ys.length cx' (flat ux ys.length) (AM m) (EV (w:=w) m O hcx)
   have a3:=Mc (fun y hy=>(cx y hy).1)
   have bc:=Xb (fun i g=>(x1 i g).2) (fun y hy=>(cx y hy).2)
   have hcl:(cs.take (n'*sz')++ys.flatMap fun y=>y.pub.cells).length=(n'+ys.length)*sz':=by
    rw [List.length_append,a3,List.length_take,Nat.add_mul];omega
   have a6:∀ x∈cs.take (n'*sz')++ys.flatMap (fun y=>y.pub.cells),x.one=true:=by
    intro x hx
    rcases List.mem_append.1 hx with hx | hx
    ·exact bj x (List.mem_of_mem_take hx)
    ·exact bc x hx
   -- what the new cells stand for,in whatever block they lie
   have E:∀ (cells:Array Value) (zs:List Value),cells.toList=cur.toList.take (n'*sz')++flat ux ys.length++zs→∀ (i:Nat) (v:Value) (x:AV),cells[i]? = some v→(cs.take (n'*sz')++ys.flatMap fun y=>y.pub.cells)[i]? = some x→R w0 M w v x:=by
    intro cells zs hcl' i v x aq ao
    have a8:i<(n'+ys.length)*sz':=by rw [←hcl];exact (Aj.1 ao).1
    rw [Nat.add_mul] at a8
    have bh:(cur.toList.take (n'*sz')).length=n'*sz':=by simp;omega
    rw [←Array.getElem?_toList,hcl',List.append_assoc] at aq
    by_cases q:i<n'*sz'
    ·rw [List.getElem?_append_left (by omega),List.getElem?_take,Ah q,Array.getElem?_toList] at aq
     rw [List.getElem?_append_left (by simp;omega),List.getElem?_take,Ah q] at ao
     obtain ⟨q1,rfl⟩:=Array.getElem?_eq_some_iff.1 aq
     obtain ⟨q2,rfl⟩:=Aj.1 ao
     exact bl i q1 q2
    ·rw [List.getElem?_append_right (by omega),bh,List.getElem?_append_left (by rw [AM m];omega)] at aq
     rw [List.getElem?_append_right (by simp;omega)] at ao
     have e:(cs.take (n'*sz')).length=n'*sz':=by simp;omega
     rw [e] at ao
     exact ZjC O x1 (fun y hy=>(cx y hy).1) aq ao
   by_cases hroom:n'+ys.length≤M.cap id
   ·-- there is room
    have az:n'*sz'+(flat ux ys.length).length≤cur.size:=by rw [AM m,f9,←Nat.add_mul];exact Nat.mul_le_mul_right _ hroom
    have hrun:=VN (P:=P) (w:=w) t ty el hu a7 (M.blk id) n' (M.cap id) cur te f8 a9 (flat ux ys.length) au (Vi x1 (fun y hy=>(cx y hy).2)) hroom az
    generalize hc':(cur.toList.take (n'*sz')++flat ux ys.length++cur.toList.drop (n'*sz'+(flat ux ys.length).length)).toArray=cur' at hrun
    have av:cur'.size=cur.size:=by rw [←hc'];simp;omega
    have D:Ext w0 M w (M.growRow id (M.blk id) (M.cap id) (ver+1) 0) (w.setRow (M.blk id) cur'):=by
     refine Hq (M:=M) (M.growRow id (M.blk id) (M.cap id) (ver+1) 0) rfl (fun _ _=>rfl) rfl (fun i g=>?_) (fun b=>?_) f8 f3 (fun j hj=>by rw [f4] at hj;omega) (Mem.own_row F) (fun b=>J5 F)
     ·by_cases c:i=id
      ·subst c
       simp only [Mem.growRow,if_true,f1]
       exact ⟨by omega,fun q=>absurd q (by omega)⟩
      ·simp only [Mem.growRow,Ai c]
       exact ⟨Nat.le_refl _,fun _=>⟨trivial,trivial,trivial⟩⟩
     ·simp only [Mem.growRow]
      split
      ·rename_i c
       rw [c,f4]
       exact Nat.le_refl _
      ·exact Nat.le_refl _
    have ay:=h.st.row_lt F
    have q:(M.growRow id (M.blk id) (M.cap id) (ver+1) 0).fr id=ver+1∧(M.growRow id (M.blk id) (M.cap id) (ver+1) 0).blk id=M.blk id∧(M.growRow id (M.blk id) (M.cap id) (ver+1) 0).cap id=M.cap id∧(M.growRow id (M.blk id) (M.cap id) (ver+1) 0).rsz id=M.rsz id∧(M.growRow id (M.blk id) (M.cap id) (ver+1) 0).top (M.blk id)=0:=by simp [Mem.growRow]
    obtain ⟨q1,q2,q3,q4,q5⟩:=q
    have aa:=h.st.growRow' aj (x := .vec (ver+1) sz' (cs.take (n'*sz')++ys.flatMap fun y=>y.pub.cells)) (w':=w.setRow (M.blk id) cur') (b:=M.blk id) (cap:=M.cap id) (k:=ver+1) (tp:=0) (Below.setRow (Below.refl _ _) f3 _) (by simp) (by simpa using ay)
     (fun l hl=>⟨f5 l hl,setRow_other w _ _ _ (f5 l hl)⟩) (fun i g ax=>by
      have:M.blk i≠M.blk id:=fun q=>ax (h.st.rowinj i id g F q)
      exact ⟨this,setRow_other w _ _ _ this⟩) (by
      simp only [RowOk,q1,q2,q3,q4,q5]
      exact ⟨trivial,f2,f3,trivial,f5,f6,O,cur',te,setRow_heap w _ cur cur' te _ f8,av.trans f9,by rw [hcl,av,f9];exact Nat.mul_le_mul_right _ hroom,a6,
       fun i a b=>(E cur' _ (by rw [←hc']) i _ _ (Array.getElem?_eq_getElem a) (List.getElem?_eq_getElem b)).mono D⟩) D (KeepsObj.setRow f8 _)
    exact .value ⟨_,_,_,hrun,D,aa,.vec F (by rw [q1];exact Nat.le_refl _) fun _=>⟨by rw [q2];simp,by rw [q3];rfl,hroom⟩⟩
   ·-- a new block
    have hypos:0<ys.length:=by omega
    rcases x2 with ⟨_,q,_⟩ | ⟨bx,ox,cx',_,rfl,_,_,_,hcx⟩
    ·subst q;simp at hypos
    have K:=EV (w:=w) m O hcx
    have am:(n'+ys.length)*f.bytes≤140737488355328:=by rw [a4];exact J
    have ap:∀ (j:Nat) (u:Value),(cur.toList.take (n'*sz'))[j]? = some u→w.cell? ((⟨M.blk id,0,none⟩:Addr).add j)=some u:=by
     intro j u hj
     rw [List.getElem?_take] at hj
     split at hj
     ·rw [DU,Nat.zero_add,cell_of_row w _ j cur te _ f8,←Array.getElem?_toList];exact hj
     ·cases hj
    have aw:(cur.toList.take (n'*sz')).length=n'*f.size:=by simp;rw [r];omega
    have hrun:=run_append_grow (P:=P) w t ty el f v hu g hv ⟨M.blk id,0,none⟩ n' (M.cap id) (cur.toList.take (n'*sz')) aw ap ⟨bx,ox,none⟩ ys.length cx' (flat ux ys.length) af K (by omega) (by omega) (growslice_fits (by omega) am)
    have U:n'+ys.length≤maxLen:=by simp [maxLen];omega
    have ae:=grownCap_ge w (n'+ys.length) (M.cap id) el
    have Z:=grownCap_le_maxLen w (n'+ys.length) (M.cap id) el U
    generalize hcl':((cur.toList.take (n'*sz')).toArray++(flat ux ys.length).toArray++Builtin.zeroCells v.cells (grownCap w (n'+ys.length) (M.cap id) el-(n'+ys.length)))=cells at hrun
    have V:cells.toList=cur.toList.take (n'*sz')++flat ux ys.length++(Builtin.zeroCells v.cells (grownCap w (n'+ys.length) (M.cap id) el-(n'+ys.length))).toList:=by rw [←hcl'];simp
    generalize grownCap w (n'+ys.length) (M.cap id) el=gc at *
    have H:cells.size=gc*sz':=by
     have:cells.size=cells.toList.length:=by simp
     rw [this,V]
     simp only [List.length_append,aw,AM m,Array.length_toList,size_zeroCells,ab,r]
     rw [←Nat.add_mul,←Nat.add_mul]
     congr 1
     omega
    obtain ⟨d1,d2⟩:=h.st.drew
    have D:Ext w0 M w.drew (M.growRow id w.drew.heap.size gc (ver+1) 0) (w.drew.alloc (.cells cells el)):=by
     refine N9 _ _ (.inl rfl) (fun _ _=>rfl) (Nat.le_refl _) (fun i g=>?_) (fun b hb=>?_) (fun b hb=>ML hb)
     ·by_cases c:i=id
      ·subst c
       simp only [Mem.growRow,if_true,f1]
       exact ⟨by omega,fun q=>absurd q (by omega)⟩
      ·simp only [Mem.growRow,Ai c]
       exact ⟨Nat.le_refl _,fun _=>⟨trivial,trivial,trivial⟩⟩
     ·simp only [Mem.growRow]
      rw [Aa]
    have q:(M.growRow id w.drew.heap.size gc (ver+1) 0).fr id=ver+1∧(M.growRow id w.drew.heap.size gc (ver+1) 0).blk id=w.drew.heap.size∧(M.growRow id w.drew.heap.size gc (ver+1) 0).cap id=gc∧(M.growRow id w.drew.heap.size gc (ver+1) 0).rsz id=M.rsz id∧(M.growRow id w.drew.heap.size gc (ver+1) 0).top w.drew.heap.size=0:=by simp [Mem.growRow]
    obtain ⟨q1,q2,q3,q4,q5⟩:=q
    have a5:∀ l,l<M.N→M.bx l≠w.drew.heap.size:=fun l hl=>by have:=h.st.box_lt hl;intro q;simp at q;omega
    have aa:=d1.growRow' aj (x := .vec (ver+1) sz' (cs.take (n'*sz')++ys.flatMap fun y=>y.pub.cells)) (w':=w.drew.alloc (.cells cells el)) (b:=w.drew.heap.size) (cap:=gc) (k:=ver+1) (tp:=0) ((Below.refl _ w.drew).alloc h.st.base_le _) (by simp) (by simp)
     (fun l hl=>by have:=h.st.box_lt hl;exact ⟨a5 l hl,AW _ _ this⟩) (fun i g ax=>by have:=h.st.row_lt g;exact ⟨fun q=>by simp at q;omega,AW _ _ this⟩) (by
      simp only [RowOk,q1,q2,q3,q4,q5]
      exact ⟨trivial,f2,h.st.base_le,trivial,a5,Z,O,cells,el,heap_alloc_new w.drew _,H,by rw [hcl,H];exact Nat.mul_le_mul_right _ ae,a6,
       fun i a b=>((E cells _ V i _ _ (Array.getElem?_eq_getElem a) (List.getElem?_eq_getElem b)).mono d2).mono D⟩) D (KeepsObj.alloc _ _)
    exact .value ⟨_,_,_,hrun,d2.trans D,aa,.vec F (by rw [q1];exact Nat.le_refl _) fun _=>⟨by rw [q2];simp,by rw [q3];rfl,ae⟩⟩
  | _=>exact hob.elim
theorem Yields'.congr {s s':Sem Next} {st':St} {r:AV} (h:Yields' P w0 M st' r w s) (e:s'.run P w=s.run P w):Yields' P w0 M st' r w s':=by
 obtain ⟨v,c,M',a,b⟩:=h
 exact ⟨v,c,M',by rw [e];exact a,b⟩
theorem HJ (b:Builtin) (args:Array Operand) (ts:Array TypeId) (dst:Option Tmp) (type:TypeId) (pos:String) (after:Array Edge) (guard:Option (Nat × Bool)) (s:Sem Value)
  (hb:∀ cs,builtin b ts type cs (args.map a.eval)=(do pure (.value (← s)):Sem Next)) :
  (execOp a.eval ⟨dst,.call ⟨.builtin b,args,ts⟩,type,pos,after,guard⟩).run P w=((do pure (.value (← s)):Sem Next)).run P w:=by
 simp only [execOp,resolve,invoke,Sem.run_bind,Sem.run_pure,Result.andThen_ok]
 rw [hb]
 simp
theorem O8 {t:TypeId} (h:Hv P t=true):∃ el,P.underlying t=some (.slice el)∧P.underlying el=some (.int .u8)∧Ez P el=some (1,false):=by
 unfold Hv at h
 split at h
 ·rename_i el h1
  simp only [Bool.and_eq_true] at h
  obtain ⟨h2,h3⟩:=h
  refine ⟨el,h1,?_,?_⟩
  ·split at h2
   ·assumption
   ·cases h2
  ·split at h3
   ·assumption
   ·cases h3
 ·cases h
theorem W2 (r:Int):(Utf8.encode r).size≤4:=by
 unfold Utf8.encode
 dsimp only
 (repeat' split)<;>simp [ByteArray.size]
theorem Yj (h:Rel w0 n M e st a w) (s d:TypeId) (x:Operand) (hob:(evOp P e true st (.convert s d x)).1) :
  Yields' P w0 M (evOp P e true st (.convert s d x)).2.2 (evOp P e true st (.convert s d x)).2.1 w (do pure (.value (← convert s d (a.eval x)))):=by
 unfold evOp at hob ⊢
 cases hs:Ky P s with
 | some k1 =>
  cases hd:Ky P d with
  | some k =>
   simp only [hs,hd] at hob ⊢
   obtain ⟨r,hi,hk⟩:=hob
   obtain ⟨ex,_⟩:=(AP h r).int hi
   rw [ex]
   refine .here h.st (v := .int k (AC (Aq e x))) ?_ (.flat rfl)
   simp [convert,run_underlying (OM hs),run_underlying (OM hd),Conv.intToInt,JA hk]
  | none =>
   simp only [hs,hd] at hob ⊢
   obtain ⟨r,hi,J⟩:=hob
   obtain ⟨ex,_⟩:=(AP h r).int hi
   rw [ex]
   exact .here h.st (run_convert_int_string w s d _ _ (by rw [OM hs];rfl) (Ek J)) (.flat (Ag (Nat.le_trans (W2 _) (by decide))))
 | none =>
  simp only [hs] at hob ⊢
  by_cases z:(B6 P s&&B6 P d)=true
  ·simp only [z,if_true] at hob ⊢
   simp only [Bool.and_eq_true] at z
   obtain ⟨r,hi⟩:=hob
   have hR:=AP h r
   refine .here h.st (v:=a.eval x) ?_ hR
   obtain ⟨q,hq⟩:∃ q,Aq e x = .val (.string q):=by
    cases hv:Aq e x<;>rw [hv] at hi<;>try cases hi
    rename_i v
    cases v<;>first | exact ⟨_,rfl⟩ | cases hi
   rw [hq] at hR
   obtain ⟨ev,_⟩:=hR.val_inv
   rw [ev]
   simp [convert,run_underlying (Ek z.1),run_underlying (Ek z.2)]
  ·simp only [z,if_false,Bool.false_eq_true] at hob ⊢
   by_cases hc2:(Hv P s&&B6 P d)=true
   ·simp only [hc2,if_true] at hob ⊢
    simp only [Bool.and_eq_true] at hc2
    obtain ⟨m,H,G,aa⟩:=O8 hc2.1
    split at hob
    ·rename_i id ver o n' hx0
     cases hvr:CN st.rows id ver with
     | none=>simp [hvr] at hob
     | some q =>
     obtain ⟨Z,cs⟩:=q
     simp only [hvr] at hob ⊢
     obtain ⟨r,rfl,af,c,g⟩:=hob
     have hR:=AP h r
     rw [hx0] at hR
     obtain ⟨f1,f2,f3,f4,f5,f6,f7,K,te,f8,f9,ae,ag,V⟩:=h.st.row id _ (GN hvr)
     obtain ⟨v,hev⟩:∃ v,a.eval x=v:=⟨_,rfl⟩
     rw [hev] at hR ⊢
     cases hR with
     | @vec _ _ _ _ p cap hid hver hh =>
     obtain ⟨rfl,C,ah⟩:=hh f1.symm
     have hl:((cs.drop o).take n').length=n':=by simp;omega
     have f:(Gp ((cs.drop o).take n')).size=n':=by simp [Gp,ByteArray.size];omega
     have t:Gg (.string (Gp ((cs.drop o).take n')))=true:=by simp [Gg,maxLen,f];exact c
     have:=run_convert_bytes_back (P:=P) w s d m ⟨M.blk id,o*M.rsz id,none⟩ cap (((cs.drop o).take n').map fun x=>UInt8.ofNat (AC x).toNat) H G (Ek hc2.2) (fun j E=>by
      have F:j<n':=by rw [List.length_map,hl] at E;exact E
      have e1:((cs.drop o).take n')[j]'(by omega)=cs[o+j]'(by omega):=by simp
      have hq:=g _ (List.getElem_mem (l:=(cs.drop o).take n') (n:=j) (by omega))
      rw [e1] at hq
      have hr:=V (o+j) (by omega) (by omega)
      rw [DU,f2,Nat.mul_one,cell_of_row w _ (o+j) K te _ f8,Array.getElem?_eq_getElem (show o+j<K.size by omega)]
      simp only [List.getElem_map,e1]
      generalize cs[o+j]'(by omega)=y at hq hr
      cases y with
      | val u =>
       cases u<;>try exact hq.elim
       rename_i k n
       cases k<;>try exact hq.elim
       obtain ⟨n0,n1⟩:0≤n∧n≤255:=hq
       rw [hr.val_inv.1]
       simp only [AC]
       have:(UInt8.ofNat n.toNat).toNat=n.toNat:=by simp;omega
       rw [this]
       simp
       omega
      | _=>exact hq.elim)
     rw [List.length_map,hl] at this
     exact .here h.st (v := .string (Gp ((cs.drop o).take n'))) this (.flat t)
    rename_i hx0
    obtain ⟨r,hi,c,g⟩:=hob
    have hR:=AP h r
    obtain ⟨xs,o,ab⟩:=GG hi
    rw [ab] at hR c g ⊢
    simp only [AO] at c g ⊢
    have U:∀ y∈xs,y.cells.length=1:=fun y hy=>by
     have:=g y hy
     cases y<;>first | rfl | exact this.elim
    obtain ⟨us,h1,h2⟩:=hR.list_open U
    have f:(Gp xs).size=xs.length:=by simp [Gp,ByteArray.size]
    have t:Gg (.string (Gp xs))=true:=by simp [Gg,maxLen,f];exact c
    rcases h2 with ⟨ev | ⟨ad,ev⟩,rfl,_⟩ | ⟨b,off,cap,Z,ev,_,_,_,hcell⟩
    ·rw [ev]
     have:=run_convert_bytes_nil (P:=P) w s m H G 0 0 d (Ek hc2.2)
     exact .here h.st (v := .string ByteArray.empty) this (.flat rfl)
    ·rw [ev]
     have:=run_convert_bytes_back (P:=P) w s d m ad 0 [] H G (Ek hc2.2) (fun j E=>absurd E (by simp))
     exact .here h.st (v := .string ByteArray.empty) this (.flat rfl)
    ·rw [ev]
     have hb:∀ i (hi:i<xs.length),∃ n:Int,0≤n∧n≤255∧xs[i] = .val (.int .u8 n)∧us i = .int .u8 n:=fun i hi=>by
      have hq:=g _ (List.getElem_mem hi)
      have hr:=(h1 i hi).2
      cases hv:xs[i] with
      | val u =>
       rw [hv] at hq hr
       cases u<;>try exact hq.elim
       rename_i k n
       cases k<;>try exact hq.elim
       exact ⟨n,hq.1,hq.2,rfl,hr.val_inv.1⟩
      | _=>rw [hv] at hq;exact hq.elim
     have:=run_convert_bytes_back (P:=P) w s d m ⟨b,off,none⟩ cap (xs.map fun x=>UInt8.ofNat (AC x).toNat) H G (Ek hc2.2) (fun j E=>by
      have F:j<xs.length:=by simpa using E
      obtain ⟨n,n0,n1,e1,e2⟩:=hb j F
      have z:=hcell j F 0 (by omega)
      rw [e2] at z
      simp only [Nat.mul_one,Nat.add_zero] at z
      rw [DU,z]
      simp only [List.getElem_map,e1,AC,Value.cells]
      have:(UInt8.ofNat n.toNat).toNat=n.toNat:=by simp;omega
      rw [this]
      simp
      omega)
     simp only [List.length_map] at this
     exact .here h.st (v := .string (Gp xs)) this (.flat t)
   ·simp only [hc2,if_false,Bool.false_eq_true] at hob ⊢
    by_cases hc3:(B6 P s&&Hv P d)=true
    ·simp only [hc3,if_true] at hob ⊢
     simp only [Bool.and_eq_true] at hc3
     obtain ⟨m,H,G,aa⟩:=O8 hc3.2
     obtain ⟨_,r,hi⟩:=hob
     have hR:=AP h r
     obtain ⟨q,hq⟩:∃ q,Aq e x = .val (.string q):=by
      cases hv:Aq e x<;>rw [hv] at hi<;>try cases hi
      rename_i v
      cases v<;>first | exact ⟨_,rfl⟩ | cases hi
     rw [hq] at hR ⊢
     obtain ⟨ev,t⟩:=hR.val_inv
     rw [ev]
     simp only [ZdS]
     have Y:q.size≤maxLen:=by simpa [Gg] using t
     have N:=Lib.run_convert_string_bytes (P:=P) w s d m q (Ek hc3.1) H G
     have O:Below w.heap.size w (Lib.bytesWorld w m q):=⟨rfl,rfl,rfl,by rw [Lib.bytesWorld_size];omega,fun k hk=>Lib.bytesWorld_at_old w m q k hk⟩
     obtain ⟨r1,r2⟩:=h.st.later O w.heap.size q.size (Nat.le_refl _) (.inl (by rw [Lib.bytesWorld_size];omega))
     have C:=grownCap_ge w q.size 0 m
     have D:=grownCap_le_maxLen w q.size 0 m Y
     have c:(FD q.data.toList).length=q.size:=by simp [FD]
     refine .value ⟨_,_,_,N,r2,r1,?_⟩
     have:=R.list (w0:=w0) (M:=M.newTop w.heap.size q.size) (w:=Lib.bytesWorld w m q) (b:=w.heap.size) (off:=0) (cap:=grownCap w q.size 0 m) (xs:=FD q.data.toList) (o := .none) 1 (fun i => .int .u8 (q.data.toList.getD i 0).toNat)
      (by rw [c];exact C) D (fun i hi=>⟨rfl,fun j E=>⟨.inr (by rw [c] at hi;simp [Mem.newTop];omega),by
       rw [c] at hi
       have hj0:j=0:=by omega
       subst hj0
       simp only [Nat.mul_one,Nat.zero_add,Nat.add_zero]
       rw [Lib.bytesWorld_cell w m q i hi]
       rfl⟩⟩) (fun i hi=>by
       have Q:i<q.data.toList.length:=by rw [c] at hi;exact hi
       simp only [FD,List.getElem_map]
       rw [show q.data.toList.getD i 0=q.data.toList[i] from by simp [List.getD,List.getElem?_eq_getElem Q]]
       exact .flat rfl) trivial
     rw [c] at this
     exact this
    ·simp only [hc3] at hob
     exact hob.elim
theorem Hn {z:List AV} {sz:Nat} (hz:z.length=sz):∀ (m j:Nat) (x:AV),((List.replicate m z).flatten)[j]? = some x→0<sz∧z[j % sz]? = some x
 | 0,j,x,h=>by simp at h
 | m+1,j,x,h=>by
  rw [List.replicate_succ,List.flatten_cons] at h
  by_cases c:j<z.length
  ·rw [List.getElem?_append_left c] at h
   exact ⟨by omega,by rw [Nat.mod_eq_of_lt (by omega)];exact h⟩
  ·rw [List.getElem?_append_right (by omega)] at h
   obtain ⟨b,a⟩:=Hn hz m _ x h
   refine ⟨b,?_⟩
   rw [hz] at a
   rw [←a]
   congr 1
   rw [←Nat.mod_eq_sub_mod (by omega)]
theorem T0 (h:Rel w0 n M e st a w) (t:TypeId) (len cap:Operand) (hob:(evOp P e true st (.makeSlice t len cap)).1) :
  Yields' P w0 M (evOp P e true st (.makeSlice t len cap)).2.2 (evOp P e true st (.makeSlice t len cap)).2.1 w (do pure (.value (← Instr.makeSlice t (a.eval len) (a.eval cap)))):=by
 unfold evOp at hob ⊢
 cases he:GT P t with
 | none=>simp [he] at hob
 | some p =>
 obtain ⟨el,sz,ag,am⟩:=p
 cases hz:AZ P el with
 | none=>simp [he,hz] at hob
 | some z =>
 simp only [he,hz] at hob ⊢
 obtain ⟨_,hl,hc,il,ic,h0,h1,ab,ak,aa,C,aj⟩:=hob
 obtain ⟨H,hu,r,ad,ai⟩:=EN he
 have Z:H.size=sz:=by
  obtain ⟨i',d,h1,h2,_⟩:=Iw ai
  rw [r] at h1;cases h1;exact h2
 obtain ⟨i',v,hi',hv,s,ao,rfl⟩:=C0 hz
 rw [r] at hi';cases hi'
 obtain ⟨af,_⟩:=(AP h hl).int il
 obtain ⟨ae,_⟩:=(AP h hc).int ic
 generalize AC (Aq e len)=l at *
 generalize AC (Aq e cap)=c at *
 obtain ⟨F,rfl⟩:=Int.eq_ofNat_of_zero_le h0
 obtain ⟨f,rfl⟩:=Int.eq_ofNat_of_zero_le (Int.le_trans h0 h1)
 have b:=run_make (P:=P) w t el H v hu r hv (Ic (Aq e len)) (Ic (Aq e cap)) F f h0 h1 (by rw [ad,Int.mul_comm];omega) (by omega)
 rw [←af,←ae] at b
 simp only [Int.toNat_natCast,Z] at b
 have D:f≤maxLen:=by unfold maxLen;omega
 have K:=size_madeCells v.cells (f*sz)
 have m:RowR w0 M w v.cells (Gm v).cells:=(I4 s).cells
 have G:=(I4 (w0:=w0) (M:=M) (w:=w) s).cellsOne (fun vs e=>by have:=GZ s;rw [e] at this;cases this)
 by_cases hl0:(F:Int)=0
 ·rw [Ah hl0,Ah hl0]
  have:F=0:=by omega
  subst this
  obtain ⟨r1,r2⟩:=h.st.addRow (cs:=madeCells v.cells (f*sz)) (ty:=el) (k:=0) (sz:=sz) D (Nat.zero_le _) K
  refine .value ⟨_,_,_,b,r2,r1,?_⟩
  have O:=h.st.NR
  exact R.list (xs:=[]) sz (fun _=>undef) (Nat.zero_le _) D (fun i r=>absurd r (by simp)) (fun i r=>absurd r (by simp)) ⟨by simp [Mem.addRow,O],by simp [Mem.addRow,O],fun _=>by simp [Mem.addRow,O]⟩
 ·rw [Ai hl0,Ai hl0]
  by_cases hmk0:BX e t=true
  case neg =>
   rw [Ai hmk0,Ai hmk0]
   obtain rfl:sz=1:=by
    rcases aj with q | q | q
    ·exact absurd q hl0
    ·exact absurd q hmk0
    ·exact q
   have E:v.cells.size=1:=by rw [m.1,C]
   obtain ⟨u,hu0⟩:∃ u,v.cells[0]? = some u:=⟨_,Array.getElem?_eq_getElem (by omega)⟩
   have Y:(Gm v).cells[0]? = some (SN (Gm v).cells 0):=by
    rw [List.getElem?_eq_getElem (by omega)]
    simp [SN,List.getD,List.getElem?_eq_getElem (show 0<(Gm v).cells.length by omega)]
   have U:R w0 M w u (SN (Gm v).cells 0):=m.get hu0 Y
   have N:(SN (Gm v).cells 0).one=true:=G _ (List.mem_of_getElem? Y)
   have J:u.cells = #[u]:=(U.cells_one N).1
   obtain ⟨Q,y⟩:=h.st.newTop (madeCells v.cells (f*1)) el (f*1)
   have g:(List.replicate F (SN (Gm v).cells 0)).length=F:=List.length_replicate
   have hR:=R.row (us:=fun _=>u) (xs:=List.replicate F (SN (Gm v).cells 0)) (cs:=madeCells v.cells (f*1)) (ty:=el) (sz:=1) (k:=f*1) (cap:=f) (o := .none)
    (fun i r=>⟨by rw [J];rfl,by rw [List.getElem_replicate];exact U⟩)
    (fun i r j hj=>by
     have hi':i<F:=by rw [g] at r;exact r
     have:i*1+j<f*1:=by omega
     have h3:(madeCells v.cells (f*1))[i*1+j]? = some v.cells[(i*1+j) % v.cells.size]! := by
      simp only [madeCells,Array.getElem?_map,Array.getElem?_range,Ah this,Option.map_some]
     obtain rfl:j=0:=by omega
     rw [h3,E,Nat.mod_one,J,getElem!_pos v.cells 0 (by omega)]
     rw [Array.getElem?_eq_getElem (by omega)] at hu0
     simpa using hu0)
    (by rw [g];omega) D (by rw [g];omega) (M.newTop w.heap.size (f*1)) (by simp [Mem.newTop]) y trivial
   rw [g] at hR
   exact .value ⟨_,_,_,b,y,Q,hR⟩
  rw [Ah hmk0,Ah hmk0]
  obtain ⟨r1,r2⟩:=h.st.addVec (cs:=madeCells v.cells (f*sz)) (ty:=el) (cap:=f) (sz:=sz) (xs:=(List.replicate F (Gm v).cells).flatten) D aa K
   (by rw [K];simp only [List.length_flatten,List.map_replicate,List.sum_replicate_nat,C];exact Nat.mul_le_mul_right _ (by omega))
   (fun x y=>by
    obtain ⟨q,hq,y⟩:=List.mem_flatten.1 y
    rw [List.eq_of_mem_replicate hq] at y
    exact G x y)
   (fun i u x ah y=>by
    obtain ⟨_,h2⟩:=Hn C F i x y
    have h3:u=v.cells[i % v.cells.size]! := by
     obtain ⟨q1,q2⟩:=Array.getElem?_eq_some_iff.1 ah
     rw [←q2];simp [madeCells]
    have E:v.cells.size=sz:=by rw [m.1,C]
    have h4:v.cells[i % sz]? = some u:=by
     have V:i % sz<v.cells.size:=by rw [E];exact Nat.mod_lt _ aa
     rw [h3,E,getElem!_pos v.cells (i % sz) V,Array.getElem?_eq_getElem V]
    exact m.get h4 h2)
  refine .value ⟨_,_,_,b,r2,r1,?_⟩
  have O:=h.st.NR
  exact .vec (by simp [Mem.addRow,O]) (Nat.zero_le _) fun _=>⟨by simp [Mem.addRow,O],by simp [Mem.addRow,O],by omega⟩
theorem VQ (h:Rel w0 n M e st a w) (t:TypeId) (m:Nat) (ps:Array (Nat × Operand)) (hmk:BX e t=true) (hob:(evOp P e true st (.buildSlice t m ps)).1) :
  Yields' P w0 M (evOp P e true st (.buildSlice t m ps)).2.2 (evOp P e true st (.buildSlice t m ps)).2.1 w (do pure (.value (← Instr.buildSlice t m (ps.map fun (i,x)=>(i,a.eval x))))):=by
 unfold evOp at hob ⊢
 cases he:GT P t with
 | none=>simp [he] at hob
 | some p =>
  obtain ⟨el,sz,ag,ab⟩:=p
  simp only [he,hmk] at hob ⊢
  obtain ⟨_,D,hr,aa,b,hz,o,U⟩:=hob
  obtain ⟨i,K,g,_,E⟩:=EN he
  obtain ⟨z,O⟩:=Option.isSome_iff_exists.1 hz
  obtain ⟨i',v,l,hv,hc,hs,rfl⟩:=C0 O
  have hl:ps.toList.length=m:=by simpa using congrArg List.length hr
  have d:∀ p∈ps.toList,(a.eval p.2).cells.size=sz:=fun p J=>by
   rw [(AP h (D p J)).cells.1]
   exact o _ (List.mem_map.2 ⟨p,J,rfl⟩)
  obtain ⟨zc,hzc⟩:∃ zc:Array Value,if m*sz=0 then zc = #[] else zc=v.cells:=by
   by_cases h0:m*sz=0
   ·exact ⟨#[],by rw [Ah h0]⟩
   ·exact ⟨v.cells,by rw [Ai h0]⟩
  obtain ⟨cs',a1,a2,a3,a4⟩:=Q2 sz (ps.toList.map fun p=>a.eval p.2) 0 ((Array.range (m*sz)).map (zc[· % zc.size]!)) (fun u K=>by obtain ⟨p,J,rfl⟩:=List.mem_map.1 K;exact d p J) (by simp [hl])
  have hm:m≤maxLen:=by
   have:m*1≤m*sz:=Nat.mul_le_mul_left _ b
   simp [maxLen];omega
  let us:Nat→Value:=fun i=>(ps.toList.map fun p=>a.eval p.2).getD i undef
  have q:∀ i (g:i<(ps.toList.map fun p=>Aq e p.2).length),(us i).cells.size=sz∧R w0 M w (us i) (ps.toList.map fun p=>Aq e p.2)[i]:=fun i g=>by
   have l:i<ps.toList.length:=by simpa using g
   have N:i<ps.size:=by simpa using l
   have e1:us i=a.eval (ps.toList[i]).2:=by simp [us,List.getD,Array.getElem?_eq_getElem N]
   rw [e1]
   refine ⟨d _ (List.getElem_mem _),?_⟩
   simp only [List.getElem_map]
   exact AP h (D _ (List.getElem_mem _))
  have r:(ps.toList.map fun p=>Aq e p.2).length=m:=by simp [←hl]
  have F:=Mc (ys:=ps.toList.map fun p=>Aq e p.2) (sz:=sz) o
  rw [r] at F
  have c:cs'.size=m*sz:=by rw [a2];simp
  have s:∀ j,j<m*sz→(flat us m)[j]? = cs'[j]? := fun j hj=>by
   have hk:j / sz<m:=(Nat.div_lt_iff_lt_mul b).2 hj
   have G:=Nat.mod_lt j b
   have ej:j / sz*sz+j % sz=j:=by rw [Nat.mul_comm];exact Nat.div_add_mod j sz
   have f:=Hl (us:=us) (m:=m) (sz:=sz) (fun i g=>(q i (by rw [r];exact g)).1) (j / sz) hk (j % sz) G
   rw [ej] at f
   have Q:j / sz<ps.toList.length:=by omega
   have Y:j / sz<ps.size:=by simpa using Q
   have f2:=a4 (j / sz) (us (j / sz)) (by simp [us,List.getD,Array.getElem?_eq_getElem Y]) (j % sz) G
   rw [Nat.zero_add,ej] at f2
   rw [f,f2]
  obtain ⟨C,hx⟩:=h.st.addVec (cs:=cs') (ty:=el) (cap:=m) (sz:=sz) (xs:=(ps.toList.map fun p=>Aq e p.2).flatMap fun y=>y.pub.cells) hm b c (by rw [F,c];exact Nat.le_refl _) (Xb (fun i g=>(q i g).2) U)
   (fun i v x k V=>by
    have g:i<m*sz:=by rw [←c];exact (Array.getElem?_eq_some_iff.1 k).1
    rw [←s i g] at k
    rw [←r] at k
    exact ZjC b q o k V)
  have Z:=h.st.NR
  refine .value ⟨.slice (some ⟨w.heap.size,0,none⟩) m m,_,_,?_,hx,C,.vec (by simp [Mem.addRow,Z]) (Nat.zero_le _) fun _=>⟨by simp [Mem.addRow,Z],by simp [Mem.addRow,Z],Nat.le_refl _⟩⟩
  have e0:¬ (m*sz > 2 ^ 24):=by omega
  have H:(ps.map fun (i,x)=>(i,a.eval x)).toList=((ps.toList.map fun p=>a.eval p.2).zipIdx 0).map fun x=>(x.2,x.1):=by
   rw [Array.toList_map]
   exact SU hr a.eval
  by_cases h0:m*sz=0
  ·rw [Ah h0] at hzc
   subst hzc
   simp only [Instr.buildSlice,Sem.run_bind,run_underlying K,Result.andThen_ok,Bl E,Ai e0,Ah h0,Sem.run_pure,H,a1,newRow,run_newObj]
   rfl
  ·rw [Ai h0] at hzc
   subst hzc
   simp only [Instr.buildSlice,Sem.run_bind,run_underlying K,Result.andThen_ok,Bl E,Ai e0,Ai h0,Sem.run_pure,zeroValue,typeInfo,run_program,l,hv,H,a1,newRow,run_newObj]
   rfl
theorem Zdk (h:Rel w0 n M e st a w) (o:Oper) (hob:(evOp P e true st o.op).1) :
  Yields' P w0 M (evOp P e true st o.op).2.2 (evOp P e true st o.op).2.1 w (execOp a.eval o):=by
 obtain ⟨z,op,g,q,l,j⟩:=o
 cases op with
 | move x=>exact I8 h.st rfl (AP h hob)
 | assign x=>exact I8 h.st rfl (AP h hob)
 | pick c x y=>exact ZgX h c x y hob
 | alloc t=>exact Zcr h t hob
 | box t x=>exact ZjX h t x hob
 | build t ps=>exact Zc3 h t ps hob
 | buildSlice t m ps =>
  cases hmk:BX e t with
  | false=>exact RQ h t m ps hmk hob
  | true=>exact VQ h t m ps hmk hob
 | load t x =>
  have:=Zgq h t x hob
  have e:(evOp P e true st (.load t x)).2.2=st:=by simp only [evOp];split<;>rfl
  simp only [e]
  exact this
 | store t x v=>exact Zby h t x v hob
 | nilCheck x=>exact Vn h ⟨z,.nilCheck x,g,q,l,j⟩ x rfl hob
 | binOp op t x y u=>exact Zcf h op t x y u hob
 | unOp op t x=>exact ZfJ h op t x hob
 | convert s d x=>exact Yj h s d x hob
 | makeFunc f fi cap =>
  cases f with
  | func f=>exact W9 h f fi cap hob
  | _=>exact hob.elim
 | slice t x lo hi mx=>exact Zb5 h t x lo hi mx hob
 | makeSlice t len cap=>exact T0 h t len cap hob
 | fieldAddr t x f=>exact Ut h t x f hob
 | field t x f=>exact Zcx h t x f hob
 | indexAddr t x i=>exact UK h t x i hob
 | index t x i=>exact Zc4 h t x i hob
 | extract x i=>exact Xk h x i hob
 | makeMap t r=>exact Yw h t r hob
 | lookup t m k ok=>exact ZaA h t m k ok hob
 | mapUpdate t m k v=>exact U4 h t m k v hob
 | call c =>
  obtain ⟨callee,args,ts⟩:=c
  cases callee with
  | builtin b =>
   cases b with
   | len =>
    simp only [evOp] at hob ⊢
    split at hob
    ·rename_i x t hx ht
     obtain ⟨C,D⟩:=hob
     have ea:args = #[x]:=Array.toList_inj.1 (by simpa using hx)
     have et:ts = #[t]:=Array.toList_inj.1 (by simpa using ht)
     subst ea;subst et
     exact (ZjA h x t g C D).congr (HJ .len #[x] #[t] z g q l j _ (fun _=>by simp [builtin]))
    ·exact hob.elim
   | append =>
    simp only [evOp] at hob ⊢
    split at hob
    ·rename_i s x t t' hx ht
     obtain ⟨_,C,D,rfl,E⟩:=hob
     have ea:args = #[s,x]:=Array.toList_inj.1 (by simpa using hx)
     have et:ts = #[t,t]:=Array.toList_inj.1 (by simpa using ht)
     subst ea;subst et
     exact (Z4 h s x t g C D E).congr (HJ .append #[s,x] #[t,t] z g q l j _ (fun _=>by simp [builtin]))
    ·exact hob.elim
   | clear =>
    simp only [evOp] at hob ⊢
    split at hob
    ·rename_i x t hx ht
     have ea:args = #[x]:=Array.toList_inj.1 (by simpa using hx)
     have et:ts = #[t]:=Array.toList_inj.1 (by simpa using ht)
     subst ea;subst et
     split at hob
     ·rename_i id ver o n' el sz ag by8 ex he
      cases hvr:CN st.rows id ver with
      | none=>simp only [hvr] at hob
      | some p =>
       obtain ⟨G,cs⟩:=p
       simp only [hvr] at hob ⊢
       obtain ⟨_,C,D,E,F⟩:=hob
       exact (ZdN h x t g he ex hvr C D E F).congr (HJ .clear #[x] #[t] z g q l j _ (fun _=>by simp [builtin]))
     ·exact hob.elim
    ·exact hob.elim
   | min =>
    simp only [evOp] at hob ⊢
    split at hob
    ·rename_i x y hx
     obtain ⟨C,D,E,F,_⟩:=hob
     have ea:args = #[x,y]:=Array.toList_inj.1 (by simpa using hx)
     subst ea
     exact (ZiE h x y ts g C D E F).congr (HJ .min #[x,y] ts z g q l j _ (fun _=>by simp [builtin]))
    ·exact hob.elim
   | max =>
    simp only [evOp] at hob ⊢
    split at hob
    ·rename_i x y hx
     obtain ⟨C,D,E,F⟩:=hob
     have ea:args = #[x,y]:=Array.toList_inj.1 (by simpa using hx)
     subst ea
     exact (Zi1 h x y ts g C D E F).congr (HJ .max #[x,y] ts z g q l j _ (fun _=>by simp [builtin]))
    ·exact hob.elim
   | _=>exact hob.elim
  | _=>exact hob.elim
 | _=>exact hob.elim
end
def FW (ro:Option Nat):Fence:={ Fence.wide with round:=ro }
theorem KF (ro:Option Nat) (f:FuncId):(FW ro).fn f:=trivial
theorem NT (ro:Option Nat):(FW ro).depth.isSome=true→∀ n,1≤n:=fun h=>by cases h
theorem Ns {ro:Option Nat} {n:Nat} {P:Program} {f:FuncId} {args:Array Value} {w:World} {Q:Ending→World→Prop} (h:Calls P f args w Q):CallsIn (FW ro) n P f args w Q:=by
 cases ro with
 | none=>exact callsIn_wide.2 h
 | some l=>exact CallsIn.inRound (F:=Fence.wide) l (callsIn_wide.2 h)
theorem O9 {n:Nat} {P:Program} {f:FuncId} {args:Array Value} {w:World} {Q:Ending→World→Prop} (h:CallsIn (FW none) n P f args w Q):Calls P f args w Q:=callsIn_wide.1 h
def IB (P:Program) (f:FuncId):Prop:=∀ args w,(callFunc f args).run P w = .ok (.enter f args) w
def Comes' (w0:World) (M:Mem) (w:World) (Post:AV→St→Prop) (en:Ending) (w':World):Prop :=
 ∃ v M' r st',en = .returned v∧Post r st'∧Ext w0 M w M' w'∧RelSt w0 M' st' w'∧R w0 M' w' v r
def ACalls (P:Program) (w0:World) (f:FuncId) (args:List AV) (st:St) (Post:AV→St→Prop):Prop :=
 IB P f∧∀ (M:Mem) (w:World) (vals:Array Value),RelSt w0 M st w→RowR w0 M w vals args→Calls P f vals w (Comes' w0 M w Post)
theorem Comes'.mono {w0:World} {M:Mem} {w:World} {Post Post':AV→St→Prop} (hp:∀ r s,Post r s→Post' r s) {en:Ending} {w':World} (h:Comes' w0 M w Post en w'):Comes' w0 M w Post' en w' :=
 let ⟨v,M',r,st',a1,a2,a3,a4,a5⟩:=h;⟨v,M',r,st',a1,hp _ _ a2,a3,a4,a5⟩
theorem ACalls.mono {P:Program} {w0:World} {f:FuncId} {args:List AV} {st:St} {Post Post':AV→St→Prop} (h:ACalls P w0 f args st Post) (hp:∀ r s,Post r s→Post' r s):ACalls P w0 f args st Post' :=
 ⟨h.1,fun M w a b c=>(h.2 M w a b c).mono fun _ _ h=>h.mono hp⟩
def Nb (P:Program) (w0:World) (k:Nat) (args:List AV) (st:St) (Post:AV→St→Prop):Prop :=
 ∀ (M:Mem) (w:World) (vals:Array Value),RelSt w0 M st w→RowR w0 M w vals args →
  ∃ fn tmps asg body,(Instr.yield (M.lb k) vals).run P w = .ok (.round (M.lb k) fn tmps asg body) w∧∀ n,RoundIn Fence.wide n P (M.lb k) fn tmps asg body w (Comes' w0 M w Post)
def Hu (P:Program) (w0:World) (fv:AV) (args:List AV) (st:St) (Post:AV→St→Prop):Prop :=
 match fv with
 | .clo f cs=>ACalls P w0 f (args++cs) st Post
 | .yld k=>Nb P w0 k args st Post
 | _=>False
def Du (e:Env) (dst:Option Nat) (c:Bool) (v:AV):Env :=
 match dst with
 | some d=>(d,c,v)::e
 | none=>e
def dstOk (n:Nat):Option Nat→Prop
 | some d=>d<n
 | none=>True
def AL (all:List Oper) (e:Env):Option (Nat × Bool)→Bool
 | none=>true
 | some (j,want)=>match (all[j]?).bind (·.dst) with
  | some d=>match look e d with
   | some (cj,.val (.bool b))=>cj&&(b == want)
   | _=>false
  | none=>false
def guardOk (all:List Oper) (e:Env):Option (Nat × Bool)→Prop
 | none=>True
 | some (j,_)=>match (all[j]?).bind (·.dst) with
  | some d=>match look e d with
   | some (_,v)=>PO v=true
   | none=>False
  | none=>False
def He:List Operand→List Nat
 | []=>[]
 | .tmp t::r=>t::He r
 | _::r=>He r
def ZdO (all:List Oper):Option (Nat × Bool)→List Nat
 | none=>[]
 | some (j,_)=>((all[j]?).bind (·.dst)).toList
def looks (all:List Oper) (o:Oper):List Nat:=1000000::(He o.op.operands.toList++ZdO all o.guard)
def AK (d:Bool) (all:List Oper) (o:Oper) (e:Env):Env:=if d then DD (looks all o) e else e
def I3 (P:Program) (w0:World) (c d:Bool) (fv:AV) (args:List AV) (st:St) (k:AV→St→Prop):Prop :=
 (∃ v,(c=true→Hu P w0 fv args st fun r s=>r=v∧s=st)∧k v st) ∨
 (d=false∧∃ Post,(c=true→Hu P w0 fv args st Post)∧∀ v st',(c=true→Post v st')→(c=false→st'=st)→k v st')
theorem Lt {P:Program} {w0:World} {c d:Bool} {f:FuncId} {cs args:List AV} {st:St} {k:AV→St→Prop} (v:AV)
  (h:ACalls P w0 f (args++cs) st fun r s=>r=v∧s=st) (hk:k v st):I3 P w0 c d (.clo f cs) args st k := .inl ⟨v,fun _=>h,hk⟩
theorem Qa {P:Program} {w0:World} {f:FuncId} {cs args:List AV} {st:St} {k:AV→St→Prop} (Post:AV→St→Prop)
  (h:ACalls P w0 f (args++cs) st Post) (hk:∀ v s,Post v s→k v s):I3 P w0 true false (.clo f cs) args st k := .inr ⟨rfl,Post,fun _=>h,fun v s a _=>hk v s (a rfl)⟩
theorem WC {P:Program} {w0:World} {c:Bool} {i:Nat} {args:List AV} {st:St} {k:AV→St→Prop} (Post:AV→St→Prop)
  (h:c=true→Nb P w0 i args st Post) (hk:∀ v s,(c=true→Post v s)→(c=false→s=st)→k v s):I3 P w0 c false (.yld i) args st k := .inr ⟨rfl,Post,h,hk⟩
def argP (e:Env) (x:AV):AV:=if BX e 0=true then x else x.pub
theorem R.argP {w0:World} {M:Mem} {w:World} {v:Value} {x:AV} (e:Env) (h:R w0 M w v x):R w0 M w v (Go.Ev.argP e x):=by
 unfold Go.Ev.argP
 split
 ·exact h
 ·exact h.pub
def Ph (e:Env) (g:Nat):AV :=
 match look e (2000000+g) with
 | some (_,x)=>x
 | none => .junk
def KE (P:Program) (w0:World) (t:TypeId) (g:Nat) (x:AV):Prop :=
 ∀ (M:Mem) (w:World),Below w0.heap.size w0 w→∃ v,(Instr.loadAt t (.pointer (some ⟨g,0,none⟩))).run P w = .ok v w∧R w0 M w v x
def Ws (P:Program) (w0:World) (n:Nat) (d:Bool) (all:List Oper) (R:List Oper→Env→St→Prop) (K:Env→St→Prop):List Oper→Env→St→Prop
 | [],e,st=>K e st
 | o::os,e,st =>
  guardOk all (AK d all o e) o.guard∧dstOk n o.dst ∧
  match o.op with
  | .call ⟨.value f,args,_⟩ =>
   (AL all (AK d all o e) o.guard=true→argOk (AK d all o e) true f∧∀ x∈args.toList,argOk (AK d all o e) true x) ∧
   I3 P w0 (AL all (AK d all o e) o.guard) d (Aq (AK d all o e) f) (args.toList.map fun x=>argP (AK d all o e) (Aq (AK d all o e) x)) st
    fun v st'=>R os (Du e o.dst (AL all (AK d all o e) o.guard) v) st'
  | .load t (.global g)=>(d=false∧(AL all (AK d all o e) o.guard=true→KE P w0 t g (Ph e g)))∧Ws P w0 n d all R K os (Du e o.dst (AL all (AK d all o e) o.guard) (Ph e g)) st
  | op=>match evOp P (AK d all o e) (AL all (AK d all o e) o.guard) st op with
   | (ob,v,st')=>(AL all (AK d all o e) o.guard=true→ob)∧((AL all (AK d all o e) o.guard=false∨d=true)→st'=st)∧Ws P w0 n d all R K os (Du e o.dst (AL all (AK d all o e) o.guard) v) st'
def MC (P:Program) (w0:World) (n:Nat) (d:Bool) (all:List Oper) (K:Env→St→Prop):Nat→List Oper→Env→St→Prop
 | 0,_,_,_=>False
 | c+1,os,e,st=>Ws P w0 n d all (MC P w0 n d all K c) K os e st
theorem Ap {P:Program} {w0:World} {n:Nat} {d:Bool} {all:List Oper} {K:Env→St→Prop} {c:Nat} {os:List Oper} {e:Env} {st:St}:MC P w0 n d all K (c+1) os e st=Ws P w0 n d all (MC P w0 n d all K c) K os e st:=rfl
def GA:Op→Bool
 | .call ⟨.value _,_,_⟩=>true
 | _=>false
def ZV:Op→Bool
 | .load _ (.global _)=>true
 | _=>false
theorem Oq {P:Program} {w0:World} {n:Nat} {d:Bool} {all:List Oper} {R:List Oper→Env→St→Prop} {K:Env→St→Prop} {o:Oper} {os:List Oper} {e:Env} {st:St} (hc:¬ GA o.op=true) (hgl:¬ ZV o.op=true) :
  Ws P w0 n d all R K (o::os) e st=(guardOk all (AK d all o e) o.guard∧dstOk n o.dst∧match evOp P (AK d all o e) (AL all (AK d all o e) o.guard) st o.op with
   | (ob,v,st')=>(AL all (AK d all o e) o.guard=true→ob)∧((AL all (AK d all o e) o.guard=false∨d=true)→st'=st)∧Ws P w0 n d all R K os (Du e o.dst (AL all (AK d all o e) o.guard) v) st'):=by
 obtain ⟨dst,op,b,c,a,guard⟩:=o
 cases op with
 | call cc =>
  obtain ⟨callee,args,ts⟩:=cc
  cases callee with
  | value f=>exact absurd rfl hc
  | _=>rfl
 | load t y =>
  cases y with
  | global g=>exact absurd rfl hgl
  | _=>rfl
 | _=>rfl
section
variable {P:Program} {w0:World} {n:Nat} {M:Mem} {e:Env} {st:St} {a:Act} {w:World}
theorem OV (h:Rel w0 n M e st a w) (ro:Option Nat) (m:Nat) (o:Oper) (hob:(evOp P e true st o.op).1) (Q:Exit→Act→World→Prop) (K:Act→World→Prop)
  (hK:∀ v w' M',Ext w0 M w M' w'→RelSt w0 M' (evOp P e true st o.op).2.2 w'→R w0 M' w' v (evOp P e true st o.op).2.1→K (a.put o.dst v) w'):o.wpIn (FW ro) m P a w K Q:=by
 have hd:∀ c,o.op ≠ .defer c:=by
  intro c j
  rw [j] at hob
  exact hob
 obtain ⟨v,w',M',b,d,g,i⟩:=Zdk (P:=P) h o hob
 refine ⟨fun f _=>KF ro f,?_⟩
 have hs:Oper.semAt (FW ro).round a.eval o=execOp a.eval o:=by
  cases ro with
  | none=>rfl
  | some l=>exact Oper.semAt_some l a.eval o hd
 rw [hs]
 rcases b with b | ⟨b,rfl⟩
 ·rw [b];exact hK v w' M' d g i
 ·rw [b];exact hK _ w' M' d g i
theorem Un {v:Value} {f:FuncId} {xs:List AV} (h:R w0 M w v (.clo f xs)):∃ cs,v = .func (.func f) #[] cs∧RowR w0 M w cs xs:=by
 cases h with
 | clo hl h=>exact ⟨_,rfl,hl,h⟩
theorem Zg1 {v:Value} {k:Nat} (h:R w0 M w v (.yld k)):v = .func (.yield (M.lb k)) #[] #[]:=by
 cases h with
 | yld hk=>rfl
theorem ZfU (h:Rel w0 n M e st a w) {args:Array Operand} (hargs:∀ x∈args.toList,argOk e true x):RowR w0 M w (args.map a.eval) (args.toList.map fun x=>argP e (Aq e x)):=by
 refine .mk (by simp) (fun i u y hu hy=>?_)
 by_cases c:i<args.size
 ·simp only [Array.getElem?_map,Array.getElem?_eq_getElem c,Option.map_some,Option.some.injEq] at hu
  simp only [List.getElem?_map,Array.getElem?_toList,Array.getElem?_eq_getElem c,Option.map_some,Option.some.injEq] at hy
  subst hu;subst hy
  exact (AP h (hargs _ (by simp))).argP e
 ·simp [Array.getElem?_eq_none (Nat.le_of_not_lt c)] at hu
theorem RowR.append {cs ds:Array Value} {xs ys:List AV} (h:RowR w0 M w cs xs) (k:RowR w0 M w ds ys):RowR w0 M w (cs++ds) (xs++ys):=by
 refine .mk (by simp [h.1,k.1]) (fun i u y a b=>?_)
 by_cases c:i<cs.size
 ·rw [Array.getElem?_append_left c] at a
  rw [List.getElem?_append_left (h.1▸c)] at b
  exact h.get a b
 ·rw [Array.getElem?_append_right (by omega)] at a
  rw [List.getElem?_append_right (by have:=h.1;omega)] at b
  rw [h.1] at a
  exact k.get a b
theorem Iq (h:Rel w0 n M e st a w) (ro:Option Nat) (m:Nat) {dst:Option Tmp} {f:Operand} {args:Array Operand} {ts:Array TypeId} {type:TypeId} {pos:String} {after:Array Edge} {guard:Option (Nat × Bool)}
  (hf:argOk e true f) (hargs:∀ x∈args.toList,argOk e true x) {Post:AV→St→Prop} (hv:Hu P w0 (Aq e f) (args.toList.map fun x=>argP e (Aq e x)) st Post) (Q:Exit→Act→World→Prop) (K:Act→World→Prop)
  (hK:∀ r s,Post r s→∀ v w' M',Ext w0 M w M' w'→RelSt w0 M' s w'→R w0 M' w' v r→K (a.put dst v) w') :
  (⟨dst,.call ⟨.value f,args,ts⟩,type,pos,after,guard⟩:Oper).wpIn (FW ro) m P a w K Q:=by
 have i:=ZfU h hargs
 have p:=AP h hf
 refine ⟨fun f _=>KF ro f,?_⟩
 have hs:Oper.semAt (FW ro).round a.eval ⟨dst,.call ⟨.value f,args,ts⟩,type,pos,after,guard⟩=execOp a.eval ⟨dst,.call ⟨.value f,args,ts⟩,type,pos,after,guard⟩:=by
  cases ro with
  | none=>rfl
  | some l=>exact Oper.semAt_some l a.eval _ (fun c hh=>by cases hh)
 rw [hs]
 cases hx:Aq e f with
 | clo g xs =>
  rw [hx] at p hv
  obtain ⟨cs,ef,E⟩:=Un p
  have b:(execOp a.eval ⟨dst,.call ⟨.value f,args,ts⟩,type,pos,after,guard⟩).run P w = .ok (.enter g (args.map a.eval++cs)) w:=by
   simp [execOp,resolve,ef,Deferred.ofValue,invoke,hv.1 (args.map a.eval++cs) w]
  rw [b]
  refine ⟨fun q=>NT ro q m,Ns ((hv.2 M w _ h.st (i.append E)).mono ?_)⟩
  rintro en w' ⟨y,M',r,s,rfl,u,t,z,D⟩
  exact hK r s u y w' M' t z D
 | yld k =>
  rw [hx] at p hv
  have ef:=Zg1 p
  obtain ⟨G,j,C,o,H,d⟩:=hv M w _ h.st i
  have b:(execOp a.eval ⟨dst,.call ⟨.value f,args,ts⟩,type,pos,after,guard⟩).run P w = .ok (.round (M.lb k) G j C o) w:=by
   simp [execOp,resolve,ef,Deferred.ofValue,invoke,H]
  rw [b]
  refine ⟨fun q=>NT ro q m,?_⟩
  have:=d (m-1)
  refine RoundIn.mono (F:=FW ro) (by cases ro<;>exact this) ?_
  rintro en w' ⟨y,M',r,s,rfl,u,t,z,D⟩
  exact hK r s u y w' M' t z D
 | _=>rw [hx] at hv;exact hv.elim
theorem EM (a:Act) (dst:Option Nat) (v:Value) (s:Nat) (hd:dstOk a.tmps.size dst):(a.put dst v).tmps.getD s undef=if dst=some s then v else a.tmps.getD s undef:=by
 cases dst with
 | none=>simp [Act.put]
 | some d =>
  simp only [dstOk] at hd
  simp only [Act.put,Option.some.injEq]
  by_cases c:d=s
  ·subst c
   simp [hd]
  ·rw [Ai c]
   simp [Array.getElem?_setIfInBounds_ne c]
theorem JC (a:Act) (dst:Option Nat) (v:Value):(a.put dst v).tmps.size=a.tmps.size:=by cases dst<;>simp [Act.put]
theorem Ea (a:Act) (dst:Option Nat) (v:Value):(a.put dst v).defers=a.defers:=by cases dst<;>rfl
theorem Rel.put (h:Rel w0 n M e st a w) {M':Mem} {w':World} {st':St} (hx:Ext w0 M w M' w') (hst:RelSt w0 M' st' w') {dst:Option Nat} (hd:dstOk n dst) {c:Bool} {v:Value} {r:AV} (hv:entryOk w0 M' w' v (c,r)) :
  Rel w0 n M' (Du e dst c r) st' (a.put dst v) w':=by
 refine ⟨hst,by rw [JC];exact h.size,fun s x hs=>?_⟩
 rw [EM a dst v s (by rw [h.size];exact hd)]
 cases dst with
 | none=>exact (h.env s x hs).mono hx
 | some d =>
  simp only [Du,look] at hs
  simp only [Option.some.injEq]
  by_cases q:d=s
  ·rw [Ah q] at hs ⊢
   cases hs
   exact hv
  ·rw [Ai q] at hs ⊢
   exact (h.env s x hs).mono hx
theorem TY {ops:Array Oper} {ts:Array Value} {j d:Nat} (h:(ops[j]?).bind (·.dst)=some d):yielded ops ts j=match ts.getD d undef with | .bool b=>some b | _=>none:=by
 unfold yielded
 simp only [h]
 rw [Array.getD_eq_getD_getElem?]
 change (match ts[(d:Nat)]? with | some (.bool b)=>some b | _=>none)=_
 cases ts[(d:Nat)]? with
 | none=>rfl
 | some v=>cases v<;>rfl
theorem Jh (h:Rel w0 n M e st a w) {all:List Oper} {o:Oper} (hg:guardOk all e o.guard):Region.wanted o (yielded all.toArray a.tmps)=AL all e o.guard:=by
 unfold Region.wanted AL
 cases hgd:o.guard with
 | none=>rfl
 | some p =>
  obtain ⟨j,want⟩:=p
  rw [hgd] at hg
  simp only [guardOk] at hg
  have f:(all.toArray[j]?).bind (·.dst)=(all[j]?).bind (·.dst):=by simp
  dsimp only
  cases hd:(all[j]?).bind (·.dst) with
  | none=>simp [hd] at hg
  | some d =>
   rw [TY (f.trans hd)]
   simp only [hd] at hg ⊢
   cases hl:look e d with
   | none=>simp [hl] at hg
   | some x =>
    obtain ⟨cj,v⟩:=x
    simp only [hl] at hg ⊢
    have c:=h.env d _ hl
    cases v with
    | val u =>
     cases u<;>try cases hg
     rename_i b
     unfold entryOk at c
     cases cj with
     | true =>
      rw [Ah rfl] at c
      obtain ⟨e1,_⟩:=c.val_inv
      rw [e1]
      cases b<;>cases want<;>rfl
     | false =>
      rw [Ai (by simp)] at c
      rw [c]
      rfl
    | _=>cases hg
def TZ (e' e:Env):Prop:=∀ s x,look e' s=some x→look e s=some x
theorem Rel.sub {e':Env} (h:Rel w0 n M e st a w) (hs:TZ e' e):Rel w0 n M e' st a w:=⟨h.st,h.size,fun s x b=>h.env s x (hs s x b)⟩
theorem GI:∀ (K:List Nat) (e:Env) (s:Nat) (x:Bool × AV),look (DD K e) s=some x→look e s=some x
 | [],_,_,_,h=>by simp [DD,look] at h
 | k::K,e,s,x,h=>by
  simp only [DD] at h
  cases hk:look e k with
  | none =>
   simp only [hk] at h
   exact GI K e s x h
  | some y =>
   obtain ⟨c,v⟩:=y
   simp only [hk,look] at h
   by_cases q:k=s
   ·rw [Ah q] at h
    subst q
    rw [hk];exact h
   ·rw [Ai q] at h
    exact GI K e s x h
theorem EW (K:List Nat) (e:Env):TZ (DD K e) e:=GI K e
theorem Ie:∀ (K:List Nat) (e:Env) (s:Nat) (x:Bool × AV),look (DD K e) s=some x→s∈K
 | [],_,_,_,h=>by simp [DD,look] at h
 | k::K,e,s,x,h=>by
  simp only [DD] at h
  cases hk:look e k with
  | none =>
   simp only [hk] at h
   exact List.mem_cons_of_mem _ (Ie K e s x h)
  | some y =>
   obtain ⟨c,v⟩:=y
   simp only [hk,look] at h
   by_cases q:k=s
   ·exact q▸List.mem_cons_self
   ·rw [Ai q] at h
    exact List.mem_cons_of_mem _ (Ie K e s x h)
theorem ZcY (d:Bool) (all:List Oper) (o:Oper) (e:Env):TZ (AK d all o e) e:=by
 unfold AK
 split
 ·exact EW _ _
 ·exact fun _ _ h=>h
theorem Ig (ro:Option Nat) (m:Nat) (d:Bool) (all:List Oper) (KK:Env→St→Prop) (Q:Exit→Act→World→Prop):∀ (c:Nat) (os:List Oper) (e:Env) (st:St) (a:Act) (w:World) (M:Mem),Rel w0 n M e st a w →
  MC P w0 n d all KK c os e st→(∀ e' st' a' w' M',KK e' st'→Rel w0 n M' e' st' a' w'→Ext w0 M w M' w'→a'.defers=a.defers→Q .normal a' w')→wpListIn (FW ro) m P all.toArray Q os a w
 | 0,_,_,_,_,_,_,_,h,_=>h.elim
 | c+1,os,e,st,a,w,M,hr,h,C=>by
  have O:∀ (os:List Oper) (e:Env) (st:St) (a:Act) (w:World) (M:Mem),Rel w0 n M e st a w→Ws P w0 n d all (MC P w0 n d all KK c) KK os e st →
    (∀ e' st' a' w' M',KK e' st'→Rel w0 n M' e' st' a' w'→Ext w0 M w M' w'→a'.defers=a.defers→Q .normal a' w')→wpListIn (FW ro) m P all.toArray Q os a w:=by
   intro os
   induction os with
   | nil=>exact fun e st a w M hr h C=>C e st a w M h hr (.refl _ _ _) rfl
   | cons o os ih =>
    intro e st a w M hr h C
    have hv:=ZcY d all o e
    have j:=hr.sub hv
    by_cases hc:GA o.op=true
    ·obtain ⟨dst,op,type,pos,after,guard⟩:=o
     cases op<;>try cases hc
     rename_i cc
     obtain ⟨callee,args,ts⟩:=cc
     cases callee<;>try cases hc
     rename_i f
     simp only [Ws] at h
     obtain ⟨E,hd,x,z⟩:=h
     unfold wpListIn
     rw [Jh j E]
     have go:∀ v s,MC P w0 n d all KK c os (Du e dst (AL all (AK d all ⟨dst,.call ⟨.value f,args,ts⟩,type,pos,after,guard⟩ e) guard) v) s→∀ u w' M',Ext w0 M w M' w'→RelSt w0 M' s w' →
       entryOk w0 M' w' u (AL all (AK d all ⟨dst,.call ⟨.value f,args,ts⟩,type,pos,after,guard⟩ e) guard,v)→wpListIn (FW ro) m P all.toArray Q os (a.put dst u) w':=by
      intro v s H u w' M' hx hst hu
      exact Ig ro m d all KK Q c os _ _ _ _ M' (hr.put hx hst hd hu) H (fun e' st' a' i b p k G N=>C e' st' a' i b p k (hx.trans G) (N.trans (Ea a dst u)))
     cases hcc:AL all (AK d all ⟨dst,.call ⟨.value f,args,ts⟩,type,pos,after,guard⟩ e) guard with
     | true =>
      rw [hcc] at x z go
      obtain ⟨V,U⟩:=x rfl
      rw [Ah rfl]
      rcases z with ⟨v,p,k⟩ | ⟨_,Post,p,k⟩
      ·refine Iq j ro m V U (p rfl) Q _ (fun r s J u w' M' hx hst hu=>?_)
       obtain ⟨rfl,rfl⟩:=J
       exact go _ _ k u w' M' hx hst hu
      ·exact Iq j ro m V U (p rfl) Q _ (fun r s J u w' M' hx hst hu=>go _ _ (k r s (fun _=>J) (fun q=>by cases q)) u w' M' hx hst hu)
     | false =>
      rw [hcc] at x z go
      rw [Ai (by simp)]
      refine ⟨fun g _=>KF ro g,?_⟩
      rcases z with ⟨v,p,k⟩ | ⟨_,Post,p,k⟩
      ·exact go _ _ k undef w M (.refl _ _ _) hr.st rfl
      ·exact go .junk st (k .junk st (fun q=>by cases q) (fun _=>rfl)) undef w M (.refl _ _ _) hr.st rfl
    by_cases hgl:ZV o.op=true
    ·obtain ⟨dst,op,type,pos,after,guard⟩:=o
     cases op<;>try cases hgl
     rename_i t y
     cases y<;>try cases hgl
     rename_i g
     simp only [Ws] at h
     obtain ⟨E,hd,⟨_,x⟩,z⟩:=h
     unfold wpListIn
     rw [Jh j E]
     cases hcc:AL all (AK d all ⟨dst,.load t (.global g),type,pos,after,guard⟩ e) guard with
     | true =>
      rw [hcc] at x z
      rw [Ah rfl]
      obtain ⟨v,p,k⟩:=x rfl M w hr.st.below
      refine ⟨fun f _=>KF ro f,?_⟩
      have hs:Oper.semAt (FW ro).round a.eval ⟨dst,.load t (.global g),type,pos,after,guard⟩=execOp a.eval ⟨dst,.load t (.global g),type,pos,after,guard⟩:=by
       cases ro with
       | none=>rfl
       | some l=>exact Oper.semAt_some l a.eval _ (fun c hh=>by cases hh)
      have F:(execOp a.eval ⟨dst,.load t (.global g),type,pos,after,guard⟩).run P w = .ok (.value v) w:=by
       have Z:a.eval (.global g) = .pointer (some ⟨g,0,none⟩):=rfl
       simp [execOp,Z,p]
      rw [hs,F]
      exact ih _ _ _ _ M (hr.put (.refl _ _ _) hr.st hd (c:=true) (show entryOk w0 M w v (true,_) from k)) z (fun e' st' a' i b q1 q2 q3 K=>C e' st' a' i b q1 q2 q3 (K.trans (Ea a dst v)))
     | false =>
      rw [hcc] at z
      rw [Ai (by simp)]
      refine ⟨fun f _=>KF ro f,ih _ _ _ _ M (hr.put (.refl _ _ _) hr.st hd (c:=false) (show entryOk w0 M w undef (false,_) from rfl)) z (fun e' st' a' i b q1 q2 q3 K=>C e' st' a' i b q1 q2 q3 (K.trans (Ea a dst undef)))⟩
    ·rw [Oq hc hgl] at h
     obtain ⟨E,hd,x,Y,D⟩:=h
     unfold wpListIn
     rw [Jh j E]
     have go:∀ u w' M',Ext w0 M w M' w'→RelSt w0 M' (evOp P (AK d all o e) (AL all (AK d all o e) o.guard) st o.op).2.2 w' →
       entryOk w0 M' w' u (AL all (AK d all o e) o.guard,(evOp P (AK d all o e) (AL all (AK d all o e) o.guard) st o.op).2.1)→wpListIn (FW ro) m P all.toArray Q os (a.put o.dst u) w':=by
      intro u w' M' hx hst hu
      exact ih _ _ _ _ M' (hr.put hx hst hd hu) D (fun e' st' a' i b p k G N=>C e' st' a' i b p k (hx.trans G) (N.trans (Ea a o.dst u)))
     cases hcc:AL all (AK d all o e) o.guard with
     | true =>
      rw [hcc] at x go
      rw [Ah rfl]
      exact OV j ro m o (x rfl) Q _ (fun v w' M' hx hst hv=>go v w' M' hx hst hv)
     | false =>
      rw [hcc] at Y go
      rw [Ai (by simp)]
      refine ⟨fun g _=>KF ro g,go undef w M (.refl _ _ _) ?_ rfl⟩
      have q:(evOp P (AK d all o e) false st o.op).2.2=st:=Y (.inl rfl)
      rw [q]
      exact hr.st
  exact O os e st a w M hr h C
end
def Marked (W0:World) (ds:List Deferred) (w:World):Prop :=
 ∃ Ds:List Nat,Ds.Nodup∧ds=Ds.map (fun D=>{ target := .collected D,args := #[] })∧∀ D∈Ds,W0.heap.size≤D∧w.heap[D]? = some (.deferred (some []))
abbrev AQ:=Exit→Env→St→Prop
structure At (w0:World) (n:Nat) (M0:Mem) (W0:World) (e:Env) (st:St) (a:Act) (w:World) (M:Mem):Prop where
 rel:Rel w0 n M e st a w
 ext:Ext w0 M0 W0 M w
 marks:Marked W0 a.defers w
def Zll (w0:World) (n:Nat) (M0:Mem) (W0:World) (Q:AQ) (x:Exit) (a':Act) (w':World):Prop :=
 ∃ M' e' st',At w0 n M0 W0 e' st' a' w' M'∧Q x e' st'
def Da (P:Program) (w0:World) (n:Nat) (M0:Mem) (W0:World) (ro:Option Nat) (c:Code) (Q:AQ) (e:Env) (st:St):Prop :=
 ∀ m M a w,At w0 n M0 W0 e st a w M→c.wpIn (FW ro) m P (Zll w0 n M0 W0 Q) a w
def SK (K:Env→St→Prop) (Q:AQ):AQ
 | .normal,e,st=>K e st
 | x,e,st=>Q x e st
def LC (id:Nat) (Q:AQ):AQ
 | .exit i,e,st=>if i=id then Q .normal e st else Q (.exit i) e st
 | x,e,st=>Q x e st
section
variable {P:Program} {w0:World} {n:Nat} {M0:Mem} {W0:World} {ro:Option Nat} {Q:AQ} {e:Env} {st:St}
theorem Zch {c:Code} {Q':AQ} (h:Da P w0 n M0 W0 ro c Q e st) (hq:∀ x e s,Q x e s→Q' x e s):Da P w0 n M0 W0 ro c Q' e st :=
 fun m M a w i=>wpIn_mono (h m M a w i) fun _ _ _ ⟨M',f,d,b,g⟩=>⟨M',f,d,b,hq _ _ _ g⟩
theorem At.sub {M:Mem} {a:Act} {w:World} {e':Env} (h:At w0 n M0 W0 e st a w M) (hs:TZ e' e):At w0 n M0 W0 e' st a w M:=⟨h.rel.sub hs,h.ext,h.marks⟩
theorem Marked.later {M M':Mem} {ds:List Deferred} {w w':World} (h:Marked W0 ds w) (hx:Ext w0 M w M' w') (hl:RelSt w0 M st w):Marked W0 ds w':=by
 obtain ⟨Ds,f,i,c⟩:=h
 refine ⟨Ds,f,i,fun D a=>⟨(c D a).1,hx.objs D _ (c D a).2 rfl fun k g e=>?_⟩⟩
 have b:k<st.loops.length:=by rw [←hl.loop.NL];exact g
 obtain ⟨_,d⟩:=hl.loop.record k _ (List.getElem?_eq_getElem b)
 rw [e] at d
 exact d.nodef (c D a).2
theorem Zl {c:Code} (e':Env) (h:Da P w0 n M0 W0 ro c Q e' st) (hs:TZ e' e):Da P w0 n M0 W0 ro c Q e st:=fun m M a w b=>h m M a w (b.sub hs)
theorem Av (c:Nat) (L:List Nat) {id:Nat} {l:List Oper} (h:MC P w0 n false l (fun e' st'=>Q .normal (DD L e') st') c l e st):Da P w0 n M0 W0 ro (.region id l.toArray false) Q e st:=by
 intro m M a w b
 refine wpIn_region_lit (Ig ro m false l _ _ c l e st a w M b.rel h fun e' st' k j M' g i d f=>⟨M',_,_,⟨i.sub (EW L _),b.ext.trans d,?_⟩,g⟩)
 rw [f]
 exact b.marks.later d b.rel.st
theorem C7 (h:Q .normal e st):Da P w0 n M0 W0 ro .skip Q e st:=fun _ M _ _ a=>wpIn_skip ⟨M,e,st,a,h⟩
theorem Iy {id:Nat} (h:Q (.exit id) e st):Da P w0 n M0 W0 ro (.exit id) Q e st:=fun _ M _ _ a=>wpIn_exit ⟨M,e,st,a,h⟩
theorem BB (h:Q .ret e st):Da P w0 n M0 W0 ro .ret Q e st:=fun _ M _ _ a=>wpIn_ret ⟨M,e,st,a,h⟩
theorem Am {x y:Code} (h:∀ K:Env→St→Prop,(∀ e s,Da P w0 n M0 W0 ro y Q e s→K e s)→Da P w0 n M0 W0 ro x (SK K Q) e st):Da P w0 n M0 W0 ro (.seq x y) Q e st:=by
 intro m M a w j
 refine wpIn_seq (wpIn_mono (h (Da P w0 n M0 W0 ro y Q) (fun _ _ h=>h) m M a w j) ?_)
 rintro ex i g ⟨M',f,d,b,c⟩
 cases ex with
 | normal=>exact c m M' i g b
 | _=>exact ⟨M',f,d,b,c⟩
theorem AB {x y:Code} (I:Env→St→Prop) (hx:∀ K:Env→St→Prop,(∀ e s,I e s→K e s)→Da P w0 n M0 W0 ro x (SK K Q) e st) (hy:∀ e s,I e s→Da P w0 n M0 W0 ro y Q e s):Da P w0 n M0 W0 ro (.seq x y) Q e st :=
 Am fun K a=>Zch (hx I fun _ _ h=>h) fun ex e s h=>by
  cases ex with
  | normal=>exact a e s (hy e s h)
  | _=>exact h
theorem Ar {id:Nat} {c:Code} (h:Da P w0 n M0 W0 ro c (LC id Q) e st):Da P w0 n M0 W0 ro (.block id c) Q e st:=by
 intro m M a w j
 refine wpIn_block (wpIn_mono (h m M a w j) ?_)
 rintro ex l k ⟨M',g,f,d,b⟩
 cases ex with
 | exit i =>
  simp only [LC] at b
  simp only [Exit.inBlock]
  split at b<;>rename_i hc
  ·rw [Ah hc];exact ⟨M',g,f,d,b⟩
  ·rw [Ai hc];exact ⟨M',g,f,d,b⟩
 | _=>exact ⟨M',g,f,d,b⟩
theorem BN {c:Operand} {x y:Code} (b:Bool) (hc:argOk e true c) (hb:Aq e c = .val (.bool b)) (ht:b=true→Da P w0 n M0 W0 ro x Q e st) (hf:b=false→Da P w0 n M0 W0 ro y Q e st):Da P w0 n M0 W0 ro (.cond c x y) Q e st:=by
 intro m M a w d
 have hv:=AP d.rel hc
 rw [hb] at hv
 have ev:a.eval c = .bool b:=hv.val_inv.1
 exact wpIn_cond_split ev (fun h=>ht h m M a w d) (fun h=>hf h m M a w d)
theorem Ko (p:Nat→Prop) (h:∃ k,p k):∃ k,p k∧∀ m,p m→k≤m:=by
 obtain ⟨k,a⟩:=h
 induction k using Nat.strongRecOn with
 | _ k ih =>
  by_cases c:∃ m,m<k∧p m
  ·obtain ⟨m,d,b⟩:=c
   exact ih m d b
  ·exact ⟨k,a,fun m e=>by
    by_cases c':m<k
    ·exact absurd ⟨m,c',e⟩ c
    ·omega⟩
theorem Ax {c:Code} (I:Nat→Env→St→Prop) (k0:Nat) (h0:I k0 e st) (round:∀ k e s,I k e s→∀ K:Env→St→Prop,(∀ k' e' s',k'<k→I k' e' s'→K e' s')→Da P w0 n M0 W0 ro c (SK K Q) e s):Da P w0 n M0 W0 ro (.loop c) Q e st:=by
 intro m M a w y
 let J:Nat→Act→World→Prop:=fun k d b=>∃ M' e' s',At w0 n M0 W0 e' s' d b M'∧I k e' s'
 let μ:Act→World→Nat:=fun d b=>by
  classical exact if h:∃ k,J k d b then Classical.choose (Ko (fun k=>J k d b) h) else 0
 have q:∀ d b k,J k d b→J (μ d b) d b∧μ d b≤k:=by
  intro d b k g
  have f:∃ k,J k d b:=⟨k,g⟩
  have:=Classical.choose_spec (Ko (fun k=>J k d b) f)
  have e:μ d b=Classical.choose (Ko (fun k=>J k d b) f):=by simp only [μ,dif_pos f]
  rw [e]
  exact ⟨this.1,this.2 k g⟩
 refine wpIn_loop (fun d b=>∃ k,J k d b) μ ⟨k0,M,e,st,y,h0⟩ ?_
 rintro a1 l ⟨k,g⟩
 obtain ⟨⟨M1,e1,v,x,r⟩,_⟩:=q a1 l k g
 refine wpIn_mono (round _ e1 v r (fun e' s'=>∃ k',k'<_∧I k' e' s') (fun k' _ _ i u=>⟨k',i,u⟩) m M1 a1 l x) ?_
 rintro ex d b ⟨M',e',s',i,o⟩
 cases ex with
 | normal =>
  obtain ⟨k',j,t⟩:=o
  have p:J k' d b:=⟨M',e',s',i,t⟩
  exact ⟨⟨k',p⟩,Nat.lt_of_le_of_lt (q d b k' p).2 j⟩
 | _=>exact ⟨M',e',s',i,o⟩
def Own.under (nr:Nat):Own→Prop
 | .row id=>id<nr
 | _=>True
inductive Under (nb nr nl:Nat):AV→Prop
 | val (v:Value):Under nb nr nl (.val v)
 | list {xs:List AV} {o:Own} (h:∀ x∈xs,Under nb nr nl x) (ho:o.under nr):Under nb nr nl (.list xs o)
 | elem {x:AV} {k:Nat} (h:Under nb nr nl x):Under nb nr nl (.elem x k)
 | box {l k:Nat} (h:l<nb):Under nb nr nl (.box l k)
 | clo {f:FuncId} {xs:List AV} (h:∀ x∈xs,Under nb nr nl x):Under nb nr nl (.clo f xs)
 | agg {xs:List AV} (h:∀ x∈xs,Under nb nr nl x):Under nb nr nl (.agg xs)
 | tup {xs:List AV} (h:∀ x∈xs,Under nb nr nl x):Under nb nr nl (.tup xs)
 | yld {k:Nat} (h:k<nl):Under nb nr nl (.yld k)
 | mp {k:Nat} (h:k<nl):Under nb nr nl (.mp k)
 | tab {l:List (Int × FuncId)}:Under nb nr nl (.tab l)
 | vec {id ver o n:Nat} (h:id<nr):Under nb nr nl (.vec id ver o n)
 | vel {id ver o:Nat} (h:id<nr):Under nb nr nl (.vel id ver o)
theorem Dq {nb nr nl:Nat} (v:Value):Under nb nr nl (.val v)↔True:=iff_true_intro (.val v)
theorem M6 {nb nr nl:Nat} {xs:List AV} {o:Own}:Under nb nr nl (.list xs o)↔(∀ x∈xs,Under nb nr nl x)∧o.under nr:=⟨fun h=>by cases h with | list a b=>exact ⟨a,b⟩,fun h => .list h.1 h.2⟩
theorem Na {nb nr nl:Nat} {x:AV} {k:Nat}:Under nb nr nl (.elem x k)↔Under nb nr nl x:=⟨fun h=>by cases h;assumption,.elem⟩
theorem OW {nb nr nl l k:Nat}:Under nb nr nl (.box l k)↔l<nb:=⟨fun h=>by cases h;assumption,.box⟩
theorem L2 {nb nr nl:Nat} {f:FuncId} {xs:List AV}:Under nb nr nl (.clo f xs)↔∀ x∈xs,Under nb nr nl x:=⟨fun h=>by cases h;assumption,.clo⟩
theorem Cd {nb nr nl:Nat} {xs:List AV}:Under nb nr nl (.agg xs)↔∀ x∈xs,Under nb nr nl x:=⟨fun h=>by cases h;assumption,.agg⟩
theorem OA {nb nr nl:Nat} {xs:List AV}:Under nb nr nl (.tup xs)↔∀ x∈xs,Under nb nr nl x:=⟨fun h=>by cases h;assumption,.tup⟩
theorem S8 {nb nr nl k:Nat}:Under nb nr nl (.yld k)↔k<nl:=⟨fun h=>by cases h;assumption,.yld⟩
theorem VJ {nb nr nl k:Nat}:Under nb nr nl (.mp k)↔k<nl:=⟨fun h=>by cases h;assumption,.mp⟩
theorem Tm {nb nr nl id ver o n:Nat}:Under nb nr nl (.vec id ver o n)↔id<nr:=⟨fun h=>by cases h;assumption,.vec⟩
theorem SE {nb nr nl id ver o:Nat}:Under nb nr nl (.vel id ver o)↔id<nr:=⟨fun h=>by cases h;assumption,.vel⟩
def Mem.cut (M:Mem) (nb nr nl:Nat):Mem:={ M with N:=nb,NR:=nr,NL:=nl }
theorem R.cut {M:Mem} {w:World} {v:Value} {x:AV} {nb nr nl:Nat} (hnl:nl≤M.NL) (h:R w0 M w v x) (hu:Under nb nr nl x):R w0 (M.cut nb nr nl) w v x:=by
 induction h with
 | flat h=>exact .flat h
 | agg hl c _ ih=>exact .agg hl c fun i a b=>ih i a b (Cd.1 hu _ (List.getElem_mem _))
 | tup hl _ ih=>exact .tup hl fun i a b=>ih i a b (OA.1 hu _ (List.getElem_mem _))
 | nil ho=>exact .nil ho
 | emp ho=>exact .emp ho
 | @list b off cap xs o sz us hc hm hcell _ ho ih =>
  obtain ⟨c,e⟩:=M6.1 hu
  refine .list sz us hc hm hcell (fun i d=>ih i d (c _ (List.getElem_mem _))) ?_
  cases o with
  | none=>trivial
  | full=>exact ho
  | seed=>exact ho
  | row id=>exact ⟨e,ho.2⟩
 | elem u k hcell _ ih=>exact .elem u k hcell (ih (Na.1 hu))
 | box _=>exact .box (M:=M.cut nb nr nl) (OW.1 hu)
 | clo hl _ ih=>exact .clo hl fun i a b=>ih i a b (L2.1 hu _ (List.getElem_mem _))
 | yld _=>exact .yld (M:=M.cut nb nr nl) (S8.1 hu)
 | mp _=>exact .mp (M:=M.cut nb nr nl) (VJ.1 hu)
 | tab h hk hn=>exact .tab (M:=M.cut nb nr nl) h hk fun k q=>hn k (Nat.lt_of_lt_of_le q hnl)
 | vec d hv h=>exact .vec (M:=M.cut nb nr nl) (Tm.1 hu) hv h
 | vel d hv h=>exact .vel (M:=M.cut nb nr nl) (SE.1 hu) hv h
theorem R.under {M:Mem} {w:World} {v:Value} {x:AV} (h:R w0 M w v x):Under M.N M.NR M.NL x:=by
 have c:∀ {cs:Array Value} {xs:List AV},cs.size=xs.length→(∀ i (_:i<cs.size) (h2:i<xs.length),Under M.N M.NR M.NL xs[i])→∀ x∈xs,Under M.N M.NR M.NL x:=by
  intro cs xs d h x e
  obtain ⟨i,a,rfl⟩:=List.mem_iff_getElem.1 e
  exact h i (d▸a) a
 induction h with
 | flat h=>exact .val _
 | agg d h1 _ ih=>exact .agg (c d ih)
 | tup d _ ih=>exact .tup (c d ih)
 | nil ho=>exact .list (fun _ h=>by cases h) (by rename_i o;cases o<;>first | trivial | exact absurd rfl (ho _))
 | emp ho=>exact .list (fun _ h=>by cases h) (by rename_i o;cases o<;>first | trivial | exact absurd rfl (ho _))
 | @list b off cap xs o sz us hc hm hcell _ ho ih =>
  refine .list (fun x e=>?_) ?_
  ·obtain ⟨i,a,rfl⟩:=List.mem_iff_getElem.1 e
   exact ih i a
  ·cases o with
   | row id=>exact ho.1
   | _=>trivial
 | elem u k hcell _ ih=>exact .elem ih
 | box h=>exact .box h
 | clo d _ ih=>exact .clo (c d ih)
 | yld h=>exact .yld h
 | mp h=>exact .mp h
 | tab _ _ _=>exact .tab
 | vec a _ _=>exact .vec a
 | vel a _ _=>exact .vel a
def HH (nb nr nl:Nat):Env→Prop
 | []=>True
 | (_,c,v)::e=>(c=true→Under nb nr nl v)∧HH nb nr nl e
theorem Qe {nb nr nl:Nat}:∀ {e:Env} {s:Nat} {x:Bool × AV},HH nb nr nl e→look e s=some x→x.1=true→Under nb nr nl x.2
 | (k,c,v)::e,s,x,h,hl,ht=>by
  simp only [look] at hl
  by_cases q:k=s
  ·rw [Ah q] at hl;cases hl;exact h.1 ht
  ·rw [Ai q] at hl;exact Qe h.2 hl ht
def St.cut (s:St) (nb nr nl:Nat):St:=⟨s.boxes.take nb,s.rows.take nr,s.loops.take nl⟩
def RowA.cells:RowA→List AV
 | .vec _ _ cs=>cs
 | _=>[]
structure Calm (nb nr nl:Nat) (s:St):Prop where
 rows:∀ r∈s.rows,∀ x∈r.cells,Under nb nr nl x
 boxes:∀ cs∈s.boxes,∀ x∈cs,Under nb nr nl x
 loops:∀ la∈s.loops,∀ k x,look la.e k=some x→x.1=true→Under nb nr nl x.2
theorem RelSt.calm {M:Mem} {w:World} (h:RelSt w0 M st w):Calm st.boxes.length st.rows.length st.loops.length st where
 rows:=by
  intro r o x hx
  obtain ⟨l,a,rfl⟩:=List.mem_iff_getElem.1 o
  have m:=h.row l _ (List.getElem?_eq_getElem a)
  cases hrow:st.rows[l] with
  | vec ver sz cs =>
   rw [hrow] at m hx
   obtain ⟨_,_,_,_,_,_,_,c,_,_,_,b,_,e⟩:=m
   obtain ⟨i,d,rfl⟩:=List.mem_iff_getElem.1 hx
   have g:i<cs.length:=d
   have:=(e i (by omega) g).under
   rwa [h.N,h.NR,h.loop.NL] at this
  | _=>rw [hrow] at hx;cases hx
 boxes:=by
  intro cs j x hx
  obtain ⟨l,a,rfl⟩:=List.mem_iff_getElem.1 j
  obtain ⟨_,_,c,_,_,b,_,e⟩:=h.box l _ (List.getElem?_eq_getElem a)
  obtain ⟨i,d,rfl⟩:=List.mem_iff_getElem.1 hx
  have:=(e i (b▸d) d).under
  rwa [h.N,h.NR,h.loop.NL] at this
 loops:=by
  intro p f k x hx n
  obtain ⟨l,a,rfl⟩:=List.mem_iff_getElem.1 f
  have:=(h.loop.record l _ (List.getElem?_eq_getElem a)).2.ent k x hx
  obtain ⟨v,this⟩:=this
  unfold entryOk at this
  rw [Ah n] at this
  have:=this.under
  rwa [h.N,h.NR,h.loop.NL] at this
theorem entryOk.cut {M:Mem} {w:World} {nb nr nl:Nat} (hnl:nl≤M.NL) {v:Value} {x:Bool × AV} (h:entryOk w0 M w v x) (hu:x.1=true→Under nb nr nl x.2):entryOk w0 (M.cut nb nr nl) w v x:=by
 unfold entryOk at *
 split
 ·rename_i c;rw [Ah c] at h;exact h.cut hnl (hu c)
 ·rename_i c;rw [Ai c] at h;exact h
theorem RelSt.cut {M:Mem} {w:World} (h:RelSt w0 M st w) {nb nr nl:Nat} (h1:nb≤st.boxes.length) (h2:nr≤st.rows.length) (h3:nl≤st.loops.length) (hc:Calm nb nr nl (st.cut nb nr nl)) :
  RelSt w0 (M.cut nb nr nl) (st.cut nb nr nl) w where
 below:=h.below
 N:=by simp [Mem.cut,St.cut];omega
 NR:=by simp [Mem.cut,St.cut];omega
 top:=h.top
 inj:=fun l G k F e=>h.inj l G (by have:=h.N;simp only [Mem.cut] at k;omega) (by have:=h.N;simp only [Mem.cut] at F;omega) e
 box:=fun l cs d=>by
  simp only [St.cut] at d
  have D:l<nb:=by
   have:=(Aj.1 d).1
   simp at this;omega
  have a:cs∈st.boxes.take nb:=List.mem_of_getElem? d
  rw [List.getElem?_take_of_lt D] at d
  obtain ⟨a1,a2,c,y,a3,a4,a5,a6⟩:=h.box l cs d
  exact ⟨a1,a2,c,y,a3,a4,a5,fun i t m=>(a6 i t m).cut (by have:=h.loop.NL;omega) (hc.boxes cs a _ (List.getElem_mem _))⟩
 row:=fun id x f=>by
  simp only [St.cut] at f
  have E:id<nr:=by
   have:=(Aj.1 f).1
   simp at this;omega
  have a:x∈st.rows.take nr:=List.mem_of_getElem? f
  rw [List.getElem?_take_of_lt E] at f
  have g:=h.row id x f
  have b:nb≤M.N:=by have:=h.N;omega
  cases x with
  | grow n sz =>
   obtain ⟨a1,a2,a3,a4,a5,a6,a7,z⟩:=g
   exact ⟨a1,a2,a3,a4,fun l d=>a5 l (Nat.lt_of_lt_of_le d b),a6,a7,z⟩
  | vec v sz cs =>
   obtain ⟨a1,a2,a3,a4,a5,a6,a7,c,y,z,o,t,m,H⟩:=g
   exact ⟨a1,a2,a3,a4,fun l d=>a5 l (Nat.lt_of_lt_of_le d b),a6,a7,c,y,z,o,t,m,fun i h1 h2=>(H i h1 h2).cut (by have:=h.loop.NL;omega) (hc.rows _ a _ (List.getElem_mem _))⟩
  | dead v =>
   obtain ⟨a1,a2,a3,a4⟩:=g
   exact ⟨a1,a2,fun l d=>a3 l (Nat.lt_of_lt_of_le d b),a4⟩
 rowinj:=fun i j C r e=>h.rowinj i j (by have:=h.NR;simp only [Mem.cut] at C;omega) (by have:=h.NR;simp only [Mem.cut] at r;omega) e
 loop:={
  NL:=by simp [Mem.cut,St.cut];omega
  inj:=fun i j C r e=>h.loop.inj i j (by have:=h.loop.NL;simp only [Mem.cut] at C;omega) (by have:=h.loop.NL;simp only [Mem.cut] at r;omega) e
  record:=fun k p f=>by
   simp only [St.cut] at f
   have u:k<nl:=by
    have:=(Aj.1 f).1
    simp at this;omega
   have a:p∈st.loops.take nl:=List.mem_of_getElem? f
   rw [List.getElem?_take_of_lt u] at f
   obtain ⟨a1,a2⟩:=h.loop.record k p f
   exact ⟨a1,a2.map (fun _ q _=>q) fun s x v hs o=>o.cut (by have:=h.loop.NL;omega) (hc.loops p a s x hs)⟩ }
theorem Ext.cut {M1:Mem} {w1 w2:World} {M2:Mem} (h:Ext w0 M1 w1 M2 w2) {nb nr nl:Nat} (h1:M1.N≤nb) (h2:M1.NR≤nr) (h3:M1.NL≤nl) (h4:nl≤M2.NL) (h5:nb≤M2.N) (h6:nr≤M2.NR):Ext w0 M1 w1 (M2.cut nb nr nl) w2 :=
 ⟨h1,h.bx,h2,h.rows,h.cell,h.size,h3,h.lb,fun k a b=>h.lnew k a (Nat.lt_of_lt_of_le b h4),h.objs,fun b q1 q2=>by
  obtain ⟨a1,a2,a3⟩:=h.keep b q1 q2
  exact ⟨a1,⟨fun l e=>a2.1 l (Nat.lt_of_lt_of_le e h5),fun i d=>a2.2.1 i (Nat.lt_of_lt_of_le d h6),fun k c=>a2.2.2 k (Nat.lt_of_lt_of_le c h4)⟩,a3⟩⟩
theorem Rel.cut {M:Mem} {a:Act} {w:World} (h:Rel w0 n M e st a w) {nb nr nl:Nat} (h1:nb≤st.boxes.length) (h2:nr≤st.rows.length) (h3:nl≤st.loops.length) (hc:Calm nb nr nl (st.cut nb nr nl)) (he:HH nb nr nl e) :
  Rel w0 n (M.cut nb nr nl) e (st.cut nb nr nl) a w :=
 ⟨h.st.cut h1 h2 h3 hc,h.size,fun s x hs=>(h.env s x hs).cut (by have:=h.st.loop.NL;omega) (Qe he hs)⟩
theorem TK {c:Code} (nb nr nl:Nat) (h1:nb≤st.boxes.length) (h2:nr≤st.rows.length) (h3:nl≤st.loops.length) (k1:M0.N≤nb) (k2:M0.NR≤nr) (k3:M0.NL≤nl) (hc:Calm nb nr nl (st.cut nb nr nl)) (he:HH nb nr nl e)
  (h:Da P w0 n M0 W0 ro c Q e (st.cut nb nr nl)):Da P w0 n M0 W0 ro c Q e st :=
 fun m M a w b=>h m _ a w ⟨b.rel.cut h1 h2 h3 hc he,b.ext.cut k1 k2 k3 (by rw [b.rel.st.loop.NL];exact h3) (by rw [b.rel.st.N];exact h1) (by rw [b.rel.st.NR];exact h2),b.marks⟩
end
section
variable {P:Program} {w0:World} {n:Nat} {M:Mem} {e:Env} {st:St} {a:Act} {w:World}
def resOk (P:Program) (e:Env) (st:St):ResultVar→Prop
 | .tmp t=>argOk e true (.tmp t)
 | .cell t ty=>(evOp P e true st (.load ty (.tmp t))).1
def Sr (P:Program) (e:Env) (st:St):ResultVar→AV
 | .tmp t=>(Aq e (.tmp t)).pub
 | .cell t ty=>(evOp P e true st (.load ty (.tmp t))).2.1.pub
def NA:List AV→AV
 | [x]=>x
 | l => .tup l
def ZcP (P:Program) (rs:List ResultVar) (Post:AV→St→Prop):AQ:=fun x e st =>
 match x with
 | .normal | .ret=>(∀ r∈rs,resOk P e st r)∧Post (NA (rs.map (Sr P e st))) st
 | _=>False
theorem Qv (h:Rel w0 n M e st a w) (t:TypeId) (x:Operand) (hob:(evOp P e true st (.load t x)).1) :
  ∃ v,(do loadVar t (← asAddr (a.eval x)):Sem Value).run P w = .ok v w∧R w0 M w v (evOp P e true st (.load t x)).2.1:=by
 unfold evOp at hob ⊢
 cases ht:Ez P t with
 | none=>simp [ht] at hob
 | some p =>
  obtain ⟨sz,r⟩:=p
  simp only [ht] at hob ⊢
  obtain ⟨z,C,k,m⟩:=hob
  obtain ⟨b,o,ev,g,q⟩:=Vf h.st (AP h z) C
  rw [ev]
  have d:∀ j,j<sz→∃ u,w.cell? ⟨b,o+CY (Aq e x)+j,none⟩=some u∧∀ c,R w0 M w u ((Bi st (Aq e x))[CY (Aq e x)+j]'c):=by
   intro j c
   obtain ⟨u,s,y⟩:=q (CY (Aq e x)+j) (by omega)
   exact ⟨u,by rw [←s,Nat.add_assoc],fun _=>y⟩
  let f:Nat→Value:=fun j=>((w.cell? ⟨b,o+CY (Aq e x)+j,none⟩).getD undef)
  have D:∀ j,j<sz→w.cell? ⟨b,o+CY (Aq e x)+j,none⟩=some (f j):=fun j c=>by
   obtain ⟨u,i,_⟩:=d j c
   simp [f,i]
  refine ⟨if r then .agg ((List.range sz).map f).toArray else f 0,?_,(N6 g k m (fun j c=>?_))⟩
  ·simp only [asAddr,Sem.run_bind,Sem.run_pure,Result.andThen_ok]
   exact NH ht D m
  ·by_cases hjs:j<sz
   ·obtain ⟨u,i,l⟩:=d j hjs
    have:f j=u:=by simp [f,i]
    rw [this]
    exact l c
   ·obtain ⟨u,i,l⟩:=q (CY (Aq e x)+j) c
    have:f j=u:=by simp [f,Nat.add_assoc,i]
    rw [this]
    exact l
theorem LL {α:Type} (f:α→Sem Value) (g:α→Value):∀ (l:List α),(∀ x∈l,(f x).run P w = .ok (g x) w)→(l.mapM f).run P w = .ok (l.map g) w
 | [],_=>by simp
 | x::l,h=>by simp [h x (by simp),LL f g l (fun y a=>h y (by simp [a]))]
theorem RE {V:ResultVar→AV} (rs:List ResultVar) (g:ResultVar→Value) (hg:∀ r∈rs,R w0 M w (g r) (V r)) :
  R w0 M w (if h:(rs.map g).toArray.size=1 then (rs.map g).toArray[0] else .tuple (rs.map g).toArray) (NA (rs.map V)):=by
 match rs,hg with
 | [],_=>exact .tup rfl (fun i a _=>absurd a (by simp))
 | [r],hg=>exact (hg r (by simp))
 | r::r'::l,hg =>
  have:¬ ((List.map g (r::r'::l)).toArray.size=1):=by simp
  rw [dif_neg this]
  refine .tup (by simp) (fun i a b=>?_)
  have d:i<(r::r'::l).length:=by simpa using b
  have e1:(List.map g (r::r'::l)).toArray[i]=g (r::r'::l)[i]:=by rw [List.getElem_toArray,List.getElem_map]
  have c:(List.map V (r::r'::l))[i]'b=V (r::r'::l)[i]:=by rw [List.getElem_map]
  have:=(hg (r::r'::l)[i] (List.getElem_mem _))
  rw [←e1,←c] at this
  exact this
theorem Z9 (h:Rel w0 n M e st a w) {fn:Func} {rs:List ResultVar} (hfn:fn.results=rs.toArray) (hrs:∀ r∈rs,resOk P e st r) :
  ∃ v,(results fn a.tmps).run P w = .ok v w∧R w0 M w v (NA (rs.map (Sr P e st))):=by
 let f:ResultVar→Sem Value:=fun
  | .tmp t=>pure (a.tmps.getD t undef)
  | .cell b t=>do loadVar t (← asAddr (a.tmps.getD b undef))
 have c:∀ r∈rs,∃ v,(f r).run P w = .ok v w∧R w0 M w v (Sr P e st r):=by
  intro r d
  have:=hrs r d
  cases r with
  | tmp t=>exact ⟨_,rfl,(AP h (x := .tmp t) this).pub⟩
  | cell b t =>
   obtain ⟨v,k,m⟩:=Qv h t (.tmp b) this
   exact ⟨v,k,m.pub⟩
 classical
 let g:ResultVar→Value:=fun r=>if d:r∈rs then Classical.choose (c r d) else undef
 have j:∀ r∈rs,(f r).run P w = .ok (g r) w∧R w0 M w (g r) (Sr P e st r):=by
  intro r d
  have:=Classical.choose_spec (c r d)
  have e:g r=Classical.choose (c r d):=by simp only [g,dif_pos d]
  rw [e];exact this
 have l:(fn.results.mapM f).run P w = .ok ((rs.map g).toArray) w:=by
  rw [hfn,Array.mapM_eq_mapM_toList]
  simp only [Sem.run_map,LL f g rs (fun r d=>(j r d).1),Result.andThen_ok]
 have i:(results fn a.tmps).run P w = .ok (if h:(rs.map g).toArray.size=1 then (rs.map g).toArray[0] else .tuple (rs.map g).toArray) w:=by
  unfold results
  simp only [Sem.run_bind]
  refine Eq.trans (congrArg (fun x=>Result.andThen x _) l) ?_
  simp only [Result.andThen_ok,Sem.run_pure]
 refine ⟨_,i,?_⟩
 exact RE rs g fun r d=>(j r d).2
def Az:Nat→List AV→Env
 | _,[]=>[]
 | k,x::l=>(k,true,x)::Az (k+1) l
theorem Ni:∀ (l:List AV) (k s:Nat) (x:Bool × AV),look (Az k l) s=some x→∃ i,s=k+i∧∃ y,l[i]? = some y∧x=(true,y)
 | [],_,_,_,h=>by cases h
 | y::l,k,s,x,h=>by
  simp only [Az,look] at h
  by_cases c:k=s
  ·rw [Ah c] at h;cases h;exact ⟨0,c.symm,y,rfl,rfl⟩
  ·rw [Ai c] at h
   obtain ⟨i,d,z,a,b⟩:=Ni l (k+1) s x h
   exact ⟨i+1,by omega,z,a,b⟩
theorem Kr {M0:Mem} {W0:World} {fn:Func} {RR:Ending→World→Prop} {m:Nat} {tmps:Array Value}:∀ (Ds:List Nat) (M:Mem) (w:World),Ds.Nodup→(∀ D∈Ds,W0.heap.size≤D∧w.heap[D]? = some (.deferred (some []))) →
  W0.heap.size≥w0.heap.size→RelSt w0 M st w→Ext w0 M0 W0 M w →
  (∀ w',RelSt w0 M st w'→Ext w0 M0 W0 M w'→(∀ v x,R w0 M w v x→R w0 M w' v x)→∃ v,(results fn tmps).run P w' = .ok v w'∧RR (.returned v) w') →
  LeavesInM (FW none) m P fn tmps RR (Ds.map fun D=>{ target := .collected D,args := #[] }) .returning w
 | [],M,w,_,_,_,hr,hx,hk=>hk w hr hx fun _ _ h=>h
 | D::Ds,M,w,hn,hD,hw,hr,hx,hk=>by
  obtain ⟨F,d2⟩:=hD D (by simp)
  have n:∀ k,k<M.NL→M.lb k≠D:=by
   intro k p e
   have i:k<st.loops.length:=by rw [←hr.loop.NL];exact p
   obtain ⟨_,g⟩:=hr.loop.record k _ (List.getElem?_eq_getElem i)
   rw [e] at g
   exact g.nodef d2
  have hs:Qh M w (w.putObj D (.deferred none)):=⟨fun b c v=>Jg d2 rfl,fun b G C hb _=>by rw [World.putObj_heap_other (fun e=>by subst e;rw [d2] at hb;cases hb)];exact hb⟩
  have q:Ext w0 M0 W0 M (w.putObj D (.deferred none)) :=
   ⟨hx.N,hx.bx,hx.NR,hx.rows,fun b c v j l=>let ⟨a,b'⟩:=hx.cell b c v j l;⟨hs.1 _ _ _ a,b'⟩,by have:=hx.size;simpa using this,hx.NL,hx.lb,hx.lnew,fun b o j l u=>by
    have hb:b<W0.heap.size:=(Array.getElem?_eq_some_iff.1 j).1
    rw [World.putObj_heap_other (by omega)]
    exact hx.objs b o j l u,fun b q1 q2=>by
    obtain ⟨a1,a2⟩:=hx.keep b q1 q2
    rw [World.putObj_heap_other (by omega)]
    exact ⟨a1,a2⟩⟩
  refine ⟨by simp,.inl ⟨D,_,rfl,run_takeDeferred d2,?_⟩⟩
  have d:=List.nodup_cons.1 hn
  refine Kr Ds M _ d.2 (fun E r=>?_) hw (hr.putObj _ d2 (by omega) n) q (fun w' t z s=>hk w' t z fun v x h=>s v x (h.same hs))
  obtain ⟨e1,y⟩:=hD E (List.mem_cons_of_mem _ r)
  have f:E≠D:=fun e=>d.1 (by rw [←e];exact r)
  exact ⟨e1,by rw [World.putObj_heap_other f];exact y⟩
theorem DO {f:FuncId} {fn:Func} {c:Code} {args:List AV} {rs:List ResultVar} {Post:AV→St→Prop} (hf:P.funcs[f]? = some fn) (hb:fn.body=some c) (hrs:fn.results=rs.toArray) (hn:fn.ntmps=n)
  (hen:IB P f) (ha:args.length≤n)
  (h:∀ (M0:Mem) (W0:World),M0.N=st.boxes.length→M0.NR=st.rows.length→M0.NL=st.loops.length→Calm st.boxes.length st.rows.length st.loops.length st→(∀ x∈args,Under st.boxes.length st.rows.length st.loops.length x) →
   Da P w0 n M0 W0 none c (ZcP P rs Post) (Az 0 args) st):ACalls P w0 f args st Post:=by
 refine ⟨hen,fun M w a b d=>?_⟩
 have O:a.size=args.length:=d.1
 have H:∀ x∈args,Under st.boxes.length st.rows.length st.loops.length x:=by
  intro x E
  obtain ⟨i,z,rfl⟩:=List.mem_iff_getElem.1 E
  have:=(d.get (i:=i) (Array.getElem?_eq_getElem (by omega)) (List.getElem?_eq_getElem z)).under
  rwa [b.N,b.NR,b.loop.NL] at this
 have m:Rel w0 n M (Az 0 args) st { tmps:=a++Array.replicate (fn.ntmps-a.size) undef,defers:=[] } w:=by
  refine ⟨b,by simp;omega,fun s x hs=>?_⟩
  obtain ⟨i,j,y,q,rfl⟩:=Ni _ _ _ _ hs
  have z:i<args.length:=(Aj.1 q).1
  have hs':s=i:=by omega
  subst hs'
  simp only [entryOk,if_true]
  have e1:(a++Array.replicate (fn.ntmps-a.size) undef).getD s undef=a[s]'(by omega):=by
   simp [Array.getD_eq_getD_getElem?,Array.getElem?_append_left (show s<a.size by omega),Array.getElem?_eq_getElem (show s<a.size by omega)]
  rw [e1]
  exact d.get (Array.getElem?_eq_getElem (by omega)) q
 refine O9 (n:=0) (callsIn_of_wp_marks hf hb trivial (wpIn_mono (h M w b.N b.NR b.loop.NL b.calm H 0 M _ w ⟨m,.refl _ _ _,[],by simp⟩) ?_))
 rintro ex p D ⟨M',o,k,j,l⟩
 have e:∀ (t:∀ r∈rs,resOk P o k r) (C:Post (NA (rs.map (Sr P o k))) k),
   LeavesInM (FW none) 0 P fn p.tmps (Comes' w0 M w Post) p.defers .returning D:=by
  intro t C
  obtain ⟨Ds,J,K,G⟩:=j.marks
  rw [K]
  refine Kr Ds M' D J G b.base_le j.rel.st j.ext fun F u Q k3=>?_
  have g:Rel w0 n M' o k p F:=⟨u,j.rel.size,fun s x hs=>by
   have:=j.rel.env s x hs
   unfold entryOk at *
   split
   ·rename_i c;rw [Ah c] at this;exact k3 _ _ this
   ·rename_i c;rw [Ai c] at this;exact this⟩
  obtain ⟨v,q1,q2⟩:=Z9 g hrs t
  exact ⟨v,q1,v,M',_,k,rfl,C,Q,u,q2⟩
 cases ex with
 | normal=>exact e l.1 l.2
 | ret=>exact e l.1 l.2
 | _=>exact l.elim
def Zn5 (st:St) (Post:AV→St→Prop) (r:AV) (s:St):Prop :=
 st.boxes.length≤s.boxes.length∧st.rows.length≤s.rows.length∧st.loops.length≤s.loops.length∧Calm st.boxes.length st.rows.length st.loops.length (s.cut st.boxes.length st.rows.length st.loops.length) ∧
  Under st.boxes.length st.rows.length st.loops.length r∧Post r (s.cut st.boxes.length st.rows.length st.loops.length)
theorem ACalls.fin {f:FuncId} {args:List AV} {Post:AV→St→Prop} (h:ACalls P w0 f args st (Zn5 st Post)):ACalls P w0 f args st Post:=by
 refine ⟨h.1,fun M w b a c=>(h.2 M w b a c).mono ?_⟩
 rintro en n ⟨v,M',r,k,j,⟨g,d,e,l,m,i⟩,h3,h4,h5⟩
 exact ⟨v,M'.cut st.boxes.length st.rows.length st.loops.length,r,_,j,i,h3.cut (by have:=a.N;omega) (by have:=a.NR;omega) (by have:=a.loop.NL;omega) (by rw [h4.loop.NL];exact e) (by rw [h4.N];exact g) (by rw [h4.NR];exact d),h4.cut g d e l,h5.cut (by have:=h4.loop.NL;omega) m⟩
theorem enters_of {f:FuncId} {fn:Func} {c:Code} (hf:P.funcs[f]? = some fn) (hb:fn.body=some c) (hn:fn.name ≠ "runtime.NumGoroutine"):IB P f:=by
 intro args w
 simp [callFunc,hf,hb,hn]
end
section
variable {P:Program} {w0:World} {n:Nat}
def WA (P:Program) (w0:World) (e1:Env) (c:Bool) (st:St) (o:Oper) (v:AV):Prop :=
 match o.op with
 | .call ⟨.value f,args,_⟩=>c=true→argOk e1 true f∧(∀ x∈args.toList,argOk e1 true x)∧Hu P w0 (Aq e1 f) (args.toList.map fun x=>argP e1 (Aq e1 x)) st fun r s=>r=v∧s=st
 | op=>(c=true→(evOp P e1 c st op).1)∧(evOp P e1 c st op).2.1=v∧(evOp P e1 c st op).2.2=st
theorem PG {e1:Env} {c:Bool} {st:St} {o:Oper} {v:AV} (hc:¬ GA o.op=true) :
  WA P w0 e1 c st o v=((c=true→(evOp P e1 c st o.op).1)∧(evOp P e1 c st o.op).2.1=v∧(evOp P e1 c st o.op).2.2=st):=by
 obtain ⟨g,op,d,e,b,a⟩:=o
 cases op with
 | call cc =>
  obtain ⟨callee,args,ts⟩:=cc
  cases callee with
  | value f=>exact absurd rfl hc
  | _=>rfl
 | _=>rfl
theorem Lo {M:Mem} {e1:Env} {st:St} {a:Act} {w:World} (h:Rel w0 n M e1 st a w) (ro:Option Nat) (m:Nat) {all:List Oper} {o:Oper} {v:AV} (hg:guardOk all e1 o.guard) (hv:WA P w0 e1 (AL all e1 o.guard) st o v)
  (Q:Exit→Act→World→Prop) (K:Act→World→Prop) (hK:∀ u w' M',Ext w0 M w M' w'→RelSt w0 M' st w'→entryOk w0 M' w' u (AL all e1 o.guard,v)→K (a.put o.dst u) w') :
  if Region.wanted o (yielded all.toArray a.tmps) then o.wpIn (FW ro) m P a w K Q else (∀ f,o.about P w a.eval=some f→(FW ro).fn f)∧K (a.put o.dst undef) w:=by
 rw [Jh h hg]
 cases hcc:AL all e1 o.guard with
 | true =>
  rw [hcc] at hv hK
  rw [Ah rfl]
  by_cases hc:GA o.op=true
  ·obtain ⟨dst,op,l,p,k,guard⟩:=o
   cases op<;>try cases hc
   rename_i cc
   obtain ⟨callee,args,ts⟩:=cc
   cases callee<;>try cases hc
   rename_i f
   obtain ⟨i,d,e⟩:=hv rfl
   refine Iq h ro m i d e Q _ (fun r s q u w' M' j b c=>?_)
   obtain ⟨rfl,rfl⟩:=q
   exact hK u w' M' j b c
  ·rw [PG hc] at hv
   obtain ⟨i,d,e⟩:=hv
   refine OV h ro m o (i rfl) Q _ (fun u w' M' j b c=>?_)
   rw [e] at b
   rw [d] at c
   exact hK u w' M' j b c
 | false =>
  rw [hcc] at hK
  rw [Ai (by simp)]
  exact ⟨fun g _=>KF ro g,hK undef w M (.refl _ _ _) h.st rfl⟩
structure Trail (P:Program) (w0:World) (n:Nat) (all os:List Oper) (e:Env) (st:St) (E:Nat→Env) (C:Nat→Bool) (V:Nat→AV):Prop where
 zero:E 0=e
 step:∀ j o,os[j]? = some o→E (j+1)=Du (E j) o.dst (C j) (V j)∧guardOk all (AK true all o (E j)) o.guard∧dstOk n o.dst∧AL all (AK true all o (E j)) o.guard=C j ∧
  WA P w0 (AK true all o (E j)) (C j) st o (V j)
theorem QY {all os:List Oper} {e:Env} {st:St} {o:Oper} {E:Nat→Env} {C:Nat→Bool} {V:Nat→AV} {v:AV} (hg:guardOk all (AK true all o e) o.guard) (hd:dstOk n o.dst)
  (ho:WA P w0 (AK true all o e) (AL all (AK true all o e) o.guard) st o v) (T:Trail P w0 n all os (Du e o.dst (AL all (AK true all o e) o.guard) v) st E C V) :
  Trail P w0 n all (o::os) e st (fun | 0=>e | j+1=>E j) (fun | 0=>AL all (AK true all o e) o.guard | j+1=>C j) (fun | 0=>v | j+1=>V j):=by
 refine ⟨rfl,fun j q hq=>?_⟩
 cases j with
 | zero =>
  simp only [List.getElem?_cons_zero,Option.some.injEq] at hq
  subst hq
  exact ⟨T.zero,hg,hd,rfl,ho⟩
 | succ j =>
  simp only [List.getElem?_cons_succ] at hq
  exact T.step j q hq
theorem LN {all:List Oper} {st:St} {KK:Env→St→Prop}:∀ (c:Nat) (os:List Oper) (e:Env),MC P w0 n true all KK c os e st→∃ E C V,Trail P w0 n all os e st E C V∧KK (E os.length) st
 | 0,_,_,h=>h.elim
 | c+1,os,e,h=>by
  have s:∀ (os:List Oper) (e:Env),Ws P w0 n true all (MC P w0 n true all KK c) KK os e st→∃ E C V,Trail P w0 n all os e st E C V∧KK (E os.length) st:=by
   intro os
   induction os with
   | nil=>exact fun e h=>⟨fun _=>e,fun _=>false,fun _ => .junk,⟨rfl,fun j o w=>by simp at w⟩,h⟩
   | cons o os ih =>
    intro e h
    by_cases hc:GA o.op=true
    ·obtain ⟨r,op,l,p,k,d⟩:=o
     cases op<;>try cases hc
     rename_i cc
     obtain ⟨callee,args,ts⟩:=cc
     cases callee<;>try cases hc
     rename_i f
     simp only [Ws] at h
     obtain ⟨q,hd,m,u⟩:=h
     rcases u with ⟨v,k1,k2⟩ | ⟨hf,_⟩
     ·obtain ⟨E,C,V,T,g⟩:=LN c os _ k2
      exact ⟨_,_,_,QY q hd (fun i=>⟨(m i).1,(m i).2,k1 i⟩) T,g⟩
     ·cases hf
    by_cases hgl:ZV o.op=true
    ·obtain ⟨r,op,l,p,k,d⟩:=o
     cases op<;>try cases hgl
     rename_i t y
     cases y<;>try cases hgl
     simp only [Ws] at h
     exact absurd h.2.2.1.1 (by simp)
    ·rw [Oq hc hgl] at h
     obtain ⟨q,hd,m,x,a⟩:=h
     have b:=x (.inr rfl)
     simp only at b
     rw [b] at a
     obtain ⟨E,C,V,T,g⟩:=ih _ a
     exact ⟨_,_,_,QY q hd (by rw [PG hc];exact ⟨m,rfl,b⟩) T,g⟩
  exact s os e h
theorem Ij {all os:List Oper} {e:Env} {st:St} {E:Nat→Env} {C:Nat→Bool} {V:Nat→AV} (T:Trail P w0 n all os e st E C V)
  (uniq:∀ (i j:Nat) (o p:Oper) (s:Nat),os[i]? = some o→os[j]? = some p→o.dst=some s→p.dst=some s→i=j) (s:Nat):∀ j,j≤os.length →
  ((∀ i o,i<j→os[i]? = some o→o.dst≠some s)→look (E j) s=look e s)∧(∀ i o,i<j→os[i]? = some o→o.dst=some s→look (E j) s=some (C i,V i))
 | 0,_=>⟨fun _=>by rw [T.zero],fun i o h=>absurd h (by omega)⟩
 | j+1,hj=>by
  obtain ⟨g,f⟩:=Ij T uniq s j (by omega)
  have ho:os[j]? = some os[j]:=List.getElem?_eq_getElem (by omega)
  have b:=(T.step j _ ho).1
  have a:os[j].dst≠some s→look (E (j+1)) s=look (E j) s:=by
   intro a
   rw [b]
   cases hd:os[j].dst with
   | none=>rfl
   | some d =>
    rw [hd] at a
    simp only [Du,look]
    rw [Ai (fun h=>a (by rw [h]))]
  refine ⟨fun h=>?_,fun i o k hio hd=>?_⟩
  ·rw [a (h j _ (by omega) ho)]
   exact g fun i o k=>h i o (by omega)
  ·by_cases c:i=j
   ·subst c
    rw [ho] at hio
    cases hio
    rw [b,hd]
    simp only [Du,look,if_true]
   ·rw [a (fun h=>c (uniq i j o _ s hio ho hd h))]
    exact f i o (by omega) hio hd
theorem IW {F:Fence} {m:Nat} {md:Region.Mode} {ops:Array Oper} {Q':Exit→Act→World→Prop}:∀ (l:List Oper) (k:Nat) (listed:Array Bool) (a:Act) (w:World),(∀ j,l[j]? = ops[k+j]?) →
  Region.seqB md ops l.length k listed=true→wpListIn F m P ops Q' l a w→wpAnyIn F m P md ops Q' l.length listed a w
 | [],_,_,_,_,_,hB,h=>⟨by simpa [Region.seqB] using hB,h⟩
 | o::l,k,listed,a,w,hl,hB,h=>by
  have f:ops[k]? = some o:=by simpa using (hl 0).symm
  simp only [List.length_cons,Region.seqB,Bool.and_eq_true,decide_eq_true_eq] at hB
  refine ⟨fun h1=>(by rw [hB.1] at h1;cases h1),fun i hi=>?_⟩
  rw [hB.1] at hi
  have hik:i=k:=by simpa using hi
  subst hik
  have d:wpOpIn F m P ops Q' i (wpListIn F m P ops Q' l) a w:=by unfold wpOpIn;simp only [f];exact h
  exact wpOpIn_mono (fun c b e=>IW l (i+1) _ c b (fun j=>by have:=hl (j+1);simpa [Nat.add_assoc,Nat.add_comm 1 j] using this) hB.2 e) d
def UH (o:Oper) (j:Nat):Bool:=o.after.any fun e=>Region.binds .any e&&e.on == j
theorem I2 {o:Oper} {j:Nat} (h:UH o j=true):∃ e∈o.after,Region.binds .any e=true∧e.on=j:=by
 obtain ⟨e,b,a⟩:=Array.any_eq_true'.1 h
 simp only [Bool.and_eq_true,beq_iff_eq] at a
 exact ⟨e,b,a.1,a.2⟩
def ZhK (l:List Oper) (i j:Nat) (o p:Oper):Bool :=
 match p.dst with
 | some s=>(decide (i=j)||o.dst != some s)&&(!(looks l o).contains s||(decide (j<i)&&UH o j))
 | none=>true
def ZhE (l:List Oper) (h:Nat):Bool :=
 (List.range h).all fun i=>match l[i]? with
  | some o=>(o.after.toList.all fun e => !Region.binds .any e||decide (e.on<i))&&(List.range h).all fun j=>match l[j]? with
   | some p=>ZhK l i j o p
   | none=>true
  | none=>true
def Zmn (l:List Oper) (h:Nat):Bool :=
 (List.range (l.length-h)).all fun k=>(List.range (h+k)).all fun j=>(List.range (h+k+1)).any fun q=>decide (j<q)&&(match l[q]? with | some o=>UH o j | none=>false)
def Lh (l:List Oper) (h:Nat):Bool :=
 decide (h≤l.length)&&ZhE l h&&Zmn l h&&Region.seqB .any l.toArray (l.length-h) h (Array.replicate h true++Array.replicate (l.length-h) false)
theorem Ht {l:List Oper} {h:Nat} (hB:ZhE l h=true) {i:Nat} {o:Oper} (hi:i<h) (ho:l[i]? = some o) :
  (∀ e∈o.after,Region.binds .any e=true→e.on<i)∧∀ j p s,j<h→l[j]? = some p→p.dst=some s→(o.dst=some s→i=j)∧(s∈looks l o→j<i∧UH o j=true):=by
 have a:=List.all_eq_true.1 hB i (List.mem_range.2 hi)
 simp only [ho,Bool.and_eq_true] at a
 refine ⟨fun e d m=>?_,fun j p s f k hs=>?_⟩
 ·have:=List.all_eq_true.1 a.1 e (by simpa using d)
  simpa [m] using this
 ·have b:=List.all_eq_true.1 a.2 j (List.mem_range.2 f)
  simp only [k,ZhK,hs,Bool.and_eq_true,Bool.or_eq_true,decide_eq_true_eq,bne_iff_ne,Bool.not_eq_true'] at b
  refine ⟨fun hd=>b.1.resolve_right (fun c=>c hd),fun g=>?_⟩
  rcases b.2 with h3 | h3
  ·have:(looks l o).contains s=true:=by simpa using g
   rw [h3] at this;cases this
  ·exact h3
theorem XW {listed:Array Bool} {i:Nat} (h:listed.getD i true=false):∃ hi:i<listed.size,listed[i]=false:=by
 by_cases c:i<listed.size
 ·exact ⟨c,by simpa [c] using h⟩
 ·simp [Array.getD_eq_getD_getElem?,Array.getElem?_eq_none (Nat.le_of_not_lt c)] at h
theorem ZF {listed:Array Bool} {i:Nat} (h:listed.getD i false=true):∃ hi:i<listed.size,listed[i]=true:=by
 by_cases c:i<listed.size
 ·exact ⟨c,by simpa [c] using h⟩
 ·simp [Array.getD_eq_getD_getElem?,Array.getElem?_eq_none (Nat.le_of_not_lt c)] at h
theorem Bg {listed:Array Bool} {i j:Nat} (hi:i<listed.size) (b:Bool):(listed.setIfInBounds i true).getD j b=if i=j then true else listed.getD j b:=by
 by_cases c:i=j
 ·subst c;simp [hi]
 ·rw [Ai c]
  simp [Array.getElem?_setIfInBounds_ne c]
structure DInv (w0:World) (n:Nat) (l:List Oper) (h:Nat) (e:Env) (st:St) (C:Nat→Bool) (V:Nat→AV) (M1:Mem) (w1:World) (ds:List Deferred) (listed:Array Bool) (a:Act) (w:World) (M:Mem):Prop where
 size:listed.size=l.length
 tail:∀ t,h≤t→t<l.length→listed.getD t true=false
 closed:∀ j oj,l[j]? = some oj→listed.getD j false=true→∀ e∈oj.after,Region.binds .any e=true→listed.getD e.on false=true
 rel:RelSt w0 M st w
 tmps:a.tmps.size=n
 defers:a.defers=ds
 ext:Ext w0 M1 w1 M w
 old:∀ s x,(∀ i o,i<h→l[i]? = some o→o.dst≠some s)→look e s=some x→entryOk w0 M w (a.tmps.getD s undef) x
 new:∀ i o s,i<h→l[i]? = some o→o.dst=some s→listed.getD i false=true→entryOk w0 M w (a.tmps.getD s undef) (C i,V i)
theorem KZ {listed:Array Bool} {h:Nat} (hn:¬ ∀ j,j<h→listed.getD j false=true):∃ j,j<h∧listed.getD j false=false∧∀ i,i<j→listed.getD i false=true:=by
 induction h with
 | zero=>exact absurd (fun j a=>absurd a (by omega)) hn
 | succ h ih =>
  by_cases c:∀ j,j<h→listed.getD j false=true
  ·refine ⟨h,by omega,?_,c⟩
   cases hq:listed.getD h false with
   | false=>rfl
   | true =>
    exact absurd (fun j a=>by
     by_cases e:j=h
     ·exact e▸hq
     ·exact c j (by omega)) hn
  ·obtain ⟨j,f,b,d⟩:=ih c
   exact ⟨j,by omega,b,d⟩
theorem Zbn {l:List Oper} {h:Nat} {e:Env} {st:St} {E:Nat→Env} {C:Nat→Bool} {V:Nat→AV} {M1:Mem} {w1:World} {ds:List Deferred} {ro:Option Nat} {m:Nat} {Q:Exit→Act→World→Prop}
  (T:Trail P w0 n l (l.take h) e st E C V) (hB:Lh l h=true)
  (hend:∀ a w M,Rel w0 n M (E h) st a w→Ext w0 M1 w1 M w→a.defers=ds→wpListIn (FW ro) m P l.toArray Q (l.drop h) a w) :
  ∀ fuel listed a w M,fuel=listed.toList.count false→DInv w0 n l h e st C V M1 w1 ds listed a w M→wpAnyIn (FW ro) m P .any l.toArray Q fuel listed a w:=by
 simp only [Lh,Bool.and_eq_true,decide_eq_true_eq] at hB
 obtain ⟨⟨⟨a6,hH⟩,hT⟩,hS⟩:=hB
 have ay:(l.take h).length=h:=by simp;omega
 have f:∀ j,j<h→(l.take h)[j]? = l[j]? := fun j hj=>List.getElem?_take_of_lt hj
 have ab:∀ {j:Nat} {o:Oper},(l.take h)[j]? = some o→j<h:=fun {j o} hj=>by
  have:=(Aj.1 hj).1;omega
 have ad:∀ (i j:Nat) (o p:Oper) (s:Nat),(l.take h)[i]? = some o→(l.take h)[j]? = some p→o.dst=some s→p.dst=some s→i=j:=by
  intro i j o p s hi hj hs aq
  have a1:=ab hi
  have a2:=ab hj
  rw [f _ a1] at hi
  rw [f _ a2] at hj
  exact ((Ht hH a1 hi).2 j p s a2 hj aq).1 hs
 have g:∀ s j,j≤h→_:=fun s j hj=>Ij T ad s j (by omega)
 have Y:∀ (listed:Array Bool) (a:Act) (w:World) (M:Mem) (fuel:Nat),fuel=listed.toList.count false→DInv w0 n l h e st C V M1 w1 ds listed a w M→(∀ j,j<h→listed.getD j false=true) →
   wpAnyIn (FW ro) m P .any l.toArray Q fuel listed a w:=by
  intro listed a w M fuel hf b r
  have hl:listed=Array.replicate h true++Array.replicate (l.length-h) false:=by
   apply Array.ext
   ·simp [b.size];omega
   ·intro i z Z
    by_cases c:i<h
    ·have:=r i c
     simp only [Array.getD_eq_getD_getElem?,Array.getElem?_eq_getElem z,Option.getD_some] at this
     rw [this,Array.getElem_append_left (by simpa using c)]
     simp
    ·have:=b.tail i (by omega) (by rw [←b.size];exact z)
     simp only [Array.getD_eq_getD_getElem?,Array.getElem?_eq_getElem z,Option.getD_some] at this
     rw [this,Array.getElem_append_right (by simpa using c)]
     simp
  have aw:fuel=(l.drop h).length:=by
   rw [hf,hl]
   simp [List.count_append,List.count_replicate]
  have G:Rel w0 n M (E h) st a w:=by
   refine ⟨b.rel,b.tmps,fun s x hs=>?_⟩
   by_cases c:∃ j p,j<h∧l[j]? = some p∧p.dst=some s
   ·obtain ⟨j,p,hj,hp,hd⟩:=c
    have:=(g s h (Nat.le_refl _)).2 j p hj (by rw [f _ hj];exact hp) hd
    rw [this] at hs
    cases hs
    exact b.new j p s hj hp hd (r j hj)
   ·have:=(g s h (Nat.le_refl _)).1 (fun j p hj hp hd=>c ⟨j,p,hj,by rw [←f _ hj];exact hp,hd⟩)
    rw [this] at hs
    exact b.old s x (fun j p hj hp hd=>c ⟨j,p,hj,hp,hd⟩) hs
  rw [aw]
  refine IW (l.drop h) h listed a w (fun j=>by simp [List.getElem?_drop]) ?_ (hend a w M G b.ext b.defers)
  rw [hl,List.length_drop]
  exact hS
 have J:∀ (listed:Array Bool) (t:Nat) (o:Oper),(∀ j oj,l[j]? = some oj→listed.getD j false=true→∀ e∈oj.after,Region.binds .any e=true→listed.getD e.on false=true) →
   l[t]? = some o→h≤t→(∀ e∈o.after,Region.binds .any e=true→listed.getD e.on false=true)→∀ d j,j+d+1=t→listed.getD j false=true:=by
  intro listed t o ai ho ht u d
  induction d using Nat.strongRecOn with
  | _ d ih =>
   intro j hj
   have a5:t<l.length:=(Aj.1 ho).1
   have z:=List.all_eq_true.1 (List.all_eq_true.1 hT (t-h) (List.mem_range.2 (by omega))) j (List.mem_range.2 (by omega))
   obtain ⟨q,hq,Z⟩:=List.any_eq_true.1 z
   have a0:q≤t:=by have:=List.mem_range.1 hq;omega
   simp only [Bool.and_eq_true,decide_eq_true_eq] at Z
   obtain ⟨a4,h3⟩:=Z
   cases hoq:l[q]? with
   | none=>simp [hoq] at h3
   | some oq =>
    simp only [hoq] at h3
    obtain ⟨H,U,K,N⟩:=I2 h3
    by_cases c:q=t
    ·subst c
     rw [ho] at hoq;cases hoq
     exact N▸u H U K
    ·have:=ih (t-q-1) (by omega) q (by omega)
     exact N▸ai q oq hoq this H U K
 intro fuel
 induction fuel with
 | zero =>
  intro listed a w M hf b
  refine Y listed a w M 0 hf b (fun j hj=>?_)
  cases hq:listed.getD j false with
  | true=>rfl
  | false =>
   exfalso
   have av:j<listed.size:=by rw [b.size];omega
   have:false∈listed.toList:=by
    have e1:listed[j]=false:=by simpa [av] using hq
    rw [←e1];simp
   have:=List.count_pos_iff.2 this
   omega
 | succ fuel ih =>
  intro listed a w M hf b
  by_cases r:∀ j,j<h→listed.getD j false=true
  ·exact Y listed a w M _ hf b r
  ·obtain ⟨k,am,ae,ar⟩:=KZ r
   have ap:k<listed.size:=by rw [b.size];omega
   have au:l[k]? = some l[k]:=List.getElem?_eq_getElem (by omega)
   have O:k∈Region.ready .any l.toArray listed:=by
    refine mem_ready.2 ⟨by simpa [ap] using ae,l[k],by simp,fun H he hb=>ar _ ((Ht hH am au).1 H he hb)⟩
   refine ⟨fun h0=>absurd O (by rw [h0];simp),fun i hi=>?_⟩
   obtain ⟨ax,o,ho,u⟩:=mem_ready.1 hi
   have y:l[i]? = some o:=by simpa using ho
   have a3:i<l.length:=(Aj.1 y).1
   have aa:i<h:=by
    refine Nat.lt_of_not_le fun ao=>?_
    have:=J listed i o b.closed y ao u (i-k-1) k (by omega)
    rw [ae] at this;cases this
   obtain ⟨t1,t2,t3,t4,t5⟩:=T.step i o (by rw [f _ aa];exact y)
   have F:=Ht hH aa y
   have G:Rel w0 n M (AK true l o (E i)) st a w:=by
    refine ⟨b.rel,b.tmps,fun s x hs=>?_⟩
    simp only [AK,if_true] at hs
    have hm:=Ie _ _ _ _ hs
    have hl:=GI _ _ _ _ hs
    by_cases c:∃ j p,j<h∧l[j]? = some p∧p.dst=some s
    ·obtain ⟨j,p,hj,hp,hd⟩:=c
     obtain ⟨ak,hw⟩:=(F.2 j p s hj hp hd).2 hm
     obtain ⟨H,U,K,N⟩:=I2 hw
     have ah:listed.getD j false=true:=N▸u H U K
     have:=(g s i (by omega)).2 j p ak (by rw [f _ hj];exact hp) hd
     rw [this] at hl
     cases hl
     exact b.new j p s hj hp hd ah
    ·have:=(g s i (by omega)).1 (fun j p hj hp hd=>c ⟨j,p,by omega,by rw [←f _ (by omega)];exact hp,hd⟩)
     rw [this] at hl
     exact b.old s x (fun j p hj hp hd=>c ⟨j,p,hj,hp,hd⟩) hl
   unfold wpOpIn
   simp only [ho]
   have D:i<listed.size:=by rw [b.size];omega
   refine Lo G ro m t2 (by rw [t4];exact t5) Q _ fun v w' M' hx ag hv=>?_
   rw [t4] at hv
   refine ih _ _ _ M' ?_ ?_
   ·have af:listed[i]=false:=by simpa [D] using ax
    have az:0<listed.toList.count false:=List.count_pos_iff.2 (by rw [←af];simp)
    rw [Array.toList_setIfInBounds,List.count_set (by simpa using D)]
    simp only [Array.getElem_toList,af]
    rw [Ah (show (false == false)=true from rfl),Ai (show ¬ (true == false)=true by decide)]
    omega
   ·have keep:∀ s x,o.dst≠some s→entryOk w0 M w (a.tmps.getD s undef) x→entryOk w0 M' w' ((a.put o.dst v).tmps.getD s undef) x:=by
     intro s x aj z
     rw [EM a o.dst v s (by rw [b.tmps];exact t3),Ai aj]
     exact z.mono hx
    refine ⟨by simp [b.size],fun t z Z=>?_,fun j oj hj hl H he hb=>?_,ag,by rw [JC];exact b.tmps,by rw [Ea];exact b.defers,b.ext.trans hx,fun s x z Z=>?_,fun j p s hj hp hd hl=>?_⟩
    ·rw [Bg D,Aa];exact b.tail t z Z
    ·rw [Bg D] at hl ⊢
     split
     ·rfl
     ·by_cases c:i=j
      ·subst c
       rw [y] at hj;cases hj
       exact u H he hb
      ·rw [Ai c] at hl
       exact b.closed j oj hj hl H he hb
    ·exact keep s x (z i o aa y) (b.old s x z Z)
    ·by_cases c:i=j
     ·subst c
      rw [y] at hp;cases hp
      rw [EM a o.dst v s (by rw [b.tmps];exact t3),Ah hd]
      exact hv
     ·rw [Bg D,Ai c] at hl
      refine keep s _ (fun hs=>c ((F.2 j p s hj hp hd).1 hs)) (b.new j p s hj hp hd hl)
theorem VM {M0:Mem} {W0:World} {ro:Option Nat} {Q:AQ} {e:Env} {st:St} (hm:P.follows .mixedOrders=true) (h:Nat) (c1 c2:Nat) (L:List Nat) {id:Nat} {l:List Oper} (hB:Lh l h=true)
  (hev:MC P w0 n true l (fun e1 s1=>MC P w0 n false l (fun e2 s2=>Q .normal (DD L e2) s2) c2 (l.drop h) e1 s1) c1 (l.take h) e st):Da P w0 n M0 W0 ro (.region id l.toArray true) Q e st:=by
 intro m M a w b
 obtain ⟨E,C,V,T,q⟩:=LN _ _ _ hev
 have v:h≤l.length:=by
  simp only [Lh,Bool.and_eq_true,decide_eq_true_eq] at hB;exact hB.1.1.1
 have d:(l.take h).length=h:=by simp;omega
 rw [d] at q
 obtain ⟨u,o⟩:=b.rel.st.drew
 refine wpIn_region_any hm (Zbn T hB (M1:=M) (w1:=w) (ds:=a.defers) (fun a1 w1 M1 i g k=>?_) _ _ a _ M (by simp) ?_)
 ·refine Ig ro m false l _ _ c2 _ _ st a1 w1 M1 i q fun e2 s2 a2 F y z D p q2=>⟨y,_,_,⟨D.sub (EW L _),b.ext.trans (g.trans p),?_⟩,z⟩
  rw [q2,k]
  exact b.marks.later (g.trans p) b.rel.st
 ·exact ⟨by simp,fun t _ r=>by simp [Array.getD_eq_getD_getElem?,r],fun j _ _ f=>by
   exfalso
   by_cases c:j<l.length
   ·simp [Array.getD_eq_getD_getElem?,c] at f
   ·simp [Array.getD_eq_getD_getElem?,c] at f,u,b.rel.size,rfl,o,fun s x _ hs=>(b.rel.env s x hs).mono o,fun j _ _ _ _ _ f=>by
   exfalso
   by_cases c:j<l.length
   ·simp [Array.getD_eq_getD_getElem?,c] at f
   ·simp [Array.getD_eq_getD_getElem?,c] at f⟩
end
def St.ext (s X:St):St:=⟨s.boxes++X.boxes,s.rows++X.rows,s.loops++X.loops⟩
def St.push (s:St) (la:LoopA):St:={ s with loops:=s.loops++[la] }
def St.like (s t:St):Prop:=s.boxes.length=t.boxes.length∧t.rows.length≤s.rows.length∧s.loops.length=t.loops.length
def ZbQ (PX:St→Prop) (P:Program) (w0:World) (gf:FuncId) (caps:List AV) (items:Ao) (Fr:St→Prop):Prop :=
 ∀ (k:Nat) (J:Nat→St→Prop) (Jx:St→Prop),(∀ i s,J i s→Fr s∧k<s.loops.length) →
  (∀ i s x X,PX X→J i s→items[i]? = some x→Nb P w0 k x (s.ext X) fun r s'=>∃ t,s'=t.ext X∧t.like s∧((r = .val (.bool true)∧J (i+1) t)∨(r = .val (.bool false)∧Jx t))) →
  ∀ s,J 0 s→ACalls P w0 gf (.yld k::caps) s fun _ s'=>∃ t X,X.rows=[]∧s'=St.ext t X∧(J items.length t∨Jx t)
abbrev ZlJ (P:Program) (w0:World) (gf:FuncId) (caps:List AV) (items:Ao) (Fr:St→Prop):Prop:=ZbQ (fun X=>X.rows=[]) P w0 gf caps items Fr
def Pl:Env→List Nat→List AV→Env
 | e,p::ps,x::xs=>Pl ((p,true,x)::e) ps xs
 | e,_,_=>e
section
variable {P:Program} {w0:World} {n:Nat} {M:Mem} {e:Env} {st:St} {a:Act} {w:World}
theorem Rel.bind:∀ (ps:List Nat) (vs:List Value) (xs:List AV) (e:Env) (a:Act),Rel w0 n M e st a w→ps.length=xs.length→(∀ p∈ps,p<n)→vs.length=xs.length→(∀ (i:Nat) (v:Value) (x:AV),vs[i]? = some v→xs[i]? = some x→R w0 M w v x) →
  Rel w0 n M (Pl e ps xs) st { tmps:=(ps.zip vs).foldl (fun t (p,v)=>t.setIfInBounds p v) a.tmps,defers:=a.defers } w
 | [],[],[],_,_,h,_,_,_,_=>h
 | p::ps,v::vs,x::xs,e,a,h,h1,h2,h3,h4=>by
  simp only [List.zip_cons_cons,List.foldl_cons,Pl]
  have b:p<n:=h2 p (by simp)
  have:=h.put (M':=M) (w':=w) (st':=st) (.refl _ _ _) h.st (dst:=some p) b (c:=true) (v:=v) (r:=x) (h4 0 v x rfl rfl)
  exact Rel.bind ps vs xs _ (a.put (some p) v) this (by simpa using h1) (fun q d=>h2 q (by simp [d])) (by simpa using h3) (fun i u y f g=>h4 (i+1) u y f g)
 | [],_::_,[],_,_,_,_,_,h,_=>by simp at h
 | [],_,_::_,_,_,_,h,_,_,_=>by simp at h
 | _::_,_,[],_,_,_,h,_,_,_=>by simp at h
 | _::_,[],_::_,_,_,_,_,_,h,_=>by simp at h
theorem RelSt.setLoop (h:RelSt w0 M st w) {k:Nat} {la:LoopA} (hk:st.loops[k]? = some la) (s:LoopState) (p:Option Code) {r:Loop} (hr:w.heap[M.lb k]? = some (.loop r)) :
  RelSt w0 M { st with loops:=st.loops.set k { la with st:=s,pend:=p } } (w.putObj (M.lb k) (.loop { r with state:=s,pending:=p }))∧Ext w0 M w M (w.putObj (M.lb k) (.loop { r with state:=s,pending:=p })):=by
 have g:k<st.loops.length:=(Aj.1 hk).1
 have a:k<M.NL:=by rw [h.loop.NL];exact g
 have n:M.lb k<w.heap.size:=(Array.getElem?_eq_some_iff.1 hr).1
 obtain ⟨g0,Q⟩:=h.loop.record k la hk
 obtain ⟨K,g2,g3,g4,g5,g6,H,U⟩:=Q.isLoop hr
 generalize ho':Obj.loop { r with state:=s,pending:=p }=o'
 have hs:Qh M w (w.putObj (M.lb k) o'):=⟨fun b d v=>Jg hr rfl,fun b es Z hb O=>by rw [World.putObj_heap_other (fun e=>O k a e.symm)];exact hb⟩
 have C:∀ {b:Nat} {c:Array Value} {f:TypeId},w.heap[b]? = some (.cells c f (0,0))→(w.putObj (M.lb k) o').heap[b]? = some (.cells c f (0,0)):=by
  intro b c f hb
  rw [World.putObj_heap_other (fun e=>by subst e;rw [hr] at hb;cases hb)]
  exact hb
 refine ⟨⟨Below.putObj h.below g0 _,h.N,h.NR,fun b hb=>h.top b (by simpa using hb),h.inj,fun l cs u=>?_,fun id x E=>(h.row id x E).same hs C (by simp),h.rowinj,⟨by simp [h.loop.NL],h.loop.inj,fun j Y hj=>?_⟩⟩,
  ⟨Nat.le_refl _,fun _ _=>rfl,Nat.le_refl _,fun _ _=>⟨Nat.le_refl _,fun _=>⟨rfl,rfl,rfl⟩⟩,fun b d v m G=>⟨hs.1 b d v G,m⟩,by simp,Nat.le_refl _,fun _ _=>rfl,fun _ _ _=>by omega,fun b o m _ V=>?_,fun b _ q=>⟨World.putObj_heap_other (fun e=>q.2.2 k a e.symm),q,rfl⟩⟩⟩
 ·obtain ⟨a1,a2,c,f,a3,a4,a5,a6⟩:=h.box l cs u
  exact ⟨a1,a2,c,f,C a3,a4,a5,fun i J D=>(a6 i J D).same hs⟩
 ·by_cases q:j=k
  ·subst q
   rw [List.getElem?_set_self g] at hj
   cases hj
   exact ⟨g0,.ofLoop K ⟨{ r with state:=s,pending:=p },by rw [←ho'];exact World.putObj_heap_same n,rfl,rfl,g4,g5,g6,H,fun s x t=>(U s x t).same hs⟩⟩
  ·rw [List.getElem?_set_ne (Ne.symm q)] at hj
   have y:j<M.NL:=by rw [h.loop.NL];exact (Aj.1 hj).1
   obtain ⟨a1,a2⟩:=h.loop.record j Y hj
   exact ⟨a1,a2.map (fun o z _=>by rw [World.putObj_heap_other (fun e=>q (h.loop.inj j k y a e))];exact z) fun s x v _ F=>F.same hs⟩
 ·rw [World.putObj_heap_other (fun e=>V k a e.symm)]
  exact m
def Mem.newLoop (M:Mem) (b:Nat):Mem:={ M with NL:=M.NL+1,lb:=fun k=>if k=M.NL then b else M.lb k }
theorem Rel.newLoop (h:Rel w0 n M e st a w) (fn:FuncId) (ps:Array Tmp) (asg body:Code) :
  RelSt w0 (M.newLoop (w.heap.size+1)) (st.push ⟨e,n,ps,asg,body,.ready,none,none⟩) ((w.alloc (.deferred (some []))).alloc (.loop { state := .ready,pending:=none,fn,tmps:=a.tmps,params:=ps,assign:=asg,body,defers:=w.heap.size })) ∧
  Ext w0 M w (M.newLoop (w.heap.size+1)) ((w.alloc (.deferred (some []))).alloc (.loop { state := .ready,pending:=none,fn,tmps:=a.tmps,params:=ps,assign:=asg,body,defers:=w.heap.size })):=by
 generalize hr:({ state := .ready,pending:=none,fn,tmps:=a.tmps,params:=ps,assign:=asg,body,defers:=w.heap.size }:Loop)=r
 have p:KeepsObj w ((w.alloc (.deferred (some []))).alloc (.loop r)):=(KeepsObj.alloc _ _).trans (KeepsObj.alloc _ _)
 have t:∀ (b g:Nat) (v:Value),w.cell? ⟨b,g,none⟩=some v→((w.alloc (.deferred (some []))).alloc (.loop r)).cell? ⟨b,g,none⟩=some v:=by
  intro b g v hv
  have m:=World.block_lt_of_cell? w _ hv
  rw [World.cell?_alloc_lt _ _ _ (by simp;exact Nat.lt_succ_of_lt m),World.cell?_alloc_lt _ _ _ m]
  exact hv
 have d:∀ k,k<M.NL→(M.newLoop (w.heap.size+1)).lb k=M.lb k:=fun k hk=>by simp [Mem.newLoop];omega
 have hnew:(M.newLoop (w.heap.size+1)).lb M.NL=w.heap.size+1:=by simp [Mem.newLoop]
 have z:Ext w0 M w (M.newLoop (w.heap.size+1)) ((w.alloc (.deferred (some []))).alloc (.loop r)) :=
  ⟨Nat.le_refl _,fun _ _=>rfl,Nat.le_refl _,fun _ _=>⟨Nat.le_refl _,fun _=>⟨rfl,rfl,rfl⟩⟩,fun b g v C y=>⟨t b g v y,C⟩,by simp;omega,Nat.le_succ _,d,fun k C y=>by
   have:k=M.NL:=by simp only [Mem.newLoop] at y;omega
   rw [this,hnew];omega,fun b o C y _=>p b o C y,fun b q1 q=>⟨by rw [AW _ _ (by simp;omega),AW _ _ q1],⟨q.1,q.2.1,fun k hk=>by
    by_cases c:k=M.NL
    ·subst c;rw [hnew];omega
    ·have f:k<M.NL:=by simp only [Mem.newLoop] at hk;omega
     rw [d k f];exact q.2.2 k f⟩,rfl⟩⟩
 have G:∀ {b:Nat},b<w.heap.size→((w.alloc (.deferred (some []))).alloc (.loop r)).heap[b]? = w.heap[b]? := fun {b} E=>by
  rw [AW _ _ (by simp;omega),AW _ _ E]
 refine ⟨⟨(h.st.below.alloc h.st.base_le _).alloc (by have:=h.st.base_le;simp;omega) _,h.st.N,h.st.NR,fun b E=>h.st.top b (by simp at E;omega),h.st.inj,fun l cs V=>?_,fun id x D=>(h.st.row id x D).keep z rfl rfl rfl rfl rfl (h.st.row id x D).ne (G (h.st.row id x D).lt),h.st.rowinj,⟨by simp [Mem.newLoop,St.push,h.st.loop.NL],fun k u hk f q=>?_,fun k K hk=>?_⟩⟩,z⟩
 ·obtain ⟨a1,a2,c,U,a3,a4,a5,a6⟩:=h.st.box l cs V
  exact ⟨a1,a2,c,U,by rw [show (M.newLoop (w.heap.size+1)).bx l=M.bx l from rfl,G (Array.getElem?_eq_some_iff.1 a3).1];exact a3,a4,a5,fun i Q H=>(a6 i Q H).mono z⟩
 ·have m:∀ j,j<M.NL→M.lb j<w.heap.size:=fun j O=>by
   exact (h.st.loop.record j _ (List.getElem?_eq_getElem (by rw [←h.st.loop.NL];exact O))).2.lt
  simp only [Mem.newLoop] at hk f
  by_cases c:k=M.NL
  ·by_cases c':u=M.NL
   ·omega
   ·subst c
    rw [hnew,d u (by omega)] at q
    have:=m u (by omega)
    omega
  ·by_cases c':u=M.NL
   ·subst c'
    rw [hnew,d k (by omega)] at q
    have:=m k (by omega)
    omega
   ·rw [d k (by omega),d u (by omega)] at q
    exact h.st.loop.inj k u (by omega) (by omega) q
 ·simp only [St.push] at hk
  by_cases c:k=st.loops.length
  ·subst c
   simp only [List.getElem?_concat_length,Option.some.injEq] at hk
   subst hk
   rw [←h.st.loop.NL,hnew]
   refine ⟨by have:=h.st.base_le;omega,.ofLoop rfl ⟨r,?_,?_⟩⟩
   ·have:=World.alloc_heap_new (w.alloc (.deferred (some []))) (.loop r)
    rwa [World.size_alloc] at this
   ·have F:r.tmps=a.tmps:=by rw [←hr]
    exact ⟨by rw [←hr],by rw [←hr],by rw [←hr],by rw [←hr],by rw [←hr],by rw [F];exact h.size,fun s x hs=>by rw [F];exact (h.env s x hs).mono z⟩
  ·have f:k<st.loops.length:=by
    have:=(Aj.1 hk).1
    simp at this;omega
   rw [List.getElem?_append_left f] at hk
   obtain ⟨a1,a2⟩:=h.st.loop.record k K hk
   rw [d k (by rw [h.st.loop.NL];exact f)]
   exact ⟨a1,a2.map (fun o q1 q2=>p _ _ q1 q2) fun s x v _ J=>J.mono z⟩
def XF (I:Exit→St→Prop) (s1 X:St) (la:LoopA):AQ:=fun x _ s =>
 ∃ t b,s=⟨t.boxes++X.boxes++b,t.rows,(s1.loops++[la])++X.loops⟩∧t.like s1∧t.loops=s1.loops∧I x t ∧
  (b=[]∨Calm (s1.boxes.length+X.boxes.length) t.rows.length s.loops.length ⟨t.boxes++X.boxes,t.rows,s.loops⟩)
def JZ:Exit→Option (Option Code)
 | .normal=>some none
 | .ret=>some (some .ret)
 | .exit id=>some (some (.exit id))
 | _=>none
theorem ZY {M0:Mem} {W0:World} {I:Exit→St→Prop} {s1 X:St} (hX:X.rows=[]) {la:LoopA} (hka:la.keys=none) {Post:AV→St→Prop} {x:Exit} {jump:Option Code}
  (h0:RelSt w0 M0 ((s1.push { la with st := .ready,pend:=none }).ext X) W0) (hx0:Ext w0 M0 W0 M w) {e':Env} {s':St} (hr:RelSt w0 M s' w) (hq:XF I s1 X { la with st := .busy,pend:=none } x e' s')
  (hpost:∀ t,t.like s1→t.loops=s1.loops→I x t→Post (.val (.bool jump.isNone)) ((t.push { la with st:=if jump.isNone then .ready else .done,pend:=jump }).ext X)) :
  ∃ v w',(Instr.endRound (M0.lb s1.loops.length) jump).run P w = .ok v w'∧Comes' w0 M0 W0 Post (.returned v) w':=by
 obtain ⟨t,b,rfl,p,n,r,t4⟩:=hq
 have o:((s1.loops++[{ la with st := .busy,pend:=none }])++X.loops)[s1.loops.length]? = some { la with st := .busy,pend:=none }:=by
  rw [List.getElem?_append_left (by simp),List.getElem?_concat_length]
 obtain ⟨z,g1,_⟩:=(hr.loop.record _ _ o).2.loop hka
 have g:s1.loops.length<M0.NL:=by rw [h0.loop.NL];simp [St.ext,St.push]
 rw [←hx0.lb _ g]
 obtain ⟨e,s⟩:=hr.setLoop o (if jump.isNone then .ready else .done) jump g1
 refine ⟨_,_,run_endRound jump g1,?_⟩
 have u:((s1.loops++[{ la with st := .busy,pend:=none }])++X.loops).set s1.loops.length { la with st:=if jump.isNone then .ready else .done,pend:=jump }=(s1.loops++[{ la with st:=if jump.isNone then .ready else .done,pend:=jump }])++X.loops:=by
  rw [List.set_append_left _ _ (by simp),List.set_append_right _ _ (by simp)]
  simp
 simp only at e
 rw [u] at e
 have f:=hx0.trans s
 have hd:M0.N=s1.boxes.length+X.boxes.length∧M0.NR=s1.rows.length∧M0.NL=s1.loops.length+1+X.loops.length:=by
  refine ⟨by rw [h0.N];simp [St.ext,St.push],by rw [h0.NR];simp [St.ext,St.push,hX],by rw [h0.loop.NL];simp [St.ext,St.push];omega⟩
 obtain ⟨C,D,G⟩:=p
 have j:=hpost t ⟨C,D,G⟩ n r
 have h:(t.push { la with st:=if jump.isNone then .ready else .done,pend:=jump }).ext X=⟨t.boxes++X.boxes,t.rows,(s1.loops++[{ la with st:=if jump.isNone then .ready else .done,pend:=jump }])++X.loops⟩:=by
  simp only [St.push,St.ext,n,hX,List.append_nil]
 rw [h] at j
 have c:∀ M' w',R w0 M' w' (.bool jump.isNone) (.val (.bool jump.isNone)):=fun _ _ => .flat rfl
 rcases t4 with rfl | t4
 ·simp only [List.append_nil] at e
  exact ⟨_,M,_,_,rfl,j,f,e,c _ _⟩
 ·refine ⟨_,M.cut (s1.boxes.length+X.boxes.length) t.rows.length (s1.loops.length+1+X.loops.length),_,_,rfl,j,f.cut (by omega) (by omega) (by omega) (by rw [e.loop.NL];simp;omega) (by rw [e.N];simp;omega) (by rw [e.NR];exact Nat.le_refl _),?_,c _ _⟩
  have d:=e.cut (nb:=s1.boxes.length+X.boxes.length) (nr:=t.rows.length) (nl:=s1.loops.length+1+X.loops.length) (by simp;omega) (by simp) (by simp;omega)
  have e1:List.take (s1.boxes.length+X.boxes.length) (t.boxes++X.boxes++b)=t.boxes++X.boxes:=List.take_left' (by simp;omega)
  have E:List.take t.rows.length t.rows=t.rows:=List.take_length
  have F:∀ a,List.take (s1.loops.length+1+X.loops.length) (s1.loops++[a]++X.loops)=s1.loops++[a]++X.loops:=fun a=>List.take_of_length_le (by simp;omega)
  simp only [St.cut,e1,E,F] at d
  have i:(s1.loops++[{ la with st:=LoopState.busy,pend:=none }]++X.loops).length=s1.loops.length+1+X.loops.length:=by simp;omega
  refine d ⟨?_,?_,fun a hla k y m l=>?_⟩
  ·have:=t4.rows
   simp only [i] at this
   exact this
  ·have:=t4.boxes
   simp only [i] at this
   exact this
  ·have q:=t4.loops
   simp only [i] at q
   simp only [List.mem_append,List.mem_singleton] at hla q
   rcases hla with (hla | rfl) | hla
   ·exact q a (.inl (.inl hla)) k y m l
   ·exact q { la with st := .busy,pend:=none } (.inl (.inr rfl)) k y m l
   ·exact q a (.inr hla) k y m l
structure RoundAt (M0:Mem) (s:St):Prop where
 N:M0.N=s.boxes.length
 NR:M0.NR=s.rows.length
 NL:M0.NL=s.loops.length
 calm:Calm s.boxes.length s.rows.length s.loops.length s
theorem RoundAt.turn {M0:Mem} {s X:St} {la la':LoopA} (h:RoundAt M0 ((s.push la).ext X)) (he:la'.e=la.e):RoundAt M0 ((s.push la').ext X) where
 N:=h.N
 NR:=h.NR
 NL:=by rw [h.NL];simp [St.ext,St.push]
 calm:=by
  have f:((s.push la').ext X).loops.length=((s.push la).ext X).loops.length:=by simp [St.ext,St.push]
  rw [f]
  refine ⟨h.calm.rows,h.calm.boxes,fun l d k x a b=>?_⟩
  have c:l∈s.loops∨l=la'∨l∈X.loops:=by simpa [St.ext,St.push,or_assoc] using d
  rcases c with q | rfl | q
  ·exact h.calm.loops l (by simp [St.ext,St.push,q]) k x a b
  ·rw [he] at a
   exact h.calm.loops la (by simp [St.ext,St.push]) k x a b
  ·exact h.calm.loops l (by simp [St.ext,St.push,q]) k x a b
theorem ZC {la:LoopA} (hka:la.keys=none) {s1 X:St} (hX:X.rows=[]) {I:Exit→St→Prop} {x:List AV} {Post:AV→St→Prop} (hlen:x.length=la.ps.size) (hps:∀ p∈la.ps.toList,p<la.n)
  (hbody:∀ (M0:Mem) (W0:World) (l:Nat),RoundAt M0 ((s1.push { la with st := .ready,pend:=none }).ext X)→RoundAt M0 ((s1.push { la with st := .busy,pend:=none }).ext X)→Da P w0 la.n M0 W0 (some l) la.asg (SK (fun e' s'=>s'.loops=((s1.push { la with st := .ready,pend:=none }).ext X).loops ∧
   Da P w0 la.n M0 W0 (some l) la.body (XF I s1 X { la with st := .busy,pend:=none }) e' { s' with loops:=((s1.push { la with st := .busy,pend:=none }).ext X).loops }) (fun _ _ _=>False))
   (Pl la.e la.ps.toList x) ((s1.push { la with st := .ready,pend:=none }).ext X))
  (hI:∀ ex s,I ex s→(JZ ex).isSome=true)
  (hpost:∀ ex jump t,JZ ex=some jump→t.like s1→t.loops=s1.loops→I ex t→Post (.val (.bool jump.isNone)) ((t.push { la with st:=if jump.isNone then .ready else .done,pend:=jump }).ext X)) :
  Nb P w0 s1.loops.length x ((s1.push { la with st := .ready,pend:=none }).ext X) Post:=by
 intro M w d c f
 have hk:((s1.push { la with st := .ready,pend:=none }).ext X).loops[s1.loops.length]? = some { la with st := .ready,pend:=none }:=by
  simp only [St.ext,St.push]
  rw [List.getElem?_append_left (by simp),List.getElem?_concat_length]
 obtain ⟨r,g1,g2,g3,g4,g5,g6,V,Z⟩:=(c.loop.record _ _ hk).2.loop hka
 simp only at g2 g3 g4 g5 g6 V Z
 have Q:=run_yield (P:=P) (args:=d) g1 (by rw [g4,f.1,hlen])
 refine ⟨_,_,_,_,Q,fun m=>roundIn_of_wpIn (F:=Fence.wide) trivial ?_⟩
 rw [g5,g6]
 have q:Rel w0 la.n M la.e ((s1.push { la with st := .ready,pend:=none }).ext X) { tmps:=r.tmps,defers:=[] } w:=⟨c,V,Z⟩
 have D:=Rel.bind la.ps.toList d.toList x la.e _ q (by simp [hlen]) hps (by simp [f.1]) (fun i v y hv Q=>f.get (by rw [←Array.getElem?_toList];exact hv) Q)
 have K:(r.params.zip d).foldl (fun tmps (t,a)=>tmps.setIfInBounds t a) r.tmps=(la.ps.toList.zip d.toList).foldl (fun t (p,v)=>t.setIfInBounds p v) r.tmps:=by
  rw [g4,←Array.foldl_toList,Array.toList_zip]
 rw [K]
 refine wpIn_mono (hbody M w (M.lb s1.loops.length) ⟨c.N,c.NR,c.loop.NL,c.calm⟩ (RoundAt.turn (la:={ la with st := .ready,pend:=none }) ⟨c.N,c.NR,c.loop.NL,c.calm⟩ rfl) m M _ w ⟨D,.refl _ _ _,[],by simp⟩) ?_
 rintro ex a1 w1 ⟨M1,e1,s',g,U⟩
 cases ex with
 | normal =>
  obtain ⟨z,hb⟩:=U
  have o:s'.loops[s1.loops.length]? = some { la with st := .ready,pend:=none }:=by rw [z];exact hk
  obtain ⟨G,E,k2,_⟩:=(g.rel.st.loop.record _ _ o).2.loop hka
  have O:s1.loops.length<M.NL:=by rw [c.loop.NL];simp [St.ext,St.push]
  have h:=g.ext.lb _ O
  rw [h] at E
  refine ⟨_,run_beginRound E k2,?_⟩
  obtain ⟨u,C⟩:=g.rel.st.setLoop o .busy none (by rw [h];exact E)
  rw [h] at u C
  have k:G.pending=none:=by
   obtain ⟨aa,k1',_,H,_⟩:=(g.rel.st.loop.record _ _ o).2.loop hka
   rw [h,E] at k1'
   cases k1'
   exact H
  have er:({ G with state:=LoopState.busy,pending:=none }:Loop)={ G with state:=LoopState.busy }:=by rw [←k]
  rw [er] at u C
  have eL:{ s' with loops:=s'.loops.set s1.loops.length { la with st := .busy,pend:=none } }={ s' with loops:=((s1.push { la with st := .busy,pend:=none }).ext X).loops }:=by
   rw [z]
   simp only [St.ext,St.push]
   rw [List.set_append_left _ _ (by simp),List.set_append_right _ _ (by simp)]
   simp
  simp only at u
  rw [eL] at u
  have J:At w0 la.n M w e1 { s' with loops:=((s1.push { la with st := .busy,pend:=none }).ext X).loops } a1 (w1.putObj (M.lb s1.loops.length) (.loop { G with state := .busy })) M1 :=
   ⟨⟨u,g.rel.size,fun s x hs=>(g.rel.env s x hs).mono C⟩,g.ext.trans C,g.marks.later C g.rel.st⟩
  refine wpIn_mono (hb m M1 a1 _ J) ?_
  rintro ex a2 w2 ⟨M2,e2,s2,h3,Y⟩
  have j:=hI ex
  have fin:∀ jump,JZ ex=some jump→∃ v w',(Instr.endRound (M.lb s1.loops.length) jump).run P w2 = .ok v w'∧Comes' w0 M w Post (.returned v) w':=fun jump hj =>
   ZY hX hka (jump:=jump) c h3.ext h3.rel.st Y (fun t t1 t2 t3=>hpost ex jump t hj t1 t2 t3)
  obtain ⟨t,b,q1,q2,q3,q4,q5⟩:=Y
  have:=j t q4
  cases ex with
  | normal=>exact fin _ rfl
  | ret=>exact fin _ rfl
  | exit id=>exact fin _ rfl
  | _=>simp [JZ] at this
 | _=>exact U.elim
theorem Zaj {PX:St→Prop} {M0:Mem} {W0:World} {Q:AQ} {g:Operand} {ps:Array Tmp} {asg body:Code} {gf:FuncId} {caps:List AV} (items:Ao) (Fr:St→Prop) (I:Nat→St→Prop) (Ix:Exit→St→Prop)
  (hg:argOk e true g) (hgv:Aq e g = .clo gf caps) (hit:ZbQ PX P w0 gf caps items Fr) (hlen:∀ x∈items,x.length=ps.size) (hps:∀ p∈ps.toList,p<n)
  (hFr:∀ i s la,I i s→s.like st→s.loops=st.loops→Fr (s.push la)) (h0:I 0 st) (hIx:∀ ex s,Ix ex s→ex = .ret∨∃ id,ex = .exit id)
  (hbody:∀ (i:Nat) (s1 X:St) (x:List AV) (M0:Mem) (W0:World) (l:Nat) (la la':LoopA),PX X→I i s1→s1.like st→s1.loops=st.loops→items[i]? = some x→RoundAt M0 ((s1.push la').ext X) →
   ∀ K:Env→St→Prop,(∀ e' s',s'.loops=((s1.push la).ext X).loops→(∀ KQ:AQ,(∀ ex e s,XF (fun ex s=>match ex with | .normal=>I (i+1) s | _=>Ix ex s) s1 X la' ex e s→KQ ex e s)→Da P w0 n M0 W0 (some l) body KQ e' { s' with loops:=((s1.push la').ext X).loops })→K e' s') →
   Da P w0 n M0 W0 (some l) asg (SK K (fun _ _ _=>False)) (Pl e ps.toList x) ((s1.push la).ext X))
  (hdone:∀ s la X,X.rows=[]→I items.length s→s.like st→s.loops=st.loops→Q .normal e ((s.push la).ext X))
  (hleft:∀ ex s la X,X.rows=[]→Ix ex s→s.like st→s.loops=st.loops→Q ex e ((s.push la).ext X)) (hPX:∀ X,PX X→X.rows=[]:=by first | exact fun _ h=>h | exact fun _ h=>h▸rfl):Da P w0 n M0 W0 none (.rangeFunc g ps asg body) Q e st:=by
 intro m M a w j
 refine wpIn_rangeFunc fun fn _=>?_
 obtain ⟨n1,n2⟩:=j.rel.newLoop fn ps asg body
 obtain ⟨cs,ae,C⟩:=Un (hgv▸AP j.rel hg)
 generalize hW1:((w.alloc (.deferred (some []))).alloc (.loop { state := .ready,pending:=none,fn,tmps:=a.tmps,params:=ps,assign:=asg,body,defers:=w.heap.size }))=W1 at n1 n2
 generalize hM1:M.newLoop (w.heap.size+1)=M1 at n1 n2
 have ag:M.NL=st.loops.length:=j.rel.st.loop.NL
 have E:M1.lb st.loops.length=w.heap.size+1:=by rw [←hM1,←ag];simp [Mem.newLoop]
 have V:∀ k,k<st.loops.length→M1.lb k<w.heap.size:=fun k hk=>by
  rw [n2.lb k (by omega)]
  exact (j.rel.st.loop.record k _ (List.getElem?_eq_getElem hk)).2.lt
 have am:M1.NL=st.loops.length+1:=by rw [n1.loop.NL];simp [St.push]
 have z:W1.heap[w.heap.size]? = some (.deferred (some [])):=by
  rw [←hW1];exact (AW _ _ (by simp)).trans (World.alloc_heap_new w _)
 let la0:LoopA:=⟨e,n,ps,asg,body,.ready,none,none⟩
 let J:Nat→St→Prop:=fun i s=>∃ s1,I i s1∧s1.like st∧s1.loops=st.loops∧s=s1.push la0
 let Jx:St→Prop:=fun s=>∃ ex c s1,JZ ex=some (some c)∧Ix ex s1∧s1.like st∧s1.loops=st.loops∧s=s1.push { la0 with st := .done,pend:=some c }
 have o:=hit st.loops.length J Jx (fun i s ⟨s1,F,u,j3,j4⟩=>⟨by rw [j4];exact hFr i s1 la0 F u j3,by rw [j4];simp [St.push,j3]⟩)
  (fun i s x X Z ⟨s1,F,u,j3,j4⟩ O=>by
   subst j4
   have:=ZC rfl (hPX X Z) (P:=P) (w0:=w0) (la:=la0) (s1:=s1) (X:=X) (I:=fun ex s=>match ex with | .normal=>I (i+1) s | _=>Ix ex s) (x:=x)
    (Post:=fun r s'=>∃ t,s'=t.ext X∧t.like (s1.push la0)∧((r = .val (.bool true)∧J (i+1) t)∨(r = .val (.bool false)∧Jx t)))
    (hlen x (List.mem_of_getElem? O)) hps (fun M0 W0 l _ ak=>hbody i s1 X x M0 W0 l _ _ Z F u j3 O ak _ (fun e' s' h1 N=>⟨h1,N _ (fun _ _ _ h=>h)⟩))
    (fun ex s h=>by
     cases ex with
     | normal=>rfl
     | ret=>rfl
     | exit id=>rfl
     | _=>rcases hIx _ s h with h | ⟨id,h⟩<;>cases h)
    (fun ex ao t hj Y t2 t3=>by
     refine ⟨_,rfl,⟨Y.1,Y.2.1,by simp [St.push,t2]⟩,?_⟩
     have like':t.like st:=⟨Y.1.trans u.1,Nat.le_trans u.2.1 Y.2.1,Y.2.2.trans u.2.2⟩
     cases ex with
     | normal=>cases hj;exact .inl ⟨rfl,t,t3,like',t2.trans j3,rfl⟩
     | ret=>cases hj;exact .inr ⟨rfl,.ret,.ret,t,rfl,t3,like',t2.trans j3,rfl⟩
     | exit id=>cases hj;exact .inr ⟨rfl,.exit id,.exit id,t,rfl,t3,like',t2.trans j3,rfl⟩
     | _=>cases hj)
   rw [j3] at this
   exact this)
  (st.push la0) ⟨st,h0,⟨rfl,Nat.le_refl _,rfl⟩,rfl,rfl⟩
 have H:RowR w0 M1 W1 (#[.func (.yield (w.heap.size+1)) #[] #[]]++cs) (.yld st.loops.length::caps):=by
  have e1:RowR w0 M1 W1 #[.func (.yield (w.heap.size+1)) #[] #[]] [.yld st.loops.length]:=by
   refine ⟨rfl,fun i h1 N=>?_⟩
   have:i=0:=by simp at N;exact N
   subst this
   have:=R.yld (w0:=w0) (M:=M1) (w:=W1) (k:=st.loops.length) (by omega)
   rw [E] at this
   exact this
  have e2:RowR w0 M1 W1 cs caps:=⟨C.1,fun i h1 N=>(C.2 i h1 N).mono n2⟩
  exact e1.append e2
 refine ⟨w.heap.size+1,[{ target := .collected w.heap.size,args := #[] }],W1,{ target := .fn (.func gf) cs,args := #[.func (.yield (w.heap.size+1)) #[] #[]] },W1,gf,
  #[.func (.yield (w.heap.size+1)) #[] #[]]++cs,W1,?_,?_,?_,?_,fun q=>NT none q m,?_⟩
 ·rw [←hW1];exact run_enterLoop_outer _ _ _ _ _
 ·simp only [resolve,ae]
  simp [go_sem]
 ·intro f' _;exact KF none f'
 ·simp [invoke,go_sem,o.1 _ W1]
 ·refine Ns ((o.2 M1 W1 _ n1 H).mono ?_)
  rintro en w3 ⟨v,M3,r,s3,rfl,hp,x3,r3,_⟩
  have af:M3.lb st.loops.length=w.heap.size+1:=(x3.lb _ (by omega)).trans E
  have d:∀ (s1 X:St) (p:Option Code) (b:LoopState),b ≠ .busy→s3=(s1.push { la0 with st:=b,pend:=p }).ext X→s1.loops=st.loops →
    ∃ U,(Instr.endLoop (w.heap.size+1)).run P w3 = .ok p U∧At w0 n M0 W0 e ((s1.push { la0 with st := .exhausted,pend:=p }).ext X) { a with defers:=[{ target := .collected w.heap.size,args := #[] }]++a.defers } U M3:=by
   intro s1 X p b aa hs3 ab
   subst hs3
   have hk:((s1.push { la0 with st:=b,pend:=p }).ext X).loops[st.loops.length]? = some { la0 with st:=b,pend:=p }:=by
    simp [St.push,St.ext,ab]
   obtain ⟨G,g1,g2,g3,_⟩:=(r3.loop.record _ _ hk).2.loop rfl
   simp only at g2 g3
   obtain ⟨z1,z2⟩:=r3.setLoop hk .exhausted p g1
   rw [af] at g1 z1 z2
   have f:=run_endLoop (P:=P) g1 (by rw [g2];exact aa)
   have er:({ G with state:=LoopState.exhausted,pending:=p }:Loop)={ G with state:=LoopState.exhausted }:=by rw [←g3]
   rw [er] at z1 z2
   have f:=f.trans (congrArg (fun q=>Result.ok q _) g3)
   have eL:{ ((s1.push { la0 with st:=b,pend:=p }).ext X) with loops:=((s1.push { la0 with st:=b,pend:=p }).ext X).loops.set st.loops.length { la0 with st := .exhausted,pend:=p } }=(s1.push { la0 with st := .exhausted,pend:=p }).ext X:=by
    simp only [St.push,St.ext,ab,List.append_assoc]
    rw [List.set_append_right _ _ (by simp)]
    simp
   simp only at z1
   have O:Ext w0 M w M3 (w3.putObj (w.heap.size+1) (.loop { G with state := .exhausted })):=n2.trans (x3.trans z2)
   refine ⟨_,f,⟨⟨?_,j.rel.size,fun s x hs=>(j.rel.env s x hs).mono O⟩,j.ext.trans O,?_⟩⟩
   ·rw [←eL];exact z1
   ·obtain ⟨Ds,d1,d2,d3⟩:=j.marks.later O j.rel.st
    obtain ⟨Ds',ap,ad,ai⟩:=j.marks
    have ah:Ds'=Ds:=by
     rw [ad] at d2
     have aj:Function.Injective (fun D=>({ target := .collected D,args := #[] }:Deferred)):=fun x y h=>by simpa using h
     exact List.map_inj_right (fun x y h=>aj h) |>.1 d2
    refine ⟨w.heap.size::Ds,List.nodup_cons.2 ⟨fun hm=>?_,d1⟩,by simp [d2],fun D hD=>?_⟩
    ·have:=(ai _ (ah▸hm)).2
     have:=(Array.getElem?_eq_some_iff.1 this).1
     omega
    ·rcases List.mem_cons.1 hD with rfl | hD
     ·refine ⟨j.ext.size,?_⟩
      rw [World.putObj_heap_other (by omega)]
      refine x3.objs _ _ z rfl fun k hk=>?_
      by_cases c:k=st.loops.length
      ·subst c;omega
      ·have:=V k (by omega)
       omega
     ·exact d3 D hD
  obtain ⟨t,X,Z,rfl,hp⟩:=hp
  rcases hp with ⟨s1,F,u,j3,rfl⟩ | ⟨ex,c,s1,j0,F,u,j3,rfl⟩
  ·obtain ⟨U,q1,q2⟩:=d s1 X none .ready (by simp) rfl j3
   exact ⟨none,U,q1,M3,e,_,q2,hdone s1 _ X Z F u j3⟩
  ·obtain ⟨U,q1,q2⟩:=d s1 X (some c) .done (by simp) rfl j3
   refine ⟨some c,U,q1,?_⟩
   have hq:=hleft ex s1 { la0 with st := .exhausted,pend:=some c } X Z F u j3
   cases ex with
   | ret=>cases j0;exact wpIn_ret ⟨M3,e,_,q2,hq⟩
   | exit id=>cases j0;exact wpIn_exit ⟨M3,e,_,q2,hq⟩
   | _=>cases j0
end
attribute [go_sem] wrapM.eq_1 wrapM.eq_2 wrapM.eq_3 wrapM.eq_4 wrapM.eq_5 wrapM.eq_6 wrapM.eq_7 wrapM.eq_8 wrapM.eq_9 wrapM.eq_10 wrapM.eq_11 wrapM.eq_12 wrapM.eq_13 wrapM.eq_14 wrapM.eq_15 wrapM.eq_16 wrapM.eq_17 Rf
attribute [go_sem] Ph MH eqCell.eq_1 eqCell.eq_2 eqCell.eq_3 JQ I9 BX argP AK looks ZdO Op.operands Call.operands Array.toList_append Option.toArray Ws guardOk dstOk AL evOp argOk Aq look Du DD SK LC ZcP resOk Sr NA Gm JX Ia MS Gg evLen Cc bndOk inK Own.under Az HH St.ext St.push St.cut Pl NC SN evBin.eq_1 evBin.eq_2 evBin.eq_3 evBin.eq_4 evBin.eq_5 evBin.eq_6 evBin.eq_7 evBin.eq_8 evBin.eq_9 evBin.eq_10 evBin.eq_11 evBin.eq_12 evBin.eq_13 evBin.eq_14 evBin.eq_15 evBin.eq_16 evBin.eq_17 evBin.eq_18 evBin.eq_19 evBB.eq_1 evBB.eq_2 evUn.eq_1 evUn.eq_2
@[go_sem] theorem ZeM (k:Nat):Nq (.tmp k)=false:=rfl
@[go_sem] theorem ZaU (v:Value):Nq (.const v)=GW v:=rfl
@[go_sem] theorem Zeu (k:IntKind) (n:Int):GW (.int k n)=false:=rfl
@[go_sem] theorem ZeU (s:ByteArray):GW (.string s)=false:=rfl
@[go_sem] theorem ZbC (b:Bool):GW (.bool b)=false:=rfl
@[go_sem] theorem ZeN:GW .nilIface=true:=rfl
@[go_sem] theorem Zgj (t:TypeId) (v:Value):GW (.iface t v)=false:=rfl
@[go_sem] theorem ZeQ (k:Nat):OY (.tmp k)=false:=rfl
@[go_sem] theorem ZaQ (v:Value):OY (.const v)=Jd v:=rfl
@[go_sem] theorem ZbO (k:IntKind) (n:Int):Jd (.int k n)=false:=rfl
@[go_sem] theorem ZcJ (s:ByteArray):Jd (.string s)=false:=rfl
@[go_sem] theorem ZaY (b:Bool):Jd (.bool b)=false:=rfl
@[go_sem] theorem Zbe:Jd .nilIface=false:=rfl
@[go_sem] theorem Zd6 (t:TypeId) (v:Value):Jd (.iface t v)=false:=rfl
@[go_sem] theorem ZfZ (v:Value):evNil .eql v=(S0 v=true,GW v):=rfl
@[go_sem] theorem ZfY (v:Value):evNil .neq v=(S0 v=true,!GW v):=rfl
@[go_sem] theorem ZdH (v:Value):D4 (.val v:AV)=true:=rfl
@[go_sem] theorem ZaP (xs:List AV) (o:Own):D4 (.list xs o:AV)=false:=rfl
@[go_sem] theorem ZaR (x:AV) (k:Nat):D4 (.elem x k:AV)=false:=rfl
@[go_sem] theorem Zbb (l k:Nat):D4 (.box l k:AV)=false:=rfl
@[go_sem] theorem ZbR (f:FuncId) (cs:List AV):D4 (.clo f cs:AV)=false:=rfl
@[go_sem] theorem Zdn (cs:List AV):D4 (.agg cs:AV)=false:=rfl
@[go_sem] theorem Zbj (vs:List AV):D4 (.tup vs:AV)=false:=rfl
@[go_sem] theorem ZbF (k:Nat):D4 (.yld k:AV)=false:=rfl
@[go_sem] theorem Zea (k:Nat):D4 (.mp k:AV)=false:=rfl
@[go_sem] theorem ZdI (l:List (Int × FuncId)):D4 (.tab l:AV)=false:=rfl
@[go_sem] theorem Zbr (id ver o n:Nat):D4 (.vec id ver o n:AV)=false:=rfl
@[go_sem] theorem ZcC (id ver o:Nat):D4 (.vel id ver o:AV)=false:=rfl
@[go_sem] theorem ZcX (v:Value):F4 (.val v:AV)=v:=rfl
@[go_sem] theorem Zhq (xs:List AV) (o:Own):PO (.list xs o:AV)=false:=rfl
@[go_sem] theorem Zh1 (x:AV) (k:Nat):PO (.elem x k:AV)=false:=rfl
@[go_sem] theorem Zjn (l k:Nat):PO (.box l k:AV)=false:=rfl
@[go_sem] theorem ZjL (f:FuncId) (cs:List AV):PO (.clo f cs:AV)=false:=rfl
@[go_sem] theorem ZiG (cs:List AV):PO (.agg cs:AV)=false:=rfl
@[go_sem] theorem ZjO (vs:List AV):PO (.tup vs:AV)=false:=rfl
@[go_sem] theorem ZiB (k:Nat):PO (.yld k:AV)=false:=rfl
@[go_sem] theorem ZkE (k:Nat):PO (.mp k:AV)=false:=rfl
@[go_sem] theorem Zio (l:List (Int × FuncId)):PO (.tab l:AV)=false:=rfl
@[go_sem] theorem ZiF (id ver o n:Nat):PO (.vec id ver o n:AV)=false:=rfl
@[go_sem] theorem ZiH (id ver o:Nat):PO (.vel id ver o:AV)=false:=rfl
@[go_sem] theorem Zel (xs:List AV) (o:Own):C6 (.list xs o:AV)=false:=rfl
@[go_sem] theorem ZeW (x:AV) (k:Nat):C6 (.elem x k:AV)=false:=rfl
@[go_sem] theorem Zfd (l k:Nat):C6 (.box l k:AV)=false:=rfl
@[go_sem] theorem ZfQ (f:FuncId) (cs:List AV):C6 (.clo f cs:AV)=false:=rfl
@[go_sem] theorem Zfh (cs:List AV):C6 (.agg cs:AV)=false:=rfl
@[go_sem] theorem ZgA (vs:List AV):C6 (.tup vs:AV)=false:=rfl
@[go_sem] theorem ZfX (k:Nat):C6 (.yld k:AV)=false:=rfl
@[go_sem] theorem Zhx (k:Nat):C6 (.mp k:AV)=false:=rfl
@[go_sem] theorem ZfF (l:List (Int × FuncId)):C6 (.tab l:AV)=false:=rfl
@[go_sem] theorem Zfo (id ver o n:Nat):C6 (.vec id ver o n:AV)=false:=rfl
@[go_sem] theorem ZfL (id ver o:Nat):C6 (.vel id ver o:AV)=false:=rfl
@[go_sem] theorem Zez (xs:List AV) (o:Own):Jl (.list xs o:AV)=false:=rfl
@[go_sem] theorem ZeF (x:AV) (k:Nat):Jl (.elem x k:AV)=false:=rfl
@[go_sem] theorem Zfw (l k:Nat):Jl (.box l k:AV)=false:=rfl
@[go_sem] theorem ZfK (f:FuncId) (cs:List AV):Jl (.clo f cs:AV)=false:=rfl
@[go_sem] theorem ZgF (cs:List AV):Jl (.agg cs:AV)=false:=rfl
@[go_sem] theorem Zg2 (vs:List AV):Jl (.tup vs:AV)=false:=rfl
@[go_sem] theorem Zfi (k:Nat):Jl (.yld k:AV)=false:=rfl
@[go_sem] theorem ZhM (k:Nat):Jl (.mp k:AV)=false:=rfl
@[go_sem] theorem ZfG (l:List (Int × FuncId)):Jl (.tab l:AV)=false:=rfl
@[go_sem] theorem Zgv (id ver o n:Nat):Jl (.vec id ver o n:AV)=false:=rfl
@[go_sem] theorem Zgo (id ver o:Nat):Jl (.vel id ver o:AV)=false:=rfl
@[go_sem] theorem ZhV (b:Bool):PO (.val (.bool b))=true:=rfl
@[go_sem] theorem Zik (k:IntKind) (n:Int):PO (.val (.int k n))=false:=rfl
@[go_sem] theorem Zid (s:ByteArray):PO (.val (.string s))=false:=rfl
@[go_sem] theorem ZgN:PO (.val undef)=false:=rfl
@[go_sem] theorem Zj7 (b:Bool):G3 (.val (.bool b))=b:=rfl
@[go_sem] theorem ZlM (k:IntKind) (n:Int):C6 (.val (.int k n))=true:=rfl
@[go_sem] theorem Zkb (k:IntKind) (n:Int):AC (.val (.int k n))=n:=rfl
@[go_sem] theorem ZiJ (k:IntKind) (n:Int):Ic (.val (.int k n))=k:=rfl
@[go_sem] theorem ZlD (s:ByteArray):Jl (.val (.string s))=true:=rfl
@[go_sem] theorem Zlk (s:ByteArray):ZdS (.val (.string s))=s:=rfl
@[go_sem] theorem ZkJ (n:Int):byteOk (.val (.int .u8 n))=(0≤n∧n≤255):=rfl
@[go_sem] theorem Zdi (xs:List AV) (o:Own):AO (.list xs o:AV)=xs:=rfl
@[go_sem] theorem Ze7 (v:Value):BA (.val v:AV)=false:=rfl
@[go_sem] theorem ZbL (xs:List AV) (o:Own):BA (.list xs o:AV)=true:=rfl
@[go_sem] theorem ZcH (x:AV) (k:Nat):BA (.elem x k:AV)=false:=rfl
@[go_sem] theorem Zew (l k:Nat):BA (.box l k:AV)=false:=rfl
@[go_sem] theorem ZeY (f:FuncId) (cs:List AV):BA (.clo f cs:AV)=false:=rfl
@[go_sem] theorem ZeT (cs:List AV):BA (.agg cs:AV)=false:=rfl
@[go_sem] theorem Zej (vs:List AV):BA (.tup vs:AV)=false:=rfl
@[go_sem] theorem Zd1 (k:Nat):BA (.yld k:AV)=false:=rfl
@[go_sem] theorem ZfI (k:Nat):BA (.mp k:AV)=false:=rfl
@[go_sem] theorem ZeC (l:List (Int × FuncId)):BA (.tab l:AV)=false:=rfl
@[go_sem] theorem Zec (id ver o n:Nat):BA (.vec id ver o n:AV)=false:=rfl
@[go_sem] theorem ZeV (id ver o:Nat):BA (.vel id ver o:AV)=false:=rfl
@[go_sem] theorem Zfy (v:Value):CY (.val v:AV)=0:=rfl
@[go_sem] theorem Ze1 (xs:List AV) (o:Own):CY (.list xs o:AV)=0:=rfl
@[go_sem] theorem Zex (x:AV) (k:Nat):CY (.elem x k:AV)=k:=rfl
@[go_sem] theorem Zfc (l k:Nat):CY (.box l k:AV)=k:=rfl
@[go_sem] theorem ZfB (f:FuncId) (cs:List AV):CY (.clo f cs:AV)=0:=rfl
@[go_sem] theorem Zgx (cs:List AV):CY (.agg cs:AV)=0:=rfl
@[go_sem] theorem Zgw (vs:List AV):CY (.tup vs:AV)=0:=rfl
@[go_sem] theorem Zg3 (k:Nat):CY (.yld k:AV)=0:=rfl
@[go_sem] theorem ZhU (k:Nat):CY (.mp k:AV)=0:=rfl
@[go_sem] theorem ZfV (l:List (Int × FuncId)):CY (.tab l:AV)=0:=rfl
@[go_sem] theorem Zfq (id ver o n:Nat):CY (.vec id ver o n:AV)=0:=rfl
@[go_sem] theorem ZgM (id ver o:Nat):CY (.vel id ver o:AV)=o:=rfl
@[go_sem] theorem ZgP (v:Value):I7 (.val v:AV)=false:=rfl
@[go_sem] theorem Zd8 (xs:List AV) (o:Own):I7 (.list xs o:AV)=false:=rfl
@[go_sem] theorem Zd3 (x:AV) (k:Nat):I7 (.elem x k:AV)=false:=rfl
@[go_sem] theorem Zga (l k:Nat):I7 (.box l k:AV)=true:=rfl
@[go_sem] theorem Zfk (f:FuncId) (cs:List AV):I7 (.clo f cs:AV)=false:=rfl
@[go_sem] theorem ZfH (cs:List AV):I7 (.agg cs:AV)=false:=rfl
@[go_sem] theorem Zfu (vs:List AV):I7 (.tup vs:AV)=false:=rfl
@[go_sem] theorem Zgd (k:Nat):I7 (.yld k:AV)=false:=rfl
@[go_sem] theorem Zht (k:Nat):I7 (.mp k:AV)=false:=rfl
@[go_sem] theorem Zgk (l:List (Int × FuncId)):I7 (.tab l:AV)=false:=rfl
@[go_sem] theorem Zgb (id ver o n:Nat):I7 (.vec id ver o n:AV)=false:=rfl
@[go_sem] theorem Zg4 (id ver o:Nat):I7 (.vel id ver o:AV)=true:=rfl
@[go_sem] theorem ZeD (v:Value):AA (.val v:AV)=true:=rfl
@[go_sem] theorem ZbJ (xs:List AV) (o:Own):AA (.list xs o:AV)=true:=rfl
@[go_sem] theorem ZcS (x:AV) (k:Nat):AA (.elem x k:AV)=true:=rfl
@[go_sem] theorem ZeI (l k:Nat):AA (.box l k:AV)=true:=rfl
@[go_sem] theorem ZeP (f:FuncId) (cs:List AV):AA (.clo f cs:AV)=true:=rfl
@[go_sem] theorem Ze9 (cs:List AV):AA (.agg cs:AV)=true:=rfl
@[go_sem] theorem ZeO (vs:List AV):AA (.tup vs:AV)=false:=rfl
@[go_sem] theorem ZeL (k:Nat):AA (.yld k:AV)=true:=rfl
@[go_sem] theorem ZgU (k:Nat):AA (.mp k:AV)=true:=rfl
@[go_sem] theorem Zev (l:List (Int × FuncId)):AA (.tab l:AV)=true:=rfl
@[go_sem] theorem Zee (id ver o n:Nat):AA (.vec id ver o n:AV)=true:=rfl
@[go_sem] theorem Ze2 (id ver o:Nat):AA (.vel id ver o:AV)=true:=rfl
@[go_sem] theorem Zeg (v:Value):D7 (.val v:AV)=false:=rfl
@[go_sem] theorem Zci (xs:List AV) (o:Own):D7 (.list xs o:AV)=false:=rfl
@[go_sem] theorem Za7 (x:AV) (k:Nat):D7 (.elem x k:AV)=false:=rfl
@[go_sem] theorem Ze3 (l k:Nat):D7 (.box l k:AV)=false:=rfl
@[go_sem] theorem Zey (f:FuncId) (cs:List AV):D7 (.clo f cs:AV)=false:=rfl
@[go_sem] theorem Zep (cs:List AV):D7 (.agg cs:AV)=true:=rfl
@[go_sem] theorem Zd5 (vs:List AV):D7 (.tup vs:AV)=false:=rfl
@[go_sem] theorem ZeA (k:Nat):D7 (.yld k:AV)=false:=rfl
@[go_sem] theorem ZgR (k:Nat):D7 (.mp k:AV)=false:=rfl
@[go_sem] theorem ZeR (l:List (Int × FuncId)):D7 (.tab l:AV)=false:=rfl
@[go_sem] theorem ZeB (id ver o n:Nat):D7 (.vec id ver o n:AV)=false:=rfl
@[go_sem] theorem Zei (id ver o:Nat):D7 (.vel id ver o:AV)=false:=rfl
@[go_sem] theorem ZaS (v:Value):AV.cells (.val v:AV)=[.val v]:=rfl
@[go_sem] theorem ZJ (xs:List AV) (o:Own):AV.cells (.list xs o:AV)=[.list xs o]:=rfl
@[go_sem] theorem Zai (x:AV) (k:Nat):AV.cells (.elem x k:AV)=[.elem x k]:=rfl
@[go_sem] theorem ZaZ (l k:Nat):AV.cells (.box l k:AV)=[.box l k]:=rfl
@[go_sem] theorem ZaO (f:FuncId) (cs:List AV):AV.cells (.clo f cs:AV)=[.clo f cs]:=rfl
@[go_sem] theorem ZaT (cs:List AV):AV.cells (.agg cs:AV)=cs:=rfl
@[go_sem] theorem ZaW (vs:List AV):AV.cells (.tup vs:AV)=[.tup vs]:=rfl
@[go_sem] theorem Za0 (k:Nat):AV.cells (.yld k:AV)=[.yld k]:=rfl
@[go_sem] theorem Zcy (k:Nat):AV.cells (.mp k:AV)=[.mp k]:=rfl
@[go_sem] theorem ZaX (l:List (Int × FuncId)):AV.cells (.tab l:AV)=[.tab l]:=rfl
@[go_sem] theorem ZaV (id ver o n:Nat):AV.cells (.vec id ver o n:AV)=[.vec id ver o n]:=rfl
@[go_sem] theorem ZaN (id ver o:Nat):AV.cells (.vel id ver o:AV)=[.vel id ver o]:=rfl
@[go_sem] theorem Zeb (v:Value):AV.pub (.val v:AV) = .val v:=rfl
@[go_sem] theorem ZbA (xs:List AV) (o:Own):AV.pub (.list xs o:AV) = .list xs .none:=rfl
@[go_sem] theorem ZdY (x:AV) (k:Nat):AV.pub (.elem x k:AV) = .elem x k:=rfl
@[go_sem] theorem Ze4 (l k:Nat):AV.pub (.box l k:AV) = .box l k:=rfl
@[go_sem] theorem Zen (f:FuncId) (cs:List AV):AV.pub (.clo f cs:AV) = .clo f cs:=rfl
@[go_sem] theorem ZeE (cs:List AV):AV.pub (.agg cs:AV) = .agg (cs.map AV.pubCell):=rfl
@[go_sem] theorem Zet (vs:List AV):AV.pub (.tup vs:AV) = .tup vs:=rfl
@[go_sem] theorem Zeh (k:Nat):AV.pub (.yld k:AV) = .yld k:=rfl
@[go_sem] theorem ZgZ (k:Nat):AV.pub (.mp k:AV) = .mp k:=rfl
@[go_sem] theorem ZeS (l:List (Int × FuncId)):AV.pub (.tab l:AV) = .tab l:=rfl
@[go_sem] theorem Zes (id ver o n:Nat):AV.pub (.vec id ver o n:AV) = .vec id ver o n:=rfl
@[go_sem] theorem Zeo (id ver o:Nat):AV.pub (.vel id ver o:AV) = .vel id ver o:=rfl
@[go_sem] theorem YQ (v:Value):AV.pubCell (.val v:AV) = .val v:=rfl
@[go_sem] theorem Xq (xs:List AV) (o:Own):AV.pubCell (.list xs o:AV) = .list xs .none:=rfl
@[go_sem] theorem Yp (x:AV) (k:Nat):AV.pubCell (.elem x k:AV) = .elem x k:=rfl
@[go_sem] theorem Y0 (l k:Nat):AV.pubCell (.box l k:AV) = .box l k:=rfl
@[go_sem] theorem Zp (f:FuncId) (cs:List AV):AV.pubCell (.clo f cs:AV) = .clo f cs:=rfl
@[go_sem] theorem Zn (cs:List AV):AV.pubCell (.agg cs:AV) = .agg cs:=rfl
@[go_sem] theorem YN (vs:List AV):AV.pubCell (.tup vs:AV) = .tup vs:=rfl
@[go_sem] theorem YV (k:Nat):AV.pubCell (.yld k:AV) = .yld k:=rfl
@[go_sem] theorem ZD (k:Nat):AV.pubCell (.mp k:AV) = .mp k:=rfl
@[go_sem] theorem Zz (l:List (Int × FuncId)):AV.pubCell (.tab l:AV) = .tab l:=rfl
@[go_sem] theorem Zr (id ver o n:Nat):AV.pubCell (.vec id ver o n:AV) = .vec id ver o n:=rfl
@[go_sem] theorem Ze (id ver o:Nat):AV.pubCell (.vel id ver o:AV) = .vel id ver o:=rfl
@[go_sem] theorem Zed (v:Value):AV.one (.val v:AV)=true:=rfl
@[go_sem] theorem ZbZ (xs:List AV) (o:Own):AV.one (.list xs o:AV)=true:=rfl
@[go_sem] theorem Za6 (x:AV) (k:Nat):AV.one (.elem x k:AV)=true:=rfl
@[go_sem] theorem Ze6 (l k:Nat):AV.one (.box l k:AV)=true:=rfl
@[go_sem] theorem Zef (f:FuncId) (cs:List AV):AV.one (.clo f cs:AV)=true:=rfl
@[go_sem] theorem ZeH (cs:List AV):AV.one (.agg cs:AV)=false:=rfl
@[go_sem] theorem Ze8 (vs:List AV):AV.one (.tup vs:AV)=false:=rfl
@[go_sem] theorem ZeX (k:Nat):AV.one (.yld k:AV)=true:=rfl
@[go_sem] theorem ZfT (k:Nat):AV.one (.mp k:AV)=true:=rfl
@[go_sem] theorem Ze0 (l:List (Int × FuncId)):AV.one (.tab l:AV)=true:=rfl
@[go_sem] theorem Zeq (id ver o n:Nat):AV.one (.vec id ver o n:AV)=true:=rfl
@[go_sem] theorem ZeZ (id ver o:Nat):AV.one (.vel id ver o:AV)=true:=rfl
@[go_sem] theorem ZeG (l o n:Nat):M4 (.box l o) n = .box l (o+n):=rfl
@[go_sem] theorem ZeJ (id ver o n:Nat):M4 (.vel id ver o) n = .vel id ver (o+n):=rfl
@[go_sem] theorem Zcg (x:AV) (o n:Nat):M4 (.elem x o) n = .elem x (o+n):=rfl
@[go_sem] theorem Zks (st:St) (l o:Nat) (xs:List AV):LP st (.box l o) xs={ st with boxes:=st.boxes.set l (BJ (st.boxes.getD l []) o xs) }:=rfl
@[go_sem] theorem Zhb (a b:AV):AV.sel true a b=a:=by unfold AV.sel;split<;>rfl
@[go_sem] theorem Zg7 (a b:AV):AV.sel false a b=b:=by unfold AV.sel;split<;>rfl
@[go_sem] theorem ZhD (t a b:Bool):AV.sel t (.val (.bool a)) (.val (.bool b)) = .val (.bool (cond t a b)):=by cases t<;>rfl
attribute [go_sem] Dq M6 Na OW L2 Cd OA S8 VJ Tm SE
@[go_sem] theorem ZiC:He []=[]:=rfl
@[go_sem] theorem Zia (t:Nat) (r:List Operand):He (.tmp t::r)=t::He r:=rfl
@[go_sem] theorem Zft (v:Value) (r:List Operand):He (.const v::r)=He r:=rfl
@[go_sem] theorem ZhI (f:FuncId) (r:List Operand):He (.func f::r)=He r:=rfl
@[go_sem] theorem Zd2 (g:Nat) (r:List Operand):He (.global g::r)=He r:=rfl
@[go_sem] theorem Zlc (p:Prop):(False→p)=True:=eq_true False.elim
@[go_sem] theorem Zmy (p:Prop):(True→p)=p:=propext ⟨fun h=>h trivial,fun h _=>h⟩
@[go_sem] theorem ZmP (p:Sort _):(p→True)=True:=eq_true fun _=>trivial
@[go_sem] theorem ite_f (b c:Bool):(if b=true then c else false)=(b&&c):=by cases b<;>rfl
@[go_sem] theorem ite_t (b c:Bool):(if b=true then true else c)=(b||c):=by cases b<;>rfl
@[go_sem] theorem bif_f (b c:Bool):cond b c false=(b&&c):=by cases b<;>rfl
@[go_sem] theorem bif_t (b c:Bool):cond b true c=(b||c):=by cases b<;>rfl
@[go_sem] theorem ZnS (b c:Bool):cond true b c=b:=rfl
@[go_sem] theorem Zob (b c:Bool):cond false b c=c:=rfl
@[go_sem] theorem Zka (b:Bool):(b == true)=b:=by cases b<;>rfl
@[go_sem] theorem ZiP (b:Bool):(b == false) = !b:=by cases b<;>rfl
attribute [go_sem] List.filterMap_nil List.append_nil List.nil_append List.cons_append Option.toList List.map_cons List.map_nil and_imp not_false_eq_true true_and and_true forall_const imp_self reduceIte List.getElem?_cons_zero List.getElem?_cons_succ Ae Bool.true_and Bool.and_true Bool.false_and Bool.and_false Bool.or_true Bool.true_or Bool.or_false Bool.false_or List.toList_toArray List.mem_cons List.not_mem_nil or_false false_or forall_eq forall_eq_or_imp decide_eq_true_eq decide_eq_false_iff_not Bool.not_true Bool.not_false Bool.not_not
@[go_sem] theorem ZnE (b:Bool):((!b)=true)=(b=false):=by cases b<;>simp
@[go_sem] theorem ZnA (b:Bool):((!b)=false)=(b=true):=by cases b<;>simp
@[go_sem] theorem Zoa (b c:Bool):((b&&c)=true)=(b=true∧c=true):=Bool.and_eq_true b c
@[go_sem] theorem Zky (n:Nat):(no_index (@OfNat.ofNat Int n instOfNat)).toNat = @OfNat.ofNat Nat n (instOfNatNat n):=rfl
@[go_sem] theorem Zlo (i:Decidable True) : @decide True i=true:=by cases i with | isTrue h=>rfl | isFalse h=>exact absurd trivial h
@[go_sem] theorem Zkw (i:Decidable False) : @decide False i=false:=by cases i with | isTrue h=>exact h.elim | isFalse h=>rfl
@[go_sem] theorem Zoe (b:Bool):(b == b)=true:=by cases b<;>rfl
@[go_sem] theorem Zj3 (s:St):(s=s)=True:=eq_true rfl
@[go_sem] theorem tt_tt:(true=true)=True:=eq_true rfl
@[go_sem] theorem ff_tt:(false=true)=False:=eq_false (by decide)
@[go_sem] theorem tt_ff:(true=false)=False:=eq_false (by decide)
@[go_sem] theorem ff_ff:(false=false)=True:=eq_true rfl
@[go_sem] theorem ZkA (B l:Ao):(B++l).length=B.length+l.length:=List.length_append
@[go_sem] theorem Zmq (B l:Au):(B++l).length=B.length+l.length:=List.length_append
@[go_sem] theorem ZiS (B:Ao) (R:Au) (L:As) (ks:List ByteArray):Lr ⟨B,R,L++[ZB ks]⟩ L.length=some ks:=by simp [Lr,ZB]
@[go_sem] theorem ZkZ (L:As) (a b:LoopA):(L++[a]).set L.length b=L++[b]:=by simp
@[go_sem] theorem Zkc (B l:Ao) (R:Au) (L:As) (k o:Nat):Dn ⟨B++l,R,L⟩ (.box (B.length+k) o)=decide (k<l.length):=by simp [Dn]
@[go_sem] theorem ZiK (B l:Ao) (R:Au) (L:As) (o:Nat):Dn ⟨B++l,R,L⟩ (.box B.length o)=decide (0<l.length):=by simp [Dn]
@[go_sem] theorem Zi5 (s:St) (x:AV) (o:Nat):Dn s (.elem x o)=AA x:=by cases x<;>rfl
@[go_sem] theorem Wu (B l:Ao) (k:Nat):(B++l).getD (B.length+k) []=l.getD k []:=by
 rw [List.getD_eq_getElem?_getD,List.getElem?_append_right (by omega),Nat.add_sub_cancel_left,List.getD_eq_getElem?_getD]
@[go_sem] theorem SJ (B l:Ao):(B++l).getD B.length []=l.getD 0 []:=by
 rw [List.getD_eq_getElem?_getD,List.getElem?_append_right (by omega),Nat.sub_self,List.getD_eq_getElem?_getD]
@[go_sem] theorem Zhr (B l:Ao) (R:Au) (L:As) (k o:Nat):Bi ⟨B++l,R,L⟩ (.box (B.length+k) o)=l.getD k []:=Wu B l k
@[go_sem] theorem ZfO (B l:Ao) (R:Au) (L:As) (o:Nat):Bi ⟨B++l,R,L⟩ (.box B.length o)=l.getD 0 []:=SJ B l
@[go_sem] theorem ZgE (s:St) (x:AV) (o:Nat):Bi s (.elem x o)=x.cells:=rfl
@[go_sem] theorem Zf8 (B l:Ao) (k:Nat) (x:List AV):(B++l).set (B.length+k) x=B++l.set k x:=by rw [List.set_append_right _ _ (by omega),Nat.add_sub_cancel_left]
@[go_sem] theorem ZcR (B l:Ao) (x:List AV):(B++l).set B.length x=B++l.set 0 x:=by rw [List.set_append_right _ _ (by omega),Nat.sub_self]
@[go_sem] theorem Zgs (B l:Au) (k:Nat):(B++l)[B.length+k]? = l[k]? := by rw [List.getElem?_append_right (by omega),Nat.add_sub_cancel_left]
@[go_sem] theorem Zca (B l:Au):(B++l)[B.length]? = l[0]? := by rw [List.getElem?_append_right (by omega),Nat.sub_self]
@[go_sem] theorem Zle (B l:Au) (k:Nat) (x:RowA):(B++l).set (B.length+k) x=B++l.set k x:=by rw [List.set_append_right _ _ (by omega),Nat.add_sub_cancel_left]
@[go_sem] theorem Zkt (B l:Au) (x:RowA):(B++l).set B.length x=B++l.set 0 x:=by rw [List.set_append_right _ _ (by omega),Nat.sub_self]
attribute [go_sem] List.take_succ_cons List.take_zero List.take_nil List.drop_succ_cons List.drop_zero List.drop_nil Int.toNat_natCast List.append_assoc List.length_cons List.length_nil Nat.zero_add Nat.add_zero List.set_cons_zero List.set_cons_succ List.getD_cons_zero List.getD_cons_succ
@[go_sem] theorem ZjT (x v:AV):BJ [x] 0 [v]=[v]:=rfl
@[go_sem] theorem Zd4 (l:List AV) (n:Nat) (h:l.length=n):(l.drop 0).take n=l:=by simp [←h]
theorem A0 {P:Program} {f:FuncId} {fn:Func} (hf:P.funcs[f]? = some fn) (hb:fn.body.isSome=true) (hn:fn.name ≠ "runtime.NumGoroutine"):IB P f:=by
 obtain ⟨c,a⟩:=Option.isSome_iff_exists.1 hb
 exact Ev.enters_of hf a hn
theorem FX {P:Program} {w0:World} {f:FuncId} {args:List AV} {st:St} {r:Value} (hen:IB P f) (hr:Gg r=true)
  (h:∀ (M:Mem) (w:World) (vals:Array Value),Below w0.heap.size w0 w→RowR w0 M w vals args→Calls P f vals w fun en w'=>en = .returned r∧Below w.heap.size w w'):ACalls P w0 f args st fun v s=>v = .val r∧s=st :=
 ⟨hen,fun M w vals a b=>(h M w vals a.below b).mono fun en w' ⟨c,e⟩=>by
  obtain ⟨d,g⟩:=a.later e w.heap.size 0 (Nat.le_refl _) (.inr rfl)
  exact ⟨r,_,_,st,c,⟨rfl,rfl⟩,g,d,.flat hr⟩⟩
theorem OU {P:Program} {w0:World} {f:FuncId} {args:List AV} {st:St} {rs:List Value} (hen:IB P f) (hr:∀ r∈rs,Gg r=true)
  (h:∀ (M:Mem) (w:World) (vals:Array Value),Below w0.heap.size w0 w→RowR w0 M w vals args→Calls P f vals w fun en w'=>en = .returned (.tuple rs.toArray)∧Below w.heap.size w w'):ACalls P w0 f args st fun v s=>v = .tup (rs.map .val)∧s=st :=
 ⟨hen,fun M w vals c d=>(h M w vals c.below d).mono fun en w' ⟨e,j⟩=>by
  obtain ⟨g,k⟩:=c.later j w.heap.size 0 (Nat.le_refl _) (.inr rfl)
  exact ⟨.tuple rs.toArray,_,_,st,e,⟨rfl,rfl⟩,k,g,.tup (by simp) fun i a b=>by simp only [List.getElem_toArray,List.getElem_map];exact .flat (hr _ (List.getElem_mem _))⟩⟩
theorem JK {w0:World} {M:Mem} {w:World} {vals:Array Value} {us:List Value} (h:RowR w0 M w vals (us.map .val)):vals=us.toArray:=by
 apply Array.ext
 ·simpa using h.1
 ·intro i b c
  have a:i<us.length:=by simpa using c
  have:=h.2 i b (by simpa using a)
  simp only [List.getElem_map] at this
  simp only [List.getElem_toArray]
  exact this.val_inv.1
@[go_sem] theorem RZ (P:Program) (st:St) (t:TypeId) (xs:List AV) (x:AV):evAppend P st t (.list xs .full) x=match GT P t with
  | some (el,sz,_,by8)=>if (AO x).length=0 then (BA x=true∧0<sz,.list xs .full,st)
   else (BA x=true∧appendOb P el sz by8 xs.length (AO x)∧(∀ y∈xs,y.cells.length=sz),.list (xs++(AO x).map AV.pub) (.row st.rows.length),{ st with rows:=st.rows++[.grow (xs.length+(AO x).length) sz] })
  | none=>(False,.junk,st):=rfl
@[go_sem] theorem Uf (P:Program) (st:St) (t:TypeId) (xs:List AV) (id:Nat) (x:AV):evAppend P st t (.list xs (.row id)) x=match GT P t with
  | some (el,sz,_,by8)=>(BA x=true∧appendOb P el sz by8 xs.length (AO x)∧(∀ y∈xs,y.cells.length=sz)∧st.rows[id]? = some (.grow xs.length sz),.list (xs++(AO x).map AV.pub) (.row id),{ st with rows:=st.rows.set id (.grow (xs.length+(AO x).length) sz) })
  | none=>(False,.junk,st):=rfl
@[go_sem] theorem Ze5 (P:Program) (st:St) (t:TypeId) (ys:List AV) (x:AV):evAppend P st t (.list ys .seed) x=match GT P t with
  | some (el,sz,_,by8)=>if (AO x).length=0 then (BA x=true∧0<sz,.list ys .seed,st)
   else (BA x=true∧appendOb P el sz by8 0 (AO x)∧ys.length=0∧0<(AO x).length,.vec st.rows.length 0 0 (AO x).length,{ st with rows:=st.rows++[.vec 0 sz ((AO x).flatMap fun y=>y.pub.cells)] })
  | none=>(False,.junk,st):=rfl
@[go_sem] theorem Zg0 (P:Program) (st:St) (t:TypeId) (id ver o n:Nat) (x:AV):evAppend P st t (.vec id ver o n) x=match GT P t with
  | some (el,sz,_,by8)=>match CN st.rows id ver with
   | some (sz',cs)=>(BA x=true∧appendOb P el sz by8 n (AO x)∧sz'=sz∧o=0∧n*sz≤cs.length,.vec id (ver+1) 0 (n+(AO x).length),{ st with rows:=st.rows.set id (.vec (ver+1) sz (cs.take (n*sz)++(AO x).flatMap fun y=>y.pub.cells)) })
   | none=>(False,.junk,st)
  | none=>(False,.junk,st):=rfl
attribute [go_sem] appendOb
@[go_sem] theorem ZlG (B l:Au) (k ver:Nat):CN (B++l) (B.length+k) ver=CN l k ver:=by simp [CN,Zgs]
@[go_sem] theorem Zj0 (B l:Au) (ver:Nat):CN (B++l) B.length ver=CN l 0 ver:=by simp [CN,Zca]
@[go_sem] theorem Zkv (ver sz:Nat) (cs:List AV) (l:Au):CN (.vec ver sz cs::l) 0 ver=some (sz,cs):=by simp [CN]
@[go_sem] theorem ZkB (r:RowA) (l:Au) (k ver:Nat):CN (r::l) (k+1) ver=CN l k ver:=by simp [CN]
@[go_sem] theorem Zkk (s:St) (id ver o:Nat):Dn s (.vel id ver o)=(CN s.rows id ver).isSome:=rfl
@[go_sem] theorem Zhd (s:St) (id ver o:Nat):Bi s (.vel id ver o)=match CN s.rows id ver with | some (_,cs)=>cs | none=>[]:=rfl
@[go_sem] theorem ZeK (st:St) (id ver o:Nat) (xs:List AV):LP st (.vel id ver o) xs=match CN st.rows id ver with
  | some (sz,cs)=>{ st with rows:=st.rows.set id (.vec ver sz (BJ cs o xs)) }
  | none=>st:=rfl
def Grow (Rw:Au) (sz:Nat) (xs:List AV) (o:Own) (r:Au):Prop:=(xs=[]∧o = .full∧r=[])∨(o = .row Rw.length∧r=[.grow xs.length sz])
theorem Grow.nil (Rw:Au) (sz:Nat):Grow Rw sz [] .full [] := .inl ⟨rfl,rfl,rfl⟩
theorem Grow.more (Rw:Au) (sz:Nat) (xs:List AV) (n:Nat) (h:xs.length=n):Grow Rw sz xs (.row Rw.length) [.grow n sz] := .inr ⟨rfl,by rw [h]⟩
theorem Grow.len {Rw r:List RowA} {sz:Nat} {xs:List AV} {o:Own} (h:Grow Rw sz xs o r):r.length≤1:=by
 rcases h with ⟨_,_,rfl⟩ | ⟨_,rfl⟩<;>simp
theorem R7 {P:Program} {t el:TypeId} {sz by8:Nat} {ag:Bool} {Rw r:List RowA} {xs:List AV} {o:Own} (he:GT P t=some (el,sz,ag,by8)) (hz:(AZ P el).isSome=true) (hs:0<sz) (h:Grow Rw sz xs o r) (B:Ao) (L:As) (y:AV) (o2:Own) :
  evAppend P ⟨B,Rw++r,L⟩ t (.list xs o) (.list [y] o2)=(((xs.length+1)*by8≤140737488355328∧xs.length+1≤4611686018427387904∧(∀ y∈xs,y.cells.length=sz)∧y.cells.length=sz∧AA y=true),.list (xs++[y.pub]) (.row Rw.length),⟨B,Rw++[.grow (xs.length+1) sz],L⟩):=by
 rcases h with ⟨rfl,rfl,rfl⟩ | ⟨rfl,rfl⟩
 ·rw [RZ,he];simp [AO,BA,appendOb,hz,hs]
 ·rw [Uf,he];simp [AO,BA,appendOb,hz,hs]
  exact ⟨fun ⟨⟨a,b,c,d⟩,e⟩=>⟨a,b,e,c,d⟩,fun ⟨a,b,e,c,d⟩=>⟨⟨a,b,c,d⟩,e⟩⟩
def YY (c:Option IntKind × Bool) (x y:AV):Prop :=
 match x,y with
 | .val (.int k _),.val (.int k' _)=>c.1.isSome=true∧k=k'
 | .val (.string _),.val (.string _)=>c=(none,true)
 | .val (.bool _),.val (.bool _)=>c=(none,false)
 | _,_=>False
def Zcd (P:Program) (t:TypeId):Option (Option IntKind × Bool) :=
 match Ky P t with
 | some k=>some (some k,false)
 | none=>if B6 P t=true then some (none,true) else if JG P t=true then some (none,false) else none
def PY (P:Program):List Field→Nat→Option (List (Option IntKind × Bool))
 | [],_=>some []
 | f::fs,i=>if f.name ≠ "_" ∧ f.offset=i∧Ez P f.type=some (1,false) then
   match Zcd P f.type,PY P fs (i+1) with
   | some k,some ks=>some (k::ks)
   | _,_=>none
  else none
def Zc0 (P:Program) (t:TypeId):Option (List (Option IntKind × Bool)) :=
 match eqT P t with
 | some fs=>PY P fs 0
 | none=>none
def obK:List (Option IntKind × Bool)→List AV→List AV→Prop
 | [],[],[]=>True
 | k::ks,x::xs,y::ys=>YY k x y∧obK ks xs ys
 | _,_,_=>False
theorem Zau {P:Program} {t:TypeId} {k:Option IntKind × Bool} (h:Zcd P t=some k) (x y:AV):eqCellOb P t x y=YY k x y:=by
 have e1:∀ j,Ky P t=some j→B6 P t=false∧JG P t=false:=fun j hj=>by
  unfold Ky at hj
  unfold B6 JG
  split at hj
  ·rename_i q;rw [q];exact ⟨rfl,rfl⟩
  ·cases hj
 have b:B6 P t=true→JG P t=false:=fun hj=>by
  unfold B6 at hj
  unfold JG
  split at hj
  ·rename_i q;rw [q]
  ·cases hj
 unfold Zcd at h
 unfold eqCellOb YY
 cases hi:Ky P t with
 | some j =>
  obtain ⟨q1,q2⟩:=e1 j hi
  rw [hi] at h
  cases h
  rw [q1,q2]
  split<;>simp
 | none =>
  rw [hi] at h
  simp only at h
  by_cases hs:B6 P t=true
  ·rw [Ah hs] at h
   cases h
   rw [hs,b hs]
   split<;>simp
  ·rw [Ai hs] at h
   have a:B6 P t=false:=by simpa using hs
   by_cases hb:JG P t=true
   ·rw [Ah hb] at h
    cases h
    rw [a,hb]
    split<;>simp
   ·rw [Ai hb] at h;cases h
theorem YU {P:Program}:∀ (fs:List Field) (i:Nat) (ks:List (Option IntKind × Bool)),PY P fs i=some ks→∀ xs ys,eqOb P fs i xs ys=obK ks xs ys
 | [],i,ks,h,xs,ys=>by
  cases h
  cases xs<;>cases ys<;>simp [eqOb,obK]
 | f::fs,i,ks,h,xs,ys=>by
  unfold PY at h
  split at h
  ·rename_i q
   split at h
   ·rename_i k ks' h1 h2
    cases h
    cases xs with
    | nil=>cases ys<;>simp [eqOb,obK]
    | cons x xs=>cases ys with
     | nil=>simp [eqOb,obK]
     | cons y ys =>
      simp only [eqOb,obK,YU fs (i+1) ks' h2 xs ys,Zau h1,q,true_and]
      simp [q.1]
   ·cases h
  ·cases h
theorem SZ {P:Program} {t:TypeId} {ks:List (Option IntKind × Bool)} (h:Zc0 P t=some ks) (xs ys:List AV):evAgg P .neq t xs ys=(obK ks xs ys,!MH xs ys):=by
 unfold Zc0 at h
 split at h
 ·rename_i fs q
  simp only [evAgg,q,YU fs 0 ks h]
 ·cases h
attribute [go_sem] YY obK
section
variable {P:Program} {w0:World} {n:Nat} {M:Mem} {e:Env} {st:St} {a:Act} {w:World}
theorem R.seed {v:Value} (h:R w0 M w v (.list [] .full)):R w0 M w v (.list [] .seed):=by
 cases h with
 | nil ho=>exact .nil (fun id=>by simp)
 | emp ho=>exact .emp (fun id=>by simp)
 | list sz us hc hm hcell hu ho=>exact .list (xs:=[]) sz us hc hm hcell hu ho
theorem NM {M0:Mem} {W0:World} {ro:Option Nat} {Q:AQ} {c:Code} (e':Env) (st':St)
  (hc:∀ M a w,Rel w0 n M e st a w→∃ M',Ext w0 M w M' w∧Rel w0 n M' e' st' a w) (h:Da P w0 n M0 W0 ro c Q e' st'):Da P w0 n M0 W0 ro c Q e st:=by
 intro m M a w b
 obtain ⟨M',d,f⟩:=hc M a w b.rel
 exact h m M' a w ⟨f,b.ext.trans d,b.marks.later d b.rel.st⟩
theorem RelSt.setBox (h:RelSt w0 M st w) {l i:Nat} {cs:List AV} (hl:st.boxes[l]? = some cs) {x y:AV} (hi:cs[i]? = some x) (hone:y.one=true) (hR:∀ v,R w0 M w v x→R w0 M w v y) :
  RelSt w0 M { st with boxes:=st.boxes.set l (cs.set i y) } w:=by
 have b:l<st.boxes.length:=(Aj.1 hl).1
 have g:i<cs.length:=(Aj.1 hi).1
 refine ⟨h.below,by simp [h.N],h.NR,h.top,h.inj,fun a cs' hl'=>?_,h.row,h.rowinj,h.loop⟩
 by_cases q:a=l
 ·subst q
  rw [List.getElem?_set_self b] at hl'
  cases hl'
  obtain ⟨a1,a2,c,k,a3,a4,a5,a6⟩:=h.box a cs hl
  refine ⟨a1,a2,c,k,a3,by simp [a4],fun z d=>?_,fun j f m=>?_⟩
  ·rcases List.mem_or_eq_of_mem_set d with d | rfl
   ·exact a5 z d
   ·exact hone
  ·by_cases e:j=i
   ·subst e
    rw [List.getElem_set_self]
    obtain ⟨q1,q2⟩:=Aj.1 hi
    exact hR _ (q2▸a6 j f q1)
   ·rw [List.getElem_set_ne (Ne.symm e)]
    exact a6 j f (by simpa using m)
 ·rw [List.getElem?_set_ne (Ne.symm q)] at hl'
  exact h.box a cs' hl'
def Yy (sz:Nat) (ag:Bool) (cs:List AV) (o m:Nat):List AV:=(List.range m).map fun i=>NC ag cs ((o+i)*sz) sz
theorem U8 (sz:Nat) (ag:Bool) (cs:List AV) (o m:Nat):(Yy sz ag cs o m).length=m:=by simp [Yy]
def Mem.freeze (M:Mem) (id k:Nat):Mem:={ M with fr:=fun i=>if i=id then M.fr i+1 else M.fr i,top:=fun b=>if b=M.blk id then k else M.top b }
theorem RelSt.freeze (h:RelSt w0 M st w) {id ver sz:Nat} {cs:List AV} (hid:st.rows[id]? = some (.vec ver sz cs)) :
  Ext w0 M w (M.freeze id cs.length) w∧RelSt w0 (M.freeze id cs.length) { st with rows:=st.rows.set id (.dead (ver+1)) } w:=by
 have a:id<st.rows.length:=(Aj.1 hid).1
 have d:id<M.NR:=by rw [h.NR];exact a
 obtain ⟨F,O,u,f4,o,K,Q,c,r,p,J,D,H,y⟩:=h.row id _ hid
 have f:Ext w0 M w (M.freeze id cs.length) w :=
  ⟨Nat.le_refl _,fun _ _=>rfl,Nat.le_refl _,fun i hi=>by
   simp only [Mem.freeze]
   by_cases q:i=id
   ·rw [Ah q];exact ⟨Nat.le_succ _,fun e=>absurd e (by omega)⟩
   ·rw [Ai q];exact ⟨Nat.le_refl _,fun _=>⟨trivial,trivial,trivial⟩⟩,fun b C v hi G=>⟨G,hi.imp (fun q=>q) fun q=>by
    simp only [Mem.freeze]
    split
    ·rename_i e;rw [e,f4] at q;omega
    ·exact q⟩,Nat.le_refl _,Nat.le_refl _,fun _ _=>rfl,fun _ m g=>absurd g (Nat.not_lt.2 m),fun _ _ h _ _=>h,fun b _ q=>⟨rfl,q,by
    simp only [Mem.freeze]
    rw [Ai (fun e=>q.2.1 id d e.symm)]⟩⟩
 refine ⟨f,h.below,h.N,by simp [Mem.freeze,h.NR],fun b E=>?_,h.inj,fun l cs' s=>?_,fun i x hi=>?_,h.rowinj,h.loop.mono f rfl (KeepsObj.refl _)⟩
 ·have z:=(Array.getElem?_eq_some_iff.1 p).1
  simp only [Mem.freeze]
  rw [Aa]
  exact h.top b E
 ·obtain ⟨a1,a2,c,r,a3,a4,a5,a6⟩:=h.box l cs' s
  have n:l<M.N:=by rw [h.N];exact (Aj.1 s).1
  refine ⟨a1,?_,c,r,a3,a4,a5,fun i m g=>(a6 i m g).mono f⟩
  show (M.freeze id cs.length).top (M.bx l)=0
  simp only [Mem.freeze]
  rw [Ai (o l n)]
  exact a2
 ·by_cases q:i=id
  ·subst q
   rw [List.getElem?_set_self a] at hi
   cases hi
   exact ⟨by simp [Mem.freeze,F],u,o,(Array.getElem?_eq_some_iff.1 p).1⟩
  ·rw [List.getElem?_set_ne (Ne.symm q)] at hi
   have k:i<M.NR:=by rw [h.NR];exact (Aj.1 hi).1
   have t:=h.row i x hi
   have j:M.blk i≠M.blk id:=fun e=>q (h.rowinj i id k d e)
   exact t.keep f (by simp [Mem.freeze,q]) rfl rfl rfl (by simp [Mem.freeze,j]) t.ne rfl
theorem R.freeze (h:RelSt w0 M st w) {id ver sz:Nat} {cs:List AV} (hid:st.rows[id]? = some (.vec ver sz cs)) {ag:Bool} (hag:ag=true∨sz=1) {o m:Nat} (hb:(o+m)*sz≤cs.length) {v:Value} (hv:R w0 M w v (.vec id ver o m)) :
  R w0 (M.freeze id cs.length) w v (.list (Yy sz ag cs o m) .none):=by
 obtain ⟨D,_⟩:=h.freeze hid
 obtain ⟨K,J,N,Y,Q,U,V,c,H,G,O,F,r,n⟩:=h.row id _ hid
 cases hv with
 | @vec _ _ _ _ p cap d hver hh =>
 obtain ⟨rfl,z,C⟩:=hh K.symm
 have s:(Yy sz ag cs o m).length=m:=U8 _ _ _ _ _
 have k:∀ i,i<m→(o+i)*sz+sz≤cs.length:=fun i d=>by
  have:(o+i+1)*sz≤(o+m)*sz:=Nat.mul_le_mul_right _ (by omega)
  rw [Nat.succ_mul] at this
  omega
 let us:Nat→Value:=fun i=>if ag then .agg ((List.range sz).map fun j=>c.getD ((o+i)*sz+j) undef).toArray else c.getD ((o+i)*sz) undef
 have u:∀ i,i<m→R w0 M w (us i) (NC ag cs ((o+i)*sz) sz):=fun i d=>by
  refine N6 (f:=fun j=>c.getD ((o+i)*sz+j) undef) r (k i d) hag (fun j l=>?_)
  have a:(o+i)*sz+j<c.size:=by omega
  rw [Array.getD_eq_getD_getElem?,Array.getElem?_eq_getElem a]
  exact n _ a l
 have g:∀ i,i<m→(us i).cells.size=sz∧∀ j,j<sz→(us i).cells[j]? = c[(o+i)*sz+j]? := fun i d=>by
  by_cases q:ag=true
  ·have e:us i = .agg ((List.range sz).map fun j=>c.getD ((o+i)*sz+j) undef).toArray:=by simp [us,q]
   rw [e]
   refine ⟨by simp [Value.cells],fun j l=>?_⟩
   have a:(o+i)*sz+j<c.size:=by have:=k i d;omega
   simp [Value.cells,l,Array.getElem?_eq_getElem a]
  ·have y:sz=1:=hag.resolve_left q
   have e:us i=c.getD ((o+i)*sz) undef:=by simp [us,q]
   have a:(o+i)*sz<c.size:=by have:=k i d;omega
   have x:(o+i)*sz<cs.length:=by have:=k i d;omega
   have t:=(n _ a x).cells_one (r _ (List.getElem_mem _))
   rw [e,Array.getD_eq_getD_getElem?,Array.getElem?_eq_getElem a,Option.getD_some,t.1]
   refine ⟨by simp [y],fun j l=>?_⟩
   obtain rfl:j=0:=by omega
   simp [Array.getElem?_eq_getElem a]
 have:=R.list (w0:=w0) (M:=M.freeze id cs.length) (w:=w) (b:=M.blk id) (off:=o*sz) (cap:=cap) (xs:=Yy sz ag cs o m) (o := .none) sz us (by rw [s];exact C) (by omega)
  (fun i d=>by
   rw [s] at d
   refine ⟨(g i d).1,fun j l=>⟨.inr ?_,?_⟩⟩
   ·have E:=k i d
    rw [Nat.add_mul] at E
    simp only [Mem.freeze,if_true]
    omega
   ·rw [(g i d).2 j l,Nat.add_mul,cell_of_row w _ _ c H _ G]) (fun i d=>by
   rw [s] at d
   simp only [Yy,List.getElem_map,List.getElem_range]
   exact (u i d).mono D) trivial
 rw [s] at this
 rw [J]
 exact this
end
end Go.Ev
