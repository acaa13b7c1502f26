/-
  Part 2 of the proof: rules and walks that the claim's last text uses.
-/
import Derived.Attr
import Derived.Laws.BytesArg
import Derived.Laws.IdiomStrings
import Derived.Laws.MakeOwn
import Derived.Laws.Runes
import Derived.Lib.ConvBytes
import Derived.OrdersIn
import Derived.RangeFuncIn
import Derived.StillTail
import Derived.Test.YtbfenpeblbonlaaGreatDoorCb1
set_option linter.unusedSimpArgs false
set_option linter.unusedVariables false
set_option maxRecDepth 100000
set_option maxHeartbeats 4000000
namespace Go.Ev
open Go Go.RowKit
section
variable {P:Program} {w0:World} {n:Nat} {M:Mem} {e:Env} {st:St} {a:Act} {w:World}
def flat (us:Nat->Value) (m:Nat):List Value:=(List.range m).flatMap fun i=>(us i).cells.toList
theorem V2 (us:Nat->Value) (m:Nat):flat us (m+1)=flat us m++(us m).cells.toList:=by
 simp [flat,List.range_succ]
theorem A1 {us:Nat->Value} {sz:Nat}:∀ {m:Nat},(∀ i,i<m->(us i).cells.size=sz)->(flat us m).length=m*sz
 | 0,_=>by simp [flat]
 | m+1,h=>by
  rw [V2,List.length_append,A1 (fun i a=>h i (by omega)),Array.length_toList,h m (by omega),Nat.succ_mul]
theorem Iz {us:Nat->Value} {sz:Nat}:∀ {m:Nat},(∀ i,i<m->(us i).cells.size=sz)->∀ i,i<m->∀ j,j<sz->(flat us m)[i*sz+j]? = (us i).cells[j]?
 | 0,_,i,a,_,_=>absurd a (by omega)
 | m+1,h,i,a,j,hj=>by
  have d:=A1 (us:=us) (m:=m) (fun i a=>h i (by omega))
  rw [V2,List.getElem?_append,d]
  by_cases c:i=m
  ·subst c
   rw [Aa,show i*sz+j-i*sz=j from by omega,Array.getElem?_toList]
  ·have b:(i+1)*sz<=m*sz:=Nat.mul_le_mul_right _ (by omega)
   rw [Nat.succ_mul] at b
   rw [Ab]
   exact Iz (fun i a=>h i (by omega)) i (by omega) j hj
theorem Gg {us:Nat->Value} {sz m:Nat} (hs:∀ i,i<m->(us i).cells.size=sz) {b off:Nat} (hsz:0<sz) (hc:∀ i,i<m->∀ j,j<sz->w.cell? ⟨b,off+i*sz+j,none⟩=(us i).cells[j]?) :
  ∀ j u,(flat us m)[j]? = some u->w.cell? ((⟨b,off,none⟩:Addr).add j)=some u:=by
 intro j u h
 have l:=A1 hs
 have k:j<m*sz:=by rw [<-l];exact (Aj.1 h).1
 have e:=Nat.div_add_mod j sz
 have c:j / sz<m:=(Nat.div_lt_iff_lt_mul hsz).2 k
 have a:=Nat.mod_lt j hsz
 have d:=Iz hs (j / sz) c (j % sz) a
 have f:=hc (j / sz) c (j % sz) a
 have g:j / sz*sz+j % sz=j:=by rw [Nat.mul_comm];exact e
 rw [g] at d
 rw [Nat.add_assoc,g] at f
 rw [EO,f,<-d,h]
theorem R.list_open {v:Value} {xs:List AV} {o:Own} {sz:Nat} (h:R w0 M w v (.list xs o)) (hs:∀ y∈xs,y.cells.length=sz) :
  ∃ us:Nat->Value,(∀ i (hi:i<xs.length),(us i).cells.size=sz/\R w0 M w (us i) xs[i]) /\
   (((v = .slice none 0 0\/∃ ad,v = .slice (some ad) 0 0)/\xs=[]/\∀ id,o ≠ .row id)\/∃ b off cap sz',v = .slice (some ⟨b,off,none⟩) xs.length cap/\xs.length<=cap/\cap<=maxLen/\ZaD M b off cap xs.length sz' o /\
    ∀ i,i<xs.length->∀ j,j<sz->w.cell? ⟨b,off+i*sz+j,none⟩=(us i).cells[j]?):=by
 cases h with
 | nil ho=>exact ⟨fun _=>undef,fun i hi=>absurd hi (by simp),.inl ⟨.inl rfl,rfl,ho⟩⟩
 | emp ho=>exact ⟨fun _=>undef,fun i hi=>absurd hi (by simp),.inl ⟨.inr ⟨_,rfl⟩,rfl,ho⟩⟩
 | @list b off cap _ _ sz' us hc hm hcell hu ho =>
  have a:∀ i (hi:i<xs.length),(us i).cells.size=sz:=fun i hi=>by rw [(hu i hi).cells.1];exact hs _ (List.getElem_mem _)
  refine ⟨us,fun i hi=>⟨a i hi,hu i hi⟩,.inr ⟨b,off,cap,sz',rfl,hc,hm,ho,fun i hi j c=>?_⟩⟩
  have e:sz'=sz:=by rw [<-(hcell i hi).1,a i hi]
  subst e
  exact ((hcell i hi).2 j c).2
theorem UG {us:Nat->Value} {xs:List AV} {sz:Nat} (hu:∀ i (hi:i<xs.length),(us i).cells.size=sz/\R w0 M w (us i) xs[i]) (hn:∀ y∈xs,AP y=true):∀ u∈flat us xs.length,u.oneCell'=true:=by
 intro u g
 obtain ⟨i,hi,b⟩:=List.mem_flatMap.1 g
 have c:i<xs.length:=List.mem_range.1 hi
 obtain ⟨hs,d⟩:=hu i c
 obtain ⟨k,f,rfl⟩:=List.getElem_of_mem b
 simp only [Array.length_toList] at f
 rw [Array.getElem_toList]
 have a:=d.cellsOne (fun vs e=>by have:=hn _ (List.getElem_mem c);rw [e] at this;cases this)
 exact (d.cells.2 k f (by rw [<-d.cells.1];exact f)).oneCell (a _ (List.getElem_mem _))
def Mem.addRow (M:Mem) (b cap k sz tp:Nat):Mem :=
  { M with NR:=M.NR+1,fr:=fun i=>if i=M.NR then k else M.fr i,blk:=fun i=>if i=M.NR then b else M.blk i,cap:=fun i=>if i=M.NR then cap else M.cap i,
           rsz:=fun i=>if i=M.NR then sz else M.rsz i,top:=fun x=>if x=b then tp else M.top x }
def Mem.growRow (M:Mem) (id b cap k tp:Nat):Mem :=
 { M with fr:=fun i=>if i=id then k else M.fr i,blk:=fun i=>if i=id then b else M.blk i,cap:=fun i=>if i=id then cap else M.cap i,top:=fun x=>if x=b then tp else M.top x }
theorem Kt {id cap k tp b:Nat} (hid:id<M.NR) (h:M.foreign b):(M.growRow id (M.blk id) cap k tp).foreign b/\(M.growRow id (M.blk id) cap k tp).top b=M.top b:=by
 refine ⟨⟨h.1,fun i a=>?_,h.2.2⟩,?_⟩
 ·simp only [Mem.growRow]
  split
  ·exact h.2.1 id hid
  ·exact h.2.1 i a
 ·simp only [Mem.growRow]
  rw [Ai (fun e=>h.2.1 id hid e.symm)]
theorem L9 {id g cap k tp b:Nat} (hb:b<g) (h:M.foreign b):(M.growRow id g cap k tp).foreign b:=by
 refine ⟨h.1,fun i a=>?_,h.2.2⟩
 simp only [Mem.growRow]
 split
 ·omega
 ·exact h.2.1 i a
theorem RelSt.addRow' (h:RelSt w0 M st w) {cs:Array Value} {ty:TypeId} {cap k sz tp:Nat} {x:RowA}
  (hnew:Ext w0 M w (M.addRow w.heap.size cap k sz tp) (w.alloc (.cells cs ty))->(∀ l,l<M.N->M.bx l≠w.heap.size)->RowOk w0 (M.addRow w.heap.size cap k sz tp) (w.alloc (.cells cs ty)) M.NR x) :
  RelSt w0 (M.addRow w.heap.size cap k sz tp) { st with rows:=st.rows++[x] } (w.alloc (.cells cs ty))/\Ext w0 M w (M.addRow w.heap.size cap k sz tp) (w.alloc (.cells cs ty)):=by
 have f:∀ b,b<w.heap.size->(M.addRow w.heap.size cap k sz tp).top b=M.top b:=fun b u=>by simp [Mem.addRow];omega
 have a:∀ i,i<M.NR->(M.addRow w.heap.size cap k sz tp).fr i=M.fr i/\(M.addRow w.heap.size cap k sz tp).blk i=M.blk i/\(M.addRow w.heap.size cap k sz tp).cap i=M.cap i/\(M.addRow w.heap.size cap k sz tp).rsz i=M.rsz i:=by
  intro i g
  have:¬ i=M.NR:=by omega
  simp [Mem.addRow,this]
 have m:Ext w0 M w (M.addRow w.heap.size cap k sz tp) (w.alloc (.cells cs ty)) :=
  OZ _ _ (.inl rfl) (fun _ _=>rfl) (Nat.le_succ _) (fun i g=>by obtain ⟨a1,a2,a3,a4⟩:=a i g;exact ⟨by omega,fun _=>⟨a2,a3,a4⟩⟩) f (fun b u q=>⟨q.1,fun i g=>by
   by_cases c:i=M.NR
   ·subst c;simp only [Mem.addRow,if_true];omega
   ·have p:i<M.NR:=by simp only [Mem.addRow] at g;omega
    rw [(a i p).2.1];exact q.2.1 i p,q.2.2⟩)
 have v:∀ l,l<M.N->M.bx l≠w.heap.size:=fun l s=>by have:=h.box_lt s;omega
 refine ⟨⟨h.below.alloc h.base_le _,h.N,by simp [Mem.addRow,h.NR],fun b u=>?_,h.inj,fun l c s=>?_,fun id y hid=>?_,fun i j g E d=>?_,h.loop.mono m rfl (KeepsObj.alloc _ _)⟩,m⟩
 ·simp at u
  have:(M.addRow w.heap.size cap k sz tp).top b=M.top b:=by simp [Mem.addRow];omega
  rw [this]
  exact h.top b (by omega)
 ·obtain ⟨a1,a2,G,t,a3,a4,a5,a6⟩:=h.box l c s
  have o:=(Array.getElem?_eq_some_iff.1 a3).1
  exact ⟨a1,by rw [show (M.addRow w.heap.size cap k sz tp).bx l=M.bx l from rfl,f _ o];exact a2,G,t,by rw [show (M.addRow w.heap.size cap k sz tp).bx l=M.bx l from rfl,A3 _ _ o];exact a3,a4,a5,fun i F H=>(a6 i F H).mono m⟩
 ·by_cases e1:id=M.NR
  ·subst e1
   simp only [h.NR,List.getElem?_concat_length,Option.some.injEq] at hid
   subst hid
   exact hnew m v
  ·have e:id<M.NR:=by
    have:id<(st.rows++[x]).length:=(Aj.1 hid).1
    have z:=h.NR
    simp at this
    omega
   rw [List.getElem?_append_left (by rw [<-h.NR];exact e)] at hid
   have r:=h.row id y hid
   obtain ⟨o1,o2,C,D⟩:=a id e
   exact r.keep m o1 D o2 C (f _ r.lt) r.ne (A3 _ _ r.lt)
 ·have z:(M.addRow w.heap.size cap k sz tp).NR=M.NR+1:=rfl
  rw [z] at g E
  have n:(M.addRow w.heap.size cap k sz tp).blk M.NR=w.heap.size:=by simp [Mem.addRow]
  by_cases e1:i=M.NR
  ·by_cases e2:j=M.NR
   ·omega
   ·subst e1
    rw [n,(a j (by omega)).2.1] at d
    have:=h.row_lt (i:=j) (by omega)
    omega
  ·by_cases e2:j=M.NR
   ·subst e2
    rw [n,(a i (by omega)).2.1] at d
    have:=h.row_lt (i:=i) (by omega)
    omega
   ·rw [(a i (by omega)).2.1,(a j (by omega)).2.1] at d
    exact h.rowinj i j (by omega) (by omega) d
theorem RelSt.addRow (h:RelSt w0 M st w) {cs:Array Value} {ty:TypeId} {cap k sz:Nat} (hm:cap<=maxLen) (hk:k<=cap) (hs:cs.size=cap*sz) :
  RelSt w0 (M.addRow w.heap.size cap k sz (k*sz)) { st with rows:=st.rows++[.grow k sz] } (w.alloc (.cells cs ty))/\Ext w0 M w (M.addRow w.heap.size cap k sz (k*sz)) (w.alloc (.cells cs ty)) :=
 h.addRow' fun _ a=>by
  have q:(M.addRow w.heap.size cap k sz (k*sz)).fr M.NR=k/\(M.addRow w.heap.size cap k sz (k*sz)).blk M.NR=w.heap.size/\(M.addRow w.heap.size cap k sz (k*sz)).cap M.NR=cap/\(M.addRow w.heap.size cap k sz (k*sz)).rsz M.NR=sz/\(M.addRow w.heap.size cap k sz (k*sz)).top w.heap.size=k*sz:=by simp [Mem.addRow]
  obtain ⟨q1,q2,q3,c,b⟩:=q
  simp only [RowOk,q1,q2,q3,c,b]
  exact ⟨trivial,trivial,h.base_le,trivial,a,hm,hk,cs,ty,heap_alloc_new w _,hs⟩
theorem RelSt.addVec (h:RelSt w0 M st w) {cs:Array Value} {ty:TypeId} {cap sz:Nat} {xs:List AV} (hm:cap<=maxLen) (hz:0<sz) (hs:cs.size=cap*sz) (hl:xs.length<=cs.size) (h1:∀ x∈xs,x.one=true) (hR:∀ (i:Nat) (v:Value) (x:AV),cs[i]? = some v->xs[i]? = some x->R w0 M w v x) :
  RelSt w0 (M.addRow w.heap.size cap 0 sz 0) { st with rows:=st.rows++[.vec 0 sz xs] } (w.alloc (.cells cs ty))/\Ext w0 M w (M.addRow w.heap.size cap 0 sz 0) (w.alloc (.cells cs ty)) :=
 h.addRow' fun d c=>by
  have q:(M.addRow w.heap.size cap 0 sz 0).fr M.NR=0/\(M.addRow w.heap.size cap 0 sz 0).blk M.NR=w.heap.size/\(M.addRow w.heap.size cap 0 sz 0).cap M.NR=cap/\(M.addRow w.heap.size cap 0 sz 0).rsz M.NR=sz/\(M.addRow w.heap.size cap 0 sz 0).top w.heap.size=0:=by simp [Mem.addRow]
  obtain ⟨q1,q2,q3,f,e⟩:=q
  simp only [RowOk,q1,q2,q3,f,e]
  exact ⟨trivial,trivial,h.base_le,trivial,c,hm,hz,cs,ty,heap_alloc_new w _,hs,hl,h1,fun i a b=>(hR i _ _ (Array.getElem?_eq_getElem a) (List.getElem?_eq_getElem b)).mono d⟩
theorem RelSt.growRow' (h:RelSt w0 M st w) {id:Nat} {x0 x:RowA} (hid:st.rows[id]? = some x0) {w':World} {b cap k tp:Nat} (hbelow:Below w0.heap.size w w')
  (hsize:w.heap.size<=w'.heap.size) (hbw:b<w'.heap.size) (hbox:∀ l,l<M.N->M.bx l≠b/\w'.heap[M.bx l]? = w.heap[M.bx l]?) (hrow:∀ i,i<M.NR->i≠id->M.blk i≠b/\w'.heap[M.blk i]? = w.heap[M.blk i]?)
  (hnew:RowOk w0 (M.growRow id b cap k tp) w' id x) (hx:Ext w0 M w (M.growRow id b cap k tp) w') (hko:KeepsObj w w') :
  RelSt w0 (M.growRow id b cap k tp) { st with rows:=st.rows.set id x } w':=by
 have e:id<st.rows.length:=(Aj.1 hid).1
 refine ⟨h.below.trans hbelow,h.N,by simp [Mem.growRow,h.NR],fun y v=>?_,h.inj,fun l c s=>?_,fun i y hi=>?_,fun i j hi m a=>?_,h.loop.mono hx rfl hko⟩
 ·have:(M.growRow id b cap k tp).top y=M.top y:=by simp [Mem.growRow];omega
  rw [this]
  exact h.top y (by omega)
 ·obtain ⟨a1,a2,C,n,a3,a4,a5,a6⟩:=h.box l c s
  have p:l<M.N:=by rw [h.N];exact (Aj.1 s).1
  obtain ⟨f,g⟩:=hbox l p
  refine ⟨a1,?_,C,n,by rw [show (M.growRow id b cap k tp).bx l=M.bx l from rfl,g];exact a3,a4,a5,fun i f g=>(a6 i f g).mono hx⟩
  show (M.growRow id b cap k tp).top (M.bx l)=0
  simp [Mem.growRow,f,a2]
 ·by_cases e1:i=id
  ·subst e1
   rw [List.getElem?_set_self e] at hi
   cases hi
   exact hnew
  ·rw [List.getElem?_set_ne (Ne.symm e1)] at hi
   have o:i<M.NR:=by rw [h.NR];exact (Aj.1 hi).1
   have r:=h.row i y hi
   obtain ⟨f,g⟩:=hrow i o e1
   have q:(M.growRow id b cap k tp).fr i=M.fr i/\(M.growRow id b cap k tp).blk i=M.blk i/\(M.growRow id b cap k tp).cap i=M.cap i/\(M.growRow id b cap k tp).rsz i=M.rsz i/\(M.growRow id b cap k tp).top (M.blk i)=M.top (M.blk i):=by simp [Mem.growRow,e1,f]
   obtain ⟨q1,q2,q3,u,t⟩:=q
   exact r.keep hx q1 u q2 q3 t r.ne g
 ·have d:∀ j,(M.growRow id b cap k tp).blk j=if j=id then b else M.blk j:=fun j=>rfl
  rw [d,d] at a
  have z:(M.growRow id b cap k tp).NR=M.NR:=rfl
  rw [z] at hi m
  by_cases e1:i=id
  ·by_cases e2:j=id
   ·omega
   ·rw [Ah e1,Ai e2] at a
    exact absurd a.symm (hrow j m e2).1
  ·by_cases e2:j=id
   ·rw [Ai e1,Ah e2] at a
    exact absurd a (hrow i hi e1).1
   ·rw [Ai e1,Ai e2] at a
    exact h.rowinj i j hi m a
theorem RelSt.growRow (h:RelSt w0 M st w) {id:Nat} {k0 sz:Nat} (hid:st.rows[id]? = some (.grow k0 sz)) {w':World} {b cap k:Nat} (hb0:w0.heap.size<=b) (hbelow:Below w0.heap.size w w')
  (hsize:w.heap.size<=w'.heap.size) (hbw:b<w'.heap.size) (hm:cap<=maxLen) (hk:k<=cap) (hbox:∀ l,l<M.N->M.bx l≠b/\w'.heap[M.bx l]? = w.heap[M.bx l]?) (hrow:∀ i,i<M.NR->i≠id->M.blk i≠b/\w'.heap[M.blk i]? = w.heap[M.blk i]?)
  {cs:Array Value} {ty:TypeId} (hcs:w'.heap[b]? = some (.cells cs ty (0,0))) (hs:cs.size=cap*sz) (hx:Ext w0 M w (M.growRow id b cap k (k*sz)) w') (hko:KeepsObj w w') :
  RelSt w0 (M.growRow id b cap k (k*sz)) { st with rows:=st.rows.set id (.grow k sz) } w':=by
 refine h.growRow' hid hbelow hsize hbw hbox hrow ?_ hx hko
 have q:(M.growRow id b cap k (k*sz)).fr id=k/\(M.growRow id b cap k (k*sz)).blk id=b/\(M.growRow id b cap k (k*sz)).cap id=cap/\(M.growRow id b cap k (k*sz)).rsz id=M.rsz id/\(M.growRow id b cap k (k*sz)).top b=k*sz:=by simp [Mem.growRow]
 obtain ⟨q1,q2,q3,d,a⟩:=q
 simp only [RowOk,q1,q2,q3,d,a]
 exact ⟨trivial,(h.row id _ hid).2.1,hb0,trivial,fun l c=>(hbox l c).1,hm,hk,cs,ty,hcs,hs⟩
def Xk (us ux:Nat->Value) (k:Nat):Nat->Value:=fun i=>if i<k then us i else ux (i-k)
theorem Y5 {us ux:Nat->Value} {xs ys:List AV} {sz:Nat} {M':Mem} {w':World} (hx:Ext w0 M w M' w') (h1:∀ i (hi:i<xs.length),(us i).cells.size=sz/\R w0 M w (us i) xs[i]) (h2:∀ i (hi:i<ys.length),(ux i).cells.size=sz/\R w0 M w (ux i) ys[i]) :
  ∀ i (hi:i<(xs++ys.map AV.pub).length),(Xk us ux xs.length i).cells.size=sz/\R w0 M' w' (Xk us ux xs.length i) (xs++ys.map AV.pub)[i]:=by
 intro i hi
 unfold Xk
 by_cases c:i<xs.length
 ·rw [Ah c,List.getElem_append_left c]
  exact ⟨(h1 i c).1,((h1 i c).2).mono hx⟩
 ·simp at hi
  rw [Ai c,List.getElem_append_right (by omega),List.getElem_map]
  exact ⟨(h2 _ (by omega)).1,((h2 _ (by omega)).2).pub.mono hx⟩
theorem YB {us ux:Nat->Value} {k m sz:Nat} (hs:∀ i,i<k->(us i).cells.size=sz) (hx:∀ i,i<m->(ux i).cells.size=sz) (zs:List Value) :
  ∀ i,i<k+m->∀ j,j<sz->(flat us k++flat ux m++zs)[i*sz+j]? = (Xk us ux k i).cells[j]? := by
 intro i f j a
 have d:=A1 hs
 have b:=A1 hx
 rw [List.append_assoc,List.getElem?_append,d]
 unfold Xk
 by_cases c:i<k
 ·have q:(i+1)*sz<=k*sz:=Nat.mul_le_mul_right _ c
  rw [Nat.succ_mul] at q
  rw [Ab,Ah c]
  exact Iz hs i c j a
 ·have q:k*sz<=i*sz:=Nat.mul_le_mul_right _ (by omega)
  have q2:(i-k+1)*sz<=m*sz:=Nat.mul_le_mul_right _ (by omega)
  rw [Nat.succ_mul] at q2
  have e:i*sz=k*sz+(i-k)*sz:=by rw [<-Nat.add_mul];congr 1;omega
  rw [Aa,Ai c,List.getElem?_append,b,Ab,show i*sz+j-k*sz=(i-k)*sz+j from by omega]
  exact Iz hx (i-k) (by omega) j a
theorem Yu (t ty el:TypeId) {sz:Nat} {ag:Bool} (ht:P.underlying t=some (.slice el)) (hty:GT P el=some (sz,ag)) (g k cap:Nat) (cur:Array Value) (te:TypeId) (hg:w.heap[g]? = some (.cells cur te (0,0)))
  {x:Value} {m:Nat} (hlen:(Builtin.lenOf x).run P w = .ok m w) (news:List Value) (hf:(Builtin.firstCells sz m x).run P w = .ok news.toArray w) (h1:∀ u∈news,u.oneCell'=true)
  (hroom:k+m<=cap) (hfit:k*sz+news.length<=cur.size) :
  (Builtin.append_ #[t,t] ty #[.slice (some ⟨g,0,none⟩) k cap,x]).run P w =
   .ok (.slice (some ⟨g,0,none⟩) (k+m) cap) (w.setRow g (cur.toList.take (k*sz)++news++cur.toList.drop (k*sz+news.length)).toArray):=by
 have a:=run_storeCells_at P g (k*sz) te news 0 cur w hg (by simpa using hfit) h1
 simp only [Nat.add_zero] at a
 obtain ⟨i,d,c,hsz,_,_⟩:=KW hty
 subst hsz
 have b:(⟨g,0,none⟩:Addr).add (k*i.size)=⟨g,k*i.size,none⟩:=by rw [EO,Nat.zero_add]
 simp [Builtin.append_,run_underlying ht,sizeOf,typeInfo,c,hlen,hroom,hf,b,a]
theorem MB {ys:List AV} {sz:Nat} (hs:∀ y∈ys,y.cells.length=sz):(ys.flatMap fun y=>y.pub.cells).length=ys.length*sz:=by
 induction ys with
 | nil=>simp
 | cons y ys ih =>
  rw [List.flatMap_cons,List.length_append,ih (fun z a=>hs z (by simp [a])),AV.pub_cells_length,hs y (by simp),List.length_cons,Nat.succ_mul]
  omega
theorem ZdF {sz:Nat}:∀ (ys:List AV),(∀ y∈ys,y.cells.length=sz)->∀ i y,ys[i]? = some y->∀ k,k<sz->(ys.flatMap fun y=>y.pub.cells)[i*sz+k]? = y.pub.cells[k]?
 | [],_,i,y,h,_,_=>by simp at h
 | x::ys,hs,0,y,h,k,hk=>by
  simp only [List.getElem?_cons_zero,Option.some.injEq] at h
  subst h
  rw [List.flatMap_cons,Nat.zero_mul,Nat.zero_add,List.getElem?_append_left (by rw [AV.pub_cells_length,hs x (by simp)];exact hk)]
 | x::ys,hs,i+1,y,h,k,hk=>by
  have a:x.pub.cells.length=sz:=by rw [AV.pub_cells_length];exact hs x (by simp)
  rw [List.flatMap_cons,List.getElem?_append_right (by rw [a,Nat.succ_mul];omega),a,show (i+1)*sz+k-sz=i*sz+k from by rw [Nat.succ_mul];omega]
  exact ZdF ys (fun z b=>hs z (by simp [b])) i y (by simpa using h) k hk
theorem Xh {ux:Nat->Value} {ys:List AV} (hu:∀ i (hi:i<ys.length),R w0 M w (ux i) ys[i]) (hn:∀ y∈ys,AP y=true):∀ x∈ys.flatMap (fun y=>y.pub.cells),x.one=true:=by
 intro x c
 obtain ⟨y,b,a⟩:=List.mem_flatMap.1 c
 obtain ⟨i,hi,rfl⟩:=List.mem_iff_getElem.1 b
 refine ((hu i hi).pub).cellsOne (fun vs e=>?_) x a
 have:=hn _ b
 cases h:ys[i]<;>rw [h] at e this<;>first | (cases this;done) | (cases e;done)
theorem ZfX {ux:Nat->Value} {ys:List AV} {sz:Nat} (hz:0<sz) (hu:∀ i (hi:i<ys.length),(ux i).cells.size=sz/\R w0 M w (ux i) ys[i]) (hs:∀ y∈ys,y.cells.length=sz) {j:Nat} {v:Value} {x:AV} (hv:(flat ux ys.length)[j]? = some v) (hx:(ys.flatMap fun y=>y.pub.cells)[j]? = some x):R w0 M w v x:=by
 have d:j<ys.length*sz:=by rw [<-MB hs];exact (Aj.1 hx).1
 have hi:j / sz<ys.length:=(Nat.div_lt_iff_lt_mul hz).2 d
 have c:=Nat.mod_lt j hz
 have e:j / sz*sz+j % sz=j:=by rw [Nat.mul_comm];exact Nat.div_add_mod j sz
 have a:=Iz (us:=ux) (sz:=sz) (fun i hi=>(hu i hi).1) (j / sz) hi (j % sz) c
 have b:=ZdF ys hs (j / sz) _ (List.getElem?_eq_getElem hi) (j % sz) c
 rw [e] at a b
 rw [hv] at a
 rw [hx] at b
 obtain ⟨_,g⟩:=((hu _ hi).2).pub.cells
 obtain ⟨q1,q2⟩:=Array.getElem?_eq_some_iff.1 a.symm
 obtain ⟨q3,f⟩:=Aj.1 b.symm
 rw [<-q2,<-f]
 exact g _ q1 q3
theorem V3 (h:Rel w0 n M e st a w) (s x:Operand) (t ty:TypeId) (hs:AN e true s) (hx:AN e true x) (hob:(Bv P st t (Az e s) (Az e x)).1) :
  Yields' P w0 M (Bv P st t (Az e s) (Az e x)).2.2 (Bv P st t (Az e s) (Az e x)).2.1 w (do pure (.value (<- Builtin.append_ #[t,t] ty #[a.eval s,a.eval x]))):=by
 have hRs:=A5 h hs
 have hRx:=A5 h hx
 generalize Az e s=S at hRs hob ⊢
 generalize Az e x=X at hRx hob ⊢
 generalize a.eval s=vs at hRs ⊢
 generalize a.eval x=vx at hRx ⊢
 unfold Bv at hob ⊢
 cases he:It P t with
 | none=>simp [he] at hob
 | some p =>
  obtain ⟨el,sz,ag,bo⟩:=p
  simp only [he] at hob ⊢
  obtain ⟨f,hu,m,a4,a9⟩:=GM he
  have r:f.size=sz:=by
   obtain ⟨i',d,h1,h2,_⟩:=KW a9
   rw [m] at h1;cases h1;exact h2
  cases S with
  | list xs o =>
   have ax:(A0 X).length=0->BK X=true->Yields' P w0 M st (.list xs o) w (do pure (.value (<- Builtin.append_ #[t,t] ty #[vs,vx]))):=by
    intro ah lx
    obtain ⟨ys,o',rfl⟩:=Ij lx
    simp only [A0] at ah
    have:ys=[]:=List.length_eq_zero_iff.1 ah
    subst this
    refine .here h.st (v:=vs) ?_ hRs
    have bj:(Builtin.lenOf vx).run P w = .ok 0 w/\(Builtin.firstCells sz 0 vx).run P w = .ok #[] w:=by
     cases hRx with
     | nil _=>exact ⟨rfl,rfl⟩
     | emp _=>exact ⟨rfl,by simp [Builtin.firstCells,loadCells,loadCellsFrom]⟩
     | list=>exact ⟨rfl,by simp [Builtin.firstCells,loadCells,loadCellsFrom]⟩
    obtain ⟨bf,be⟩:=bj
    have bb:∀ (ad:Option Addr) (ln cap:Nat),ln<=cap->(Builtin.append_ #[t,t] ty #[.slice ad ln cap,vx]).run P w = .ok (.slice ad ln cap) w:=fun ad ln cap Z=>by
     cases ad with
     | none=>simp [Builtin.append_,run_underlying hu,sizeOf,typeInfo,m,r,bf,be,Z]
     | some ad=>simp [Builtin.append_,run_underlying hu,sizeOf,typeInfo,m,r,bf,be,Z,storeCells]
    cases hRs with
    | nil _=>exact bb none 0 0 (Nat.le_refl _)
    | emp _=>exact bb _ 0 0 (Nat.le_refl _)
    | list sz us hc=>exact bb _ _ _ hc
   cases o with
   | none=>exact hob.elim
   | full =>
   simp only at hob ⊢
   by_cases ah:(A0 X).length=0
   ·rw [Ah ah] at hob ⊢
    exact ax ah hob.1
   rw [Ai ah] at hob ⊢
   obtain ⟨lx,⟨O,hz,H,a2,cx⟩,cs⟩:=hob
   obtain ⟨ys,o',rfl⟩:=Ij lx
   simp only [A0] at *
   have hpos:0<ys.length:=by omega
   obtain ⟨z,ar⟩:=Option.isSome_iff_exists.1 hz
   obtain ⟨i',v,hi',hv,hc,ae,rfl⟩:=ER ar
   rw [m] at hi';cases hi'
   obtain ⟨us,u1,u2⟩:=hRs.list_open cs
   obtain ⟨ux,x1,x2⟩:=hRx.list_open (fun y hy=>(cx y hy).1)
   have am:∀ i,i<xs.length->(us i).cells.size=sz:=fun i m=>(u1 i m).1
   have g:∀ i,i<ys.length->(ux i).cells.size=sz:=fun i m=>(x1 i m).1
   rcases x2 with ⟨_,q,_⟩ | ⟨bx,ox,cx',_,rfl,_,_,_,hcx⟩
   ·subst q;exact absurd hpos (by simp)
   have K:=Gg (w:=w) g O hcx
   have Q:xs.length+ys.length<=maxLen:=by simp [maxLen];omega
   have J:∀ (U:Nat) (zs:List Value) (cells:Array Value),cells.toList=flat us xs.length++flat ux ys.length++zs->zs.length=(grownCap w (xs.length+ys.length) U el-(xs.length+ys.length))*sz ->
     (Builtin.append_ #[t,t] ty #[vs,.slice (some ⟨bx,ox,none⟩) ys.length cx']).run P w = .ok (.slice (some ⟨w.heap.size,0,none⟩) (xs.length+ys.length) (grownCap w (xs.length+ys.length) U el)) (w.drew.alloc (.cells cells el)) ->
     Yields' P w0 M { st with rows:=st.rows++[.grow (xs.length+ys.length) sz] } (.list (xs++ys.map AV.pub) (.row st.rows.length)) w (do pure (.value (<- Builtin.append_ #[t,t] ty #[vs,.slice (some ⟨bx,ox,none⟩) ys.length cx']))):=by
    intro U zs cells E bd hrun
    obtain ⟨d1,d2⟩:=h.st.drew
    have af:=grownCap_ge w (xs.length+ys.length) U el
    have Z:=grownCap_le_maxLen w (xs.length+ys.length) U el Q
    have G:cells.size=grownCap w (xs.length+ys.length) U el*sz:=by
     have:cells.size=cells.toList.length:=by simp
     rw [this,E]
     simp only [List.length_append,A1 am,A1 g,bd]
     rw [<-Nat.add_mul,<-Nat.add_mul]
     congr 1
     omega
    obtain ⟨r1,r2⟩:=d1.addRow (cs:=cells) (ty:=el) (sz:=sz) Z af G
    have ai:=Y5 (w0:=w0) d2 u1 x1
    have C:(xs++ys.map AV.pub).length=xs.length+ys.length:=by simp
    have Y:=R.row (w0:=w0) (M:=M) (w:=w.drew) (us:=Xk us ux xs.length) (xs:=xs++ys.map AV.pub) (cs:=cells) (ty:=el) (sz:=sz) (k:=(xs.length+ys.length)*sz) (cap:=grownCap w (xs.length+ys.length) U el) (o := .row st.rows.length) ai
     (fun i m j hj=>by
      rw [C] at m
      rw [<-Array.getElem?_toList,E]
      exact YB am g zs i m j hj) (by rw [C];exact af) Z (by rw [C];exact Nat.le_refl _) (M.addRow w.drew.heap.size (grownCap w (xs.length+ys.length) U el) (xs.length+ys.length) sz ((xs.length+ys.length)*sz)) (by simp [Mem.addRow]) r2
     (by
      have hN:=h.st.NR
      refine ⟨by simp [Mem.addRow,hN],by rw [C];simp [Mem.addRow,hN],fun _=>by simp [Mem.addRow,hN]⟩)
    rw [C] at Y
    exact .value ⟨_,_,_,hrun,d2.trans r2,r1,Y⟩
   have ab:(flat ux ys.length).length=ys.length*f.size:=by rw [A1 g,r]
   have ak:(xs.length+ys.length)*f.bytes<=140737488355328:=by rw [a4];exact H
   rcases u2 with ⟨rfl | ⟨ad,rfl⟩,q,_⟩ | ⟨bs,os,cps,sz',rfl,_,_,ho,hcs'⟩
   ·subst q
    simp only [List.length_nil,Nat.zero_add] at *
    have hrun:=run_append_nil (P:=P) w t ty el f v hu m hv ⟨bx,ox,none⟩ ys.length cx' (flat ux ys.length) ab K hpos (by omega) (by omega)
    refine J 0 (Builtin.zeroCells v.cells (grownCap w ys.length 0 el-ys.length)).toList _ ?_ ?_ hrun
    ·simp [flat]
    ·simp only [Array.length_toList,size_zeroCells,ae,r]
   ·subst q
    simp only [List.length_nil,Nat.zero_add] at *
    have hrun:=run_append_grow (P:=P) w t ty el f v hu m hv ad 0 0 [] (by simp) (fun j u hu=>by simp at hu) ⟨bx,ox,none⟩ ys.length cx' (flat ux ys.length) ab K (by omega) (by rw [Nat.zero_add];omega) (growslice_fits (by omega) (by rw [Nat.zero_add];exact ak))
    simp only [Nat.zero_add] at hrun
    refine J 0 (Builtin.zeroCells v.cells (grownCap w ys.length 0 el-ys.length)).toList _ ?_ ?_ hrun
    ·simp [flat]
    ·simp only [Array.length_toList,size_zeroCells,ae,r]
   ·have hcap:xs.length=cps:=ho
    have ap:=Gg (w:=w) am O hcs'
    have aw:(flat us xs.length).length=xs.length*f.size:=by rw [A1 am,r]
    have hrun:=run_append_grow (P:=P) w t ty el f v hu m hv ⟨bs,os,none⟩ xs.length cps (flat us xs.length) aw ap ⟨bx,ox,none⟩ ys.length cx' (flat ux ys.length) ab K (by omega) (by omega) (growslice_fits (by omega) ak)
    refine J cps (Builtin.zeroCells v.cells (grownCap w (xs.length+ys.length) cps el-(xs.length+ys.length))).toList _ ?_ ?_ hrun
    ·simp
    ·simp only [Array.length_toList,size_zeroCells,ae,r]
   | seed =>
   simp only at hob ⊢
   by_cases ah:(A0 X).length=0
   ·rw [Ah ah] at hob ⊢
    exact ax ah hob.1
   rw [Ai ah] at hob ⊢
   obtain ⟨lx,⟨O,hz,H,a2,cx⟩,bg,hpos⟩:=hob
   obtain ⟨ys,o',rfl⟩:=Ij lx
   have:xs=[]:=List.length_eq_zero_iff.1 bg
   subst this
   simp only [A0,Nat.zero_add] at *
   obtain ⟨z,ar⟩:=Option.isSome_iff_exists.1 hz
   obtain ⟨i',v,hi',hv,hc,ae,rfl⟩:=ER ar
   rw [m] at hi';cases hi'
   obtain ⟨ux,x1,x2⟩:=hRx.list_open (fun y hy=>(cx y hy).1)
   have g:∀ i,i<ys.length->(ux i).cells.size=sz:=fun i m=>(x1 i m).1
   rcases x2 with ⟨_,q,_⟩ | ⟨bx,ox,cx',_,rfl,_,_,_,hcx⟩
   ·subst q;exact absurd hpos (by simp)
   have K:=Gg (w:=w) g O hcx
   have Q:ys.length<=maxLen:=by simp [maxLen];omega
   have ab:(flat ux ys.length).length=ys.length*f.size:=by rw [A1 g,r]
   have ak:ys.length*f.bytes<=140737488355328:=by rw [a4];exact H
   have J:∀ (U:Nat) (zs:List Value) (cells:Array Value),cells.toList=flat ux ys.length++zs->zs.length=(grownCap w ys.length U el-ys.length)*sz ->
     (Builtin.append_ #[t,t] ty #[vs,.slice (some ⟨bx,ox,none⟩) ys.length cx']).run P w = .ok (.slice (some ⟨w.heap.size,0,none⟩) ys.length (grownCap w ys.length U el)) (w.drew.alloc (.cells cells el)) ->
     Yields' P w0 M { st with rows:=st.rows++[.vec 0 sz (ys.flatMap fun y=>y.pub.cells)] } (.vec st.rows.length 0 0 ys.length) w (do pure (.value (<- Builtin.append_ #[t,t] ty #[vs,.slice (some ⟨bx,ox,none⟩) ys.length cx']))):=by
    intro U zs cells E bd hrun
    obtain ⟨d1,d2⟩:=h.st.drew
    have af:=grownCap_ge w ys.length U el
    have Z:=grownCap_le_maxLen w ys.length U el Q
    have G:cells.size=grownCap w ys.length U el*sz:=by
     have:cells.size=cells.toList.length:=by simp
     rw [this,E]
     simp only [List.length_append,A1 g,bd]
     rw [<-Nat.add_mul]
     congr 1
     omega
    have a3:=MB (fun y hy=>(cx y hy).1)
    obtain ⟨r1,r2⟩:=d1.addVec (cs:=cells) (ty:=el) (sz:=sz) (xs:=ys.flatMap fun y=>y.pub.cells) Z O G (by rw [G,a3];exact Nat.mul_le_mul_right _ af) (Xh (fun i m=>((x1 i m).2).mono d2) (fun y hy=>(cx y hy).2))
     (fun i v x aq aj=>by
      have bc:i<ys.length*sz:=by rw [<-a3];exact (Aj.1 aj).1
      rw [<-Array.getElem?_toList,E,List.getElem?_append_left (by rw [A1 g];exact bc)] at aq
      exact (ZfX O x1 (fun y hy=>(cx y hy).1) aq aj).mono d2)
    refine .value ⟨_,_,_,hrun,d2.trans r2,r1,?_⟩
    have hN:=h.st.NR
    refine .vec (by simp [Mem.addRow,hN]) (Nat.zero_le _) fun _=>⟨by simp [Mem.addRow,hN],by simp [Mem.addRow,hN],af⟩
   (cases hRs with
   | nil ho =>
    have hrun:=run_append_nil (P:=P) w t ty el f v hu m hv ⟨bx,ox,none⟩ ys.length cx' (flat ux ys.length) ab K hpos (by omega) (by omega)
    refine J 0 (Builtin.zeroCells v.cells (grownCap w ys.length 0 el-ys.length)).toList _ ?_ ?_ hrun
    ·simp
    ·simp only [Array.length_toList,size_zeroCells,ae,r]
   | @emp ad _ ho =>
    have hrun:=run_append_grow (P:=P) w t ty el f v hu m hv ad 0 0 [] (by simp) (fun j u hu=>by simp at hu) ⟨bx,ox,none⟩ ys.length cx' (flat ux ys.length) ab K (by omega) (by rw [Nat.zero_add];omega) (growslice_fits (by omega) (by rw [Nat.zero_add];exact ak))
    simp only [Nat.zero_add] at hrun
    refine J 0 (Builtin.zeroCells v.cells (grownCap w ys.length 0 el-ys.length)).toList _ ?_ ?_ hrun
    ·simp
    ·simp only [Array.length_toList,size_zeroCells,ae,r]
   | @list b off cap _ _ sz' us hc' hm' hcell hu' ho =>
    have hcap:(0:Nat)=cap:=ho
    subst hcap
    have hrun:=run_append_grow (P:=P) w t ty el f v hu m hv ⟨b,off,none⟩ 0 0 [] (by simp) (fun j u hu=>by simp at hu) ⟨bx,ox,none⟩ ys.length cx' (flat ux ys.length) ab K (by omega) (by rw [Nat.zero_add];omega) (growslice_fits (by omega) (by rw [Nat.zero_add];exact ak))
    simp only [Nat.zero_add] at hrun
    refine J 0 (Builtin.zeroCells v.cells (grownCap w ys.length 0 el-ys.length)).toList _ ?_ ?_ hrun
    ·simp
    ·simp only [Array.length_toList,size_zeroCells,ae,r])
   | row id =>
   simp only at hob ⊢
   obtain ⟨lx,⟨O,hz,H,a2,cx⟩,cs,ao⟩:=hob
   obtain ⟨ys,o',rfl⟩:=Ij lx
   simp only [A0] at *
   obtain ⟨z,ar⟩:=Option.isSome_iff_exists.1 hz
   obtain ⟨i',v,hi',hv,hc,ae,rfl⟩:=ER ar
   rw [m] at hi';cases hi'
   obtain ⟨us,u1,u2⟩:=hRs.list_open cs
   obtain ⟨ux,x1,x2⟩:=hRx.list_open (fun y hy=>(cx y hy).1)
   have am:∀ i,i<xs.length->(us i).cells.size=sz:=fun i m=>(u1 i m).1
   have g:∀ i,i<ys.length->(ux i).cells.size=sz:=fun i m=>(x1 i m).1
   have F:id<M.NR:=by rw [h.st.NR];exact (Aj.1 ao).1
   obtain ⟨f1,f2,f3,f4,f5,f6,f7,cur,te,f8,f9⟩:=h.st.row id _ ao
   rcases u2 with ⟨_,_,q⟩ | ⟨bs,os,cps,sz',rfl,_,_,ho,hcs'⟩
   ·exact absurd rfl (q id)
   obtain ⟨_,_,bk⟩:=ho
   obtain ⟨e1,e2,e3,_⟩:=bk f1.symm
   subst e1;subst e2;subst e3
   have C:(xs++ys.map AV.pub).length=xs.length+ys.length:=by simp
   have a7:(Builtin.lenOf vx).run P w = .ok ys.length w:=by
    rcases x2 with ⟨rfl | ⟨_,rfl⟩,q,_⟩ | ⟨bx,ox,cx',_,rfl,_⟩
    ·subst q;rfl
    ·subst q;rfl
    ·rfl
   have ab:(flat ux ys.length).length=ys.length*f.size:=by rw [A1 g,r]
   have au:(Builtin.firstCells sz ys.length vx).run P w = .ok (flat ux ys.length).toArray w:=by
    rcases x2 with ⟨rfl | ⟨_,rfl⟩,q,_⟩ | ⟨bx,ox,cx',_,rfl,_,_,_,hcx⟩
    ·subst q;rfl
    ·subst q;simp [Builtin.firstCells,loadCells,loadCellsFrom,flat]
    ·exact run_firstCells_some w sz ys.length ⟨bx,ox,none⟩ ys.length cx' (flat ux ys.length) (A1 g) (Gg (w:=w) g O hcx)
   by_cases hroom:xs.length+ys.length<=M.cap id
   ·-- there is room
    have az:xs.length*sz+(flat ux ys.length).length<=cur.size:=by rw [A1 g,f9,<-Nat.add_mul];exact Nat.mul_le_mul_right _ hroom
    have hrun:=Yu (P:=P) (w:=w) t ty el hu a9 (M.blk id) xs.length (M.cap id) cur te f8 a7 (flat ux ys.length) au (UG x1 (fun y hy=>(cx y hy).2)) hroom az
    generalize hc':(cur.toList.take (xs.length*sz)++flat ux ys.length++cur.toList.drop (xs.length*sz+(flat ux ys.length).length)).toArray=cur' at hrun
    have av:cur'.size=cur.size:=by rw [<-hc'];simp;omega
    have a0:∀ j,j<xs.length*sz->cur'[j]? = cur[j]? := by
     intro j hj
     rw [<-hc',List.getElem?_toArray,List.append_assoc,List.getElem?_append_left (by simp;omega),List.getElem?_take,Ah hj,Array.getElem?_toList]
    have a8:∀ j,j<ys.length*sz->cur'[xs.length*sz+j]? = (flat ux ys.length)[j]? := by
     intro j hj
     have l2:=A1 g
     rw [<-hc',List.getElem?_toArray,List.append_assoc,List.getElem?_append_right (by simp;omega)]
     simp only [List.length_take,Array.length_toList]
     have e:min (xs.length*sz) cur.size=xs.length*sz:=by omega
     rw [e,show xs.length*sz+j-xs.length*sz=j from by omega,List.getElem?_append_left (by rw [l2];exact hj)]
    have D:Ext w0 M w (M.growRow id (M.blk id) (M.cap id) (xs.length+ys.length) ((xs.length+ys.length)*sz)) (w.setRow (M.blk id) cur'):=by
     refine Ih (M:=M) (M.growRow id (M.blk id) (M.cap id) (xs.length+ys.length) ((xs.length+ys.length)*sz)) rfl (fun _ _=>rfl) rfl (fun i m=>?_) (fun b=>?_) f8 f3 (fun j hj=>a0 j (by rw [f4] at hj;exact hj)) (Mem.own_row F) (fun b=>Kt F)
     ·by_cases c:i=id
      ·subst c
       simp only [Mem.growRow,if_true,f1]
       exact ⟨by omega,fun _=>⟨trivial,trivial,trivial⟩⟩
      ·simp only [Mem.growRow,Ai c]
       exact ⟨Nat.le_refl _,fun _=>⟨trivial,trivial,trivial⟩⟩
     ·simp only [Mem.growRow]
      split
      ·rename_i c
       rw [c,f4]
       exact Nat.mul_le_mul_right _ (by omega)
      ·exact Nat.le_refl _
    have a1:=h.st.row_lt F
    have aa:=h.st.growRow ao (w':=w.setRow (M.blk id) cur') (b:=M.blk id) (cap:=M.cap id) (k:=xs.length+ys.length) f3 (Below.setRow (Below.refl _ _) f3 _) (by simp) (by simpa using a1) f6 hroom
     (fun l hl=>⟨f5 l hl,setRow_other w _ _ _ (f5 l hl)⟩) (fun i m ay=>by
      have:M.blk i≠M.blk id:=fun q=>ay (h.st.rowinj i id m F q)
      exact ⟨this,setRow_other w _ _ _ this⟩) (setRow_heap w _ cur cur' te _ f8) (by rw [av];exact f9) D (KeepsObj.setRow f8 _)
    have ai:=Y5 (w0:=w0) D u1 x1
    have Y:=R.list (w0:=w0) (M:=M.growRow id (M.blk id) (M.cap id) (xs.length+ys.length) ((xs.length+ys.length)*sz)) (w:=w.setRow (M.blk id) cur') (b:=M.blk id) (off:=0) (cap:=M.cap id) (xs:=xs++ys.map AV.pub) (o := .row id) sz (Xk us ux xs.length) (by rw [C];exact hroom) f6
     (fun i m=>⟨(ai i m).1,fun j hj=>by
      rw [C] at m
      have q1:(i+1)*sz<=(xs.length+ys.length)*sz:=Nat.mul_le_mul_right _ m
      rw [Nat.succ_mul] at q1
      refine ⟨.inr ?_,?_⟩
      ·simp only [Mem.growRow,if_true]
       omega
      ·rw [Nat.zero_add,cell_of_row _ _ _ cur' te _ (setRow_heap w _ cur cur' te _ f8)]
       unfold Xk
       by_cases c:i<xs.length
       ·have q:(i+1)*sz<=xs.length*sz:=Nat.mul_le_mul_right _ c
        rw [Nat.succ_mul] at q
        have:=hcs' i c j hj
        rw [Nat.zero_add,cell_of_row _ _ _ cur te _ f8] at this
        rw [Ah c,a0 _ (by omega),this]
       ·have q:(i-xs.length+1)*sz<=ys.length*sz:=Nat.mul_le_mul_right _ (by omega)
        rw [Nat.succ_mul] at q
        have e:i*sz=xs.length*sz+(i-xs.length)*sz:=by rw [<-Nat.add_mul];congr 1;omega
        rw [Ai c,show i*sz+j=xs.length*sz+((i-xs.length)*sz+j) from by omega,a8 _ (by omega)]
        exact Iz g _ (by omega) j hj⟩) (fun i m=>(ai i m).2)
     (by
      rw [C]
      refine ⟨F,by simp [Mem.growRow],fun _=>⟨by simp [Mem.growRow],rfl,by simp [Mem.growRow],?_⟩⟩
      simp [Mem.growRow,f2])
    rw [C] at Y
    exact .value ⟨_,_,_,hrun,D,aa,Y⟩
   ·-- a new row
    have hypos:0<ys.length:=by omega
    rcases x2 with ⟨_,q,_⟩ | ⟨bx,ox,cx',_,rfl,_,_,_,hcx⟩
    ·subst q;simp at hypos
    have K:=Gg (w:=w) g O hcx
    have ap:=Gg (w:=w) am O hcs'
    have aw:(flat us xs.length).length=xs.length*f.size:=by rw [A1 am,r]
    have ak:(xs.length+ys.length)*f.bytes<=140737488355328:=by rw [a4];exact H
    have hrun:=run_append_grow (P:=P) w t ty el f v hu m hv ⟨M.blk id,0,none⟩ xs.length (M.cap id) (flat us xs.length) aw ap ⟨bx,ox,none⟩ ys.length cx' (flat ux ys.length) ab K (by omega) (by omega) (growslice_fits (by omega) ak)
    have Q:xs.length+ys.length<=maxLen:=by simp [maxLen];omega
    have af:=grownCap_ge w (xs.length+ys.length) (M.cap id) el
    have Z:=grownCap_le_maxLen w (xs.length+ys.length) (M.cap id) el Q
    generalize hcl:((flat us xs.length).toArray++(flat ux ys.length).toArray++Builtin.zeroCells v.cells (grownCap w (xs.length+ys.length) (M.cap id) el-(xs.length+ys.length)))=cells at hrun
    have V:cells.toList=flat us xs.length++flat ux ys.length++(Builtin.zeroCells v.cells (grownCap w (xs.length+ys.length) (M.cap id) el-(xs.length+ys.length))).toList:=by rw [<-hcl];simp
    generalize grownCap w (xs.length+ys.length) (M.cap id) el=gc at *
    have G:cells.size=gc*sz:=by
     have:cells.size=cells.toList.length:=by simp
     rw [this,V]
     simp only [List.length_append,A1 am,A1 g,Array.length_toList,size_zeroCells,ae,r]
     rw [<-Nat.add_mul,<-Nat.add_mul]
     congr 1
     omega
    obtain ⟨d1,d2⟩:=h.st.drew
    have D:Ext w0 M w.drew (M.growRow id w.drew.heap.size gc (xs.length+ys.length) ((xs.length+ys.length)*sz)) (w.drew.alloc (.cells cells el)):=by
     refine OZ _ _ (.inl rfl) (fun _ _=>rfl) (Nat.le_refl _) (fun i m=>?_) (fun b hb=>?_) (fun b hb=>L9 hb)
     ·by_cases c:i=id
      ·subst c
       simp only [Mem.growRow,if_true,f1]
       exact ⟨by omega,fun q=>absurd q (by omega)⟩
      ·simp only [Mem.growRow,Ai c]
       exact ⟨Nat.le_refl _,fun _=>⟨trivial,trivial,trivial⟩⟩
     ·simp only [Mem.growRow]
      rw [Aa]
    have aa:=d1.growRow ao (w':=w.drew.alloc (.cells cells el)) (b:=w.drew.heap.size) (cap:=gc) (k:=xs.length+ys.length) h.st.base_le ((Below.refl _ w.drew).alloc h.st.base_le _) (by simp) (by simp) Z af
     (fun l hl=>by have:=h.st.box_lt hl;exact ⟨fun q=>by simp at q;omega,A3 _ _ this⟩) (fun i m ay=>by have:=h.st.row_lt m;exact ⟨fun q=>by simp at q;omega,A3 _ _ this⟩) (heap_alloc_new w.drew _) G D (KeepsObj.alloc _ _)
    have ai:=Y5 (w0:=w0) d2 u1 x1
    have Y:=R.row (w0:=w0) (M:=M) (w:=w.drew) (us:=Xk us ux xs.length) (xs:=xs++ys.map AV.pub) (cs:=cells) (ty:=el) (sz:=sz) (k:=(xs.length+ys.length)*sz) (cap:=gc) (o := .row id) ai
     (fun i m j hj=>by
      rw [C] at m
      rw [<-Array.getElem?_toList,V]
      exact YB am g _ i m j hj) (by rw [C];exact af) Z (by rw [C];exact Nat.le_refl _) (M.growRow id w.drew.heap.size gc (xs.length+ys.length) ((xs.length+ys.length)*sz)) (by simp [Mem.growRow]) D
     (by
      refine ⟨F,by rw [C];simp [Mem.growRow],fun _=>⟨by simp [Mem.growRow],rfl,by simp [Mem.growRow],?_⟩⟩
      simp [Mem.growRow,f2])
    rw [C] at Y
    exact .value ⟨_,_,_,hrun,d2.trans D,aa,Y⟩
  | vec id ver o n' =>
   simp only at hob ⊢
   cases hvr:ED st.rows id ver with
   | none=>simp [hvr] at hob
   | some q =>
   obtain ⟨sz',cs⟩:=q
   simp only [hvr] at hob ⊢
   obtain ⟨lx,⟨O,hz,H,a2,cx⟩,rfl,rfl,bm⟩:=hob
   obtain ⟨ys,o',rfl⟩:=Ij lx
   simp only [A0] at *
   obtain ⟨z,ar⟩:=Option.isSome_iff_exists.1 hz
   obtain ⟨i',v,hi',hv,hc,ae,rfl⟩:=ER ar
   rw [m] at hi';cases hi'
   have ao:=Fo hvr
   have F:id<M.NR:=by rw [h.st.NR];exact (Aj.1 ao).1
   obtain ⟨f1,f2,f3,f4,f5,f6,f7,cur,te,f8,f9,bp,bh,bi⟩:=h.st.row id _ ao
   cases hRs with
   | @vec _ _ _ _ p cap hid' hver hh =>
   obtain ⟨rfl,hcap,bn⟩:=hh f1.symm
   simp only [Nat.add_zero,Nat.zero_mul] at hcap ⊢
   subst hcap
   obtain ⟨ux,x1,x2⟩:=hRx.list_open (fun y hy=>(cx y hy).1)
   have g:∀ i,i<ys.length->(ux i).cells.size=sz':=fun i m=>(x1 i m).1
   have a7:(Builtin.lenOf vx).run P w = .ok ys.length w:=by
    rcases x2 with ⟨rfl | ⟨_,rfl⟩,q,_⟩ | ⟨bx,ox,cx',_,rfl,_⟩
    ·subst q;rfl
    ·subst q;rfl
    ·rfl
   have ab:(flat ux ys.length).length=ys.length*f.size:=by rw [A1 g,r]
   have au:(Builtin.firstCells sz' ys.length vx).run P w = .ok (flat ux ys.length).toArray w:=by
    rcases x2 with ⟨rfl | ⟨_,rfl⟩,q,_⟩ | ⟨bx,ox,cx',_,rfl,_,_,_,hcx⟩
    ·subst q;rfl
    ·subst q;simp [Builtin.firstCells,loadCells,loadCellsFrom,flat]
    ·exact run_firstCells_some w sz' ys.length ⟨bx,ox,none⟩ ys.length cx' (flat ux ys.length) (A1 g) (Gg (w:=w) g O hcx)
   have a3:=MB (fun y hy=>(cx y hy).1)
   have ba:=Xh (fun i m=>(x1 i m).2) (fun y hy=>(cx y hy).2)
   have hcl:(cs.take (n'*sz')++ys.flatMap fun y=>y.pub.cells).length=(n'+ys.length)*sz':=by
    rw [List.length_append,a3,List.length_take,Nat.add_mul];omega
   have a5:∀ x∈cs.take (n'*sz')++ys.flatMap (fun y=>y.pub.cells),x.one=true:=by
    intro x hx
    rcases List.mem_append.1 hx with hx | hx
    ·exact bh x (List.mem_of_mem_take hx)
    ·exact ba x hx
   -- what the new cells stand for,in whatever block they lie
   have E:∀ (cells:Array Value) (zs:List Value),cells.toList=cur.toList.take (n'*sz')++flat ux ys.length++zs->∀ (i:Nat) (v:Value) (x:AV),cells[i]? = some v->(cs.take (n'*sz')++ys.flatMap fun y=>y.pub.cells)[i]? = some x->R w0 M w v x:=by
    intro cells zs hcl' i v x aq aj
    have bc:i<(n'+ys.length)*sz':=by rw [<-hcl];exact (Aj.1 aj).1
    rw [Nat.add_mul] at bc
    have bl:(cur.toList.take (n'*sz')).length=n'*sz':=by simp;omega
    rw [<-Array.getElem?_toList,hcl',List.append_assoc] at aq
    by_cases q:i<n'*sz'
    ·rw [List.getElem?_append_left (by omega),List.getElem?_take,Ah q,Array.getElem?_toList] at aq
     rw [List.getElem?_append_left (by simp;omega),List.getElem?_take,Ah q] at aj
     obtain ⟨q1,rfl⟩:=Array.getElem?_eq_some_iff.1 aq
     obtain ⟨q2,rfl⟩:=Aj.1 aj
     exact bi i q1 q2
    ·rw [List.getElem?_append_right (by omega),bl,List.getElem?_append_left (by rw [A1 g];omega)] at aq
     rw [List.getElem?_append_right (by simp;omega)] at aj
     have e:(cs.take (n'*sz')).length=n'*sz':=by simp;omega
     rw [e] at aj
     exact ZfX O x1 (fun y hy=>(cx y hy).1) aq aj
   by_cases hroom:n'+ys.length<=M.cap id
   ·-- there is room
    have az:n'*sz'+(flat ux ys.length).length<=cur.size:=by rw [A1 g,f9,<-Nat.add_mul];exact Nat.mul_le_mul_right _ hroom
    have hrun:=Yu (P:=P) (w:=w) t ty el hu a9 (M.blk id) n' (M.cap id) cur te f8 a7 (flat ux ys.length) au (UG x1 (fun y hy=>(cx y hy).2)) hroom az
    generalize hc':(cur.toList.take (n'*sz')++flat ux ys.length++cur.toList.drop (n'*sz'+(flat ux ys.length).length)).toArray=cur' at hrun
    have av:cur'.size=cur.size:=by rw [<-hc'];simp;omega
    have D:Ext w0 M w (M.growRow id (M.blk id) (M.cap id) (ver+1) 0) (w.setRow (M.blk id) cur'):=by
     refine Ih (M:=M) (M.growRow id (M.blk id) (M.cap id) (ver+1) 0) rfl (fun _ _=>rfl) rfl (fun i m=>?_) (fun b=>?_) f8 f3 (fun j hj=>by rw [f4] at hj;omega) (Mem.own_row F) (fun b=>Kt F)
     ·by_cases c:i=id
      ·subst c
       simp only [Mem.growRow,if_true,f1]
       exact ⟨by omega,fun q=>absurd q (by omega)⟩
      ·simp only [Mem.growRow,Ai c]
       exact ⟨Nat.le_refl _,fun _=>⟨trivial,trivial,trivial⟩⟩
     ·simp only [Mem.growRow]
      split
      ·rename_i c
       rw [c,f4]
       exact Nat.le_refl _
      ·exact Nat.le_refl _
    have a1:=h.st.row_lt F
    have q:(M.growRow id (M.blk id) (M.cap id) (ver+1) 0).fr id=ver+1/\(M.growRow id (M.blk id) (M.cap id) (ver+1) 0).blk id=M.blk id/\(M.growRow id (M.blk id) (M.cap id) (ver+1) 0).cap id=M.cap id/\(M.growRow id (M.blk id) (M.cap id) (ver+1) 0).rsz id=M.rsz id/\(M.growRow id (M.blk id) (M.cap id) (ver+1) 0).top (M.blk id)=0:=by simp [Mem.growRow]
    obtain ⟨q1,q2,q3,q4,q5⟩:=q
    have aa:=h.st.growRow' ao (x := .vec (ver+1) sz' (cs.take (n'*sz')++ys.flatMap fun y=>y.pub.cells)) (w':=w.setRow (M.blk id) cur') (b:=M.blk id) (cap:=M.cap id) (k:=ver+1) (tp:=0) (Below.setRow (Below.refl _ _) f3 _) (by simp) (by simpa using a1)
     (fun l hl=>⟨f5 l hl,setRow_other w _ _ _ (f5 l hl)⟩) (fun i m ay=>by
      have:M.blk i≠M.blk id:=fun q=>ay (h.st.rowinj i id m F q)
      exact ⟨this,setRow_other w _ _ _ this⟩) (by
      simp only [RowOk,q1,q2,q3,q4,q5]
      exact ⟨trivial,f2,f3,trivial,f5,f6,O,cur',te,setRow_heap w _ cur cur' te _ f8,av.trans f9,by rw [hcl,av,f9];exact Nat.mul_le_mul_right _ hroom,a5,
       fun i a b=>(E cur' _ (by rw [<-hc']) i _ _ (Array.getElem?_eq_getElem a) (List.getElem?_eq_getElem b)).mono D⟩) D (KeepsObj.setRow f8 _)
    exact .value ⟨_,_,_,hrun,D,aa,.vec F (by rw [q1];exact Nat.le_refl _) fun _=>⟨by rw [q2];simp,by rw [q3];rfl,hroom⟩⟩
   ·-- a new block
    have hypos:0<ys.length:=by omega
    rcases x2 with ⟨_,q,_⟩ | ⟨bx,ox,cx',_,rfl,_,_,_,hcx⟩
    ·subst q;simp at hypos
    have K:=Gg (w:=w) g O hcx
    have ak:(n'+ys.length)*f.bytes<=140737488355328:=by rw [a4];exact H
    have ap:∀ (j:Nat) (u:Value),(cur.toList.take (n'*sz'))[j]? = some u->w.cell? ((⟨M.blk id,0,none⟩:Addr).add j)=some u:=by
     intro j u hj
     rw [List.getElem?_take] at hj
     split at hj
     ·rw [EO,Nat.zero_add,cell_of_row w _ j cur te _ f8,<-Array.getElem?_toList];exact hj
     ·cases hj
    have aw:(cur.toList.take (n'*sz')).length=n'*f.size:=by simp;rw [r];omega
    have hrun:=run_append_grow (P:=P) w t ty el f v hu m hv ⟨M.blk id,0,none⟩ n' (M.cap id) (cur.toList.take (n'*sz')) aw ap ⟨bx,ox,none⟩ ys.length cx' (flat ux ys.length) ab K (by omega) (by omega) (growslice_fits (by omega) ak)
    have Q:n'+ys.length<=maxLen:=by simp [maxLen];omega
    have af:=grownCap_ge w (n'+ys.length) (M.cap id) el
    have Z:=grownCap_le_maxLen w (n'+ys.length) (M.cap id) el Q
    generalize hcl':((cur.toList.take (n'*sz')).toArray++(flat ux ys.length).toArray++Builtin.zeroCells v.cells (grownCap w (n'+ys.length) (M.cap id) el-(n'+ys.length)))=cells at hrun
    have V:cells.toList=cur.toList.take (n'*sz')++flat ux ys.length++(Builtin.zeroCells v.cells (grownCap w (n'+ys.length) (M.cap id) el-(n'+ys.length))).toList:=by rw [<-hcl'];simp
    generalize grownCap w (n'+ys.length) (M.cap id) el=gc at *
    have G:cells.size=gc*sz':=by
     have:cells.size=cells.toList.length:=by simp
     rw [this,V]
     simp only [List.length_append,aw,A1 g,Array.length_toList,size_zeroCells,ae,r]
     rw [<-Nat.add_mul,<-Nat.add_mul]
     congr 1
     omega
    obtain ⟨d1,d2⟩:=h.st.drew
    have D:Ext w0 M w.drew (M.growRow id w.drew.heap.size gc (ver+1) 0) (w.drew.alloc (.cells cells el)):=by
     refine OZ _ _ (.inl rfl) (fun _ _=>rfl) (Nat.le_refl _) (fun i m=>?_) (fun b hb=>?_) (fun b hb=>L9 hb)
     ·by_cases c:i=id
      ·subst c
       simp only [Mem.growRow,if_true,f1]
       exact ⟨by omega,fun q=>absurd q (by omega)⟩
      ·simp only [Mem.growRow,Ai c]
       exact ⟨Nat.le_refl _,fun _=>⟨trivial,trivial,trivial⟩⟩
     ·simp only [Mem.growRow]
      rw [Aa]
    have q:(M.growRow id w.drew.heap.size gc (ver+1) 0).fr id=ver+1/\(M.growRow id w.drew.heap.size gc (ver+1) 0).blk id=w.drew.heap.size/\(M.growRow id w.drew.heap.size gc (ver+1) 0).cap id=gc/\(M.growRow id w.drew.heap.size gc (ver+1) 0).rsz id=M.rsz id/\(M.growRow id w.drew.heap.size gc (ver+1) 0).top w.drew.heap.size=0:=by simp [Mem.growRow]
    obtain ⟨q1,q2,q3,q4,q5⟩:=q
    have a6:∀ l,l<M.N->M.bx l≠w.drew.heap.size:=fun l hl=>by have:=h.st.box_lt hl;intro q;simp at q;omega
    have aa:=d1.growRow' ao (x := .vec (ver+1) sz' (cs.take (n'*sz')++ys.flatMap fun y=>y.pub.cells)) (w':=w.drew.alloc (.cells cells el)) (b:=w.drew.heap.size) (cap:=gc) (k:=ver+1) (tp:=0) ((Below.refl _ w.drew).alloc h.st.base_le _) (by simp) (by simp)
     (fun l hl=>by have:=h.st.box_lt hl;exact ⟨a6 l hl,A3 _ _ this⟩) (fun i m ay=>by have:=h.st.row_lt m;exact ⟨fun q=>by simp at q;omega,A3 _ _ this⟩) (by
      simp only [RowOk,q1,q2,q3,q4,q5]
      exact ⟨trivial,f2,h.st.base_le,trivial,a6,Z,O,cells,el,heap_alloc_new w.drew _,G,by rw [hcl,G];exact Nat.mul_le_mul_right _ af,a5,
       fun i a b=>((E cells _ V i _ _ (Array.getElem?_eq_getElem a) (List.getElem?_eq_getElem b)).mono d2).mono D⟩) D (KeepsObj.alloc _ _)
    exact .value ⟨_,_,_,hrun,d2.trans D,aa,.vec F (by rw [q1];exact Nat.le_refl _) fun _=>⟨by rw [q2];simp,by rw [q3];rfl,af⟩⟩
  | _=>exact hob.elim
theorem Yields'.congr {s s':Sem Next} {st':St} {r:AV} (h:Yields' P w0 M st' r w s) (e:s'.run P w=s.run P w):Yields' P w0 M st' r w s':=by
 obtain ⟨v,a,M',b,c⟩:=h
 exact ⟨v,a,M',by rw [e];exact b,c⟩
theorem JB (b:Builtin) (args:Array Operand) (ts:Array TypeId) (dst:Option Tmp) (type:TypeId) (pos:String) (after:Array Edge) (guard:Option (Nat × Bool)) (s:Sem Value)
  (hb:∀ cs,builtin b ts type cs (args.map a.eval)=(do pure (.value (<- s)):Sem Next)) :
  (execOp a.eval ⟨dst,.call ⟨.builtin b,args,ts⟩,type,pos,after,guard⟩).run P w=((do pure (.value (<- s)):Sem Next)).run P w:=by
 simp only [execOp,resolve,invoke,Sem.run_bind,Sem.run_pure,Result.andThen_ok]
 rw [hb]
 simp
theorem Tj {t:TypeId} (h:I9 P t=true):∃ el,P.underlying t=some (.slice el)/\P.underlying el=some (.int .u8)/\GT P el=some (1,false):=by
 unfold I9 at h
 split at h
 ·rename_i el h1
  simp only [Bool.and_eq_true] at h
  obtain ⟨h2,h3⟩:=h
  refine ⟨el,h1,?_,?_⟩
  ·split at h2
   ·assumption
   ·cases h2
  ·split at h3
   ·assumption
   ·cases h3
 ·cases h
theorem XV (r:Int):(Utf8.encode r).size<=4:=by
 unfold Utf8.encode
 dsimp only
 (repeat' split)<;>simp [ByteArray.size]
theorem ZN (h:Rel w0 n M e st a w) (s d:TypeId) (x:Operand) (hob:(A6 P e true st (.convert s d x)).1) :
  Yields' P w0 M (A6 P e true st (.convert s d x)).2.2 (A6 P e true st (.convert s d x)).2.1 w (do pure (.value (<- convert s d (a.eval x)))):=by
 unfold A6 at hob ⊢
 cases hs:Nj P s with
 | some k1 =>
  cases hd:Nj P d with
  | some k =>
   simp only [hs,hd] at hob ⊢
   obtain ⟨r,hi,hk⟩:=hob
   obtain ⟨ex,_⟩:=(A5 h r).int hi
   rw [ex]
   refine .here h.st (v := .int k (AX (Az e x))) ?_ (.flat rfl)
   simp [convert,run_underlying (RD hs),run_underlying (RD hd),Conv.intToInt,MP hk]
  | none =>
   simp only [hs,hd] at hob ⊢
   obtain ⟨r,hi,O⟩:=hob
   obtain ⟨ex,_⟩:=(A5 h r).int hi
   rw [ex]
   exact .here h.st (run_convert_int_string w s d _ _ (by rw [RD hs];rfl) (Gs O)) (.flat (Ag (Nat.le_trans (XV _) (by decide))))
 | none =>
  simp only [hs] at hob ⊢
  by_cases z:(DU P s&&DU P d)=true
  ·simp only [z,if_true] at hob ⊢
   simp only [Bool.and_eq_true] at z
   obtain ⟨r,hi⟩:=hob
   have hR:=A5 h r
   refine .here h.st (v:=a.eval x) ?_ hR
   obtain ⟨q,hq⟩:∃ q,Az e x = .val (.string q):=by
    cases hv:Az e x<;>rw [hv] at hi<;>try cases hi
    rename_i v
    cases v<;>first | exact ⟨_,rfl⟩ | cases hi
   rw [hq] at hR
   obtain ⟨ev,_⟩:=hR.val_inv
   rw [ev]
   simp [convert,run_underlying (Gs z.1),run_underlying (Gs z.2)]
  ·simp only [z,if_false,Bool.false_eq_true] at hob ⊢
   by_cases hc2:(I9 P s&&DU P d)=true
   ·simp only [hc2,if_true] at hob ⊢
    simp only [Bool.and_eq_true] at hc2
    obtain ⟨g,G,H,Y⟩:=Tj hc2.1
    split at hob
    ·rename_i id ver o n' hx0
     cases hvr:ED st.rows id ver with
     | none=>simp [hvr] at hob
     | some q =>
     obtain ⟨aa,cs⟩:=q
     simp only [hvr] at hob ⊢
     obtain ⟨r,rfl,af,c,m⟩:=hob
     have hR:=A5 h r
     rw [hx0] at hR
     obtain ⟨f1,f2,f3,f4,f5,f6,f7,N,te,f8,f9,ah,ai,ab⟩:=h.st.row id _ (Fo hvr)
     obtain ⟨v,hev⟩:∃ v,a.eval x=v:=⟨_,rfl⟩
     rw [hev] at hR ⊢
     cases hR with
     | @vec _ _ _ _ p cap hid hver hh =>
     obtain ⟨rfl,C,ag⟩:=hh f1.symm
     have hl:((cs.drop o).take n').length=n':=by simp;omega
     have f:(H2 ((cs.drop o).take n')).size=n':=by simp [H2,ByteArray.size];omega
     have t:I2 (.string (H2 ((cs.drop o).take n')))=true:=by simp [I2,maxLen,f];exact c
     have:=run_convert_bytes_back (P:=P) w s d g ⟨M.blk id,o*M.rsz id,none⟩ cap (((cs.drop o).take n').map fun x=>UInt8.ofNat (AX x).toNat) G H (Gs hc2.2) (fun j E=>by
      have F:j<n':=by rw [List.length_map,hl] at E;exact E
      have Q:((cs.drop o).take n')[j]'(by omega)=cs[o+j]'(by omega):=by simp
      have hq:=m _ (List.getElem_mem (l:=(cs.drop o).take n') (n:=j) (by omega))
      rw [Q] at hq
      have hr:=ab (o+j) (by omega) (by omega)
      rw [EO,f2,Nat.mul_one,cell_of_row w _ (o+j) N te _ f8,Array.getElem?_eq_getElem (show o+j<N.size by omega)]
      simp only [List.getElem_map,Q]
      generalize cs[o+j]'(by omega)=y at hq hr
      cases y with
      | val u =>
       cases u<;>try exact hq.elim
       rename_i k n
       cases k<;>try exact hq.elim
       obtain ⟨n0,n1⟩:0<=n/\n<=255:=hq
       rw [hr.val_inv.1]
       simp only [AX]
       have:(UInt8.ofNat n.toNat).toNat=n.toNat:=by simp;omega
       rw [this]
       simp
       omega
      | _=>exact hq.elim)
     rw [List.length_map,hl] at this
     exact .here h.st (v := .string (H2 ((cs.drop o).take n'))) this (.flat t)
    rename_i hx0
    obtain ⟨r,hi,c,m⟩:=hob
    have hR:=A5 h r
    obtain ⟨xs,o,Z⟩:=Ij hi
    rw [Z] at hR c m ⊢
    simp only [A0] at c m ⊢
    have U:∀ y∈xs,y.cells.length=1:=fun y hy=>by
     have:=m y hy
     cases y<;>first | rfl | exact this.elim
    obtain ⟨us,h1,h2⟩:=hR.list_open U
    have f:(H2 xs).size=xs.length:=by simp [H2,ByteArray.size]
    have t:I2 (.string (H2 xs))=true:=by simp [I2,maxLen,f];exact c
    rcases h2 with ⟨ev | ⟨ad,ev⟩,rfl,_⟩ | ⟨b,off,cap,aa,ev,_,_,_,hcell⟩
    ·rw [ev]
     have:=run_convert_bytes_nil (P:=P) w s g G H 0 0 d (Gs hc2.2)
     exact .here h.st (v := .string ByteArray.empty) this (.flat rfl)
    ·rw [ev]
     have:=run_convert_bytes_back (P:=P) w s d g ad 0 [] G H (Gs hc2.2) (fun j E=>absurd E (by simp))
     exact .here h.st (v := .string ByteArray.empty) this (.flat rfl)
    ·rw [ev]
     have hb:∀ i (hi:i<xs.length),∃ n:Int,0<=n/\n<=255/\xs[i] = .val (.int .u8 n)/\us i = .int .u8 n:=fun i hi=>by
      have hq:=m _ (List.getElem_mem hi)
      have hr:=(h1 i hi).2
      cases hv:xs[i] with
      | val u =>
       rw [hv] at hq hr
       cases u<;>try exact hq.elim
       rename_i k n
       cases k<;>try exact hq.elim
       exact ⟨n,hq.1,hq.2,rfl,hr.val_inv.1⟩
      | _=>rw [hv] at hq;exact hq.elim
     have:=run_convert_bytes_back (P:=P) w s d g ⟨b,off,none⟩ cap (xs.map fun x=>UInt8.ofNat (AX x).toNat) G H (Gs hc2.2) (fun j E=>by
      have F:j<xs.length:=by simpa using E
      obtain ⟨n,n0,n1,Q,e2⟩:=hb j F
      have z:=hcell j F 0 (by omega)
      rw [e2] at z
      simp only [Nat.mul_one,Nat.add_zero] at z
      rw [EO,z]
      simp only [List.getElem_map,Q,AX,Value.cells]
      have:(UInt8.ofNat n.toNat).toNat=n.toNat:=by simp;omega
      rw [this]
      simp
      omega)
     simp only [List.length_map] at this
     exact .here h.st (v := .string (H2 xs)) this (.flat t)
   ·simp only [hc2,if_false,Bool.false_eq_true] at hob ⊢
    by_cases hc3:(DU P s&&I9 P d)=true
    ·simp only [hc3,if_true] at hob ⊢
     simp only [Bool.and_eq_true] at hc3
     obtain ⟨g,G,H,Y⟩:=Tj hc3.2
     obtain ⟨_,r,hi⟩:=hob
     have hR:=A5 h r
     obtain ⟨q,hq⟩:∃ q,Az e x = .val (.string q):=by
      cases hv:Az e x<;>rw [hv] at hi<;>try cases hi
      rename_i v
      cases v<;>first | exact ⟨_,rfl⟩ | cases hi
     rw [hq] at hR ⊢
     obtain ⟨ev,t⟩:=hR.val_inv
     rw [ev]
     simp only [Zdv]
     have V:q.size<=maxLen:=by simpa [I2] using t
     have K:=Lib.run_convert_string_bytes (P:=P) w s d g q (Gs hc3.1) G H
     have J:Below w.heap.size w (Lib.bytesWorld w g q):=⟨rfl,rfl,rfl,by rw [Lib.bytesWorld_size];omega,fun k hk=>Lib.bytesWorld_at_old w g q k hk⟩
     obtain ⟨r1,r2⟩:=h.st.later J w.heap.size q.size (Nat.le_refl _) (.inl (by rw [Lib.bytesWorld_size];omega))
     have C:=grownCap_ge w q.size 0 g
     have D:=grownCap_le_maxLen w q.size 0 g V
     have c:(Ho q.data.toList).length=q.size:=by simp [Ho]
     refine .value ⟨_,_,_,K,r2,r1,?_⟩
     have:=R.list (w0:=w0) (M:=M.newTop w.heap.size q.size) (w:=Lib.bytesWorld w g q) (b:=w.heap.size) (off:=0) (cap:=grownCap w q.size 0 g) (xs:=Ho q.data.toList) (o := .none) 1 (fun i => .int .u8 (q.data.toList.getD i 0).toNat)
      (by rw [c];exact C) D (fun i hi=>⟨rfl,fun j E=>⟨.inr (by rw [c] at hi;simp [Mem.newTop];omega),by
       rw [c] at hi
       have hj0:j=0:=by omega
       subst hj0
       simp only [Nat.mul_one,Nat.zero_add,Nat.add_zero]
       rw [Lib.bytesWorld_cell w g q i hi]
       rfl⟩⟩) (fun i hi=>by
       have ae:i<q.data.toList.length:=by rw [c] at hi;exact hi
       simp only [Ho,List.getElem_map]
       rw [show q.data.toList.getD i 0=q.data.toList[i] from by simp [List.getD,List.getElem?_eq_getElem ae]]
       exact .flat rfl) trivial
     rw [c] at this
     exact this
    ·simp only [hc3] at hob
     exact hob.elim
theorem I0 {z:List AV} {sz:Nat} (hz:z.length=sz):∀ (m j:Nat) (x:AV),((List.replicate m z).flatten)[j]? = some x->0<sz/\z[j % sz]? = some x
 | 0,j,x,h=>by simp at h
 | m+1,j,x,h=>by
  rw [List.replicate_succ,List.flatten_cons] at h
  by_cases c:j<z.length
  ·rw [List.getElem?_append_left c] at h
   exact ⟨by omega,by rw [Nat.mod_eq_of_lt (by omega)];exact h⟩
  ·rw [List.getElem?_append_right (by omega)] at h
   obtain ⟨b,a⟩:=I0 hz m _ x h
   refine ⟨b,?_⟩
   rw [hz] at a
   rw [<-a]
   congr 1
   rw [<-Nat.mod_eq_sub_mod (by omega)]
theorem Xv (h:Rel w0 n M e st a w) (t:TypeId) (len cap:Operand) (hob:(A6 P e true st (.makeSlice t len cap)).1) :
  Yields' P w0 M (A6 P e true st (.makeSlice t len cap)).2.2 (A6 P e true st (.makeSlice t len cap)).2.1 w (do pure (.value (<- Instr.makeSlice t (a.eval len) (a.eval cap)))):=by
 unfold A6 at hob ⊢
 cases he:It P t with
 | none=>simp [he] at hob
 | some p =>
 obtain ⟨el,sz,ag,ao⟩:=p
 cases hz:Bn P el with
 | none=>simp [he,hz] at hob
 | some z =>
 simp only [he,hz] at hob ⊢
 obtain ⟨_,hl,hc,il,ic,h0,h1,ab,ak,Y,E,ae⟩:=hob
 obtain ⟨H,hu,s,ad,af⟩:=GM he
 have Q:H.size=sz:=by
  obtain ⟨i',d,h1,h2,_⟩:=KW af
  rw [s] at h1;cases h1;exact h2
 obtain ⟨i',v,hi',hv,r,am,rfl⟩:=ER hz
 rw [s] at hi';cases hi'
 obtain ⟨aj,_⟩:=(A5 h hl).int il
 obtain ⟨ah,_⟩:=(A5 h hc).int ic
 generalize AX (Az e len)=l at *
 generalize AX (Az e cap)=c at *
 obtain ⟨y,rfl⟩:=Int.eq_ofNat_of_zero_le h0
 obtain ⟨g,rfl⟩:=Int.eq_ofNat_of_zero_le (Int.le_trans h0 h1)
 have b:=run_make (P:=P) w t el H v hu s hv (Ks (Az e len)) (Ks (Az e cap)) y g h0 h1 (by rw [ad,Int.mul_comm];omega) (by omega)
 rw [<-aj,<-ah] at b
 simp only [Int.toNat_natCast,Q] at b
 have C:g<=maxLen:=by unfold maxLen;omega
 have K:=size_madeCells v.cells (g*sz)
 have f:RowR w0 M w v.cells (I3 v).cells:=(NK r).cells
 have G:=(NK (w0:=w0) (M:=M) (w:=w) r).cellsOne (fun vs e=>by have:=J4 r;rw [e] at this;cases this)
 by_cases hmk0:II e t=true
 case neg =>
  rw [Ai hmk0,Ai hmk0]
  by_cases hl0:(y:Int)=0
  ·rw [Ah hl0,Ah hl0]
   have:y=0:=by omega
   subst this
   obtain ⟨r1,r2⟩:=h.st.addRow (cs:=madeCells v.cells (g*sz)) (ty:=el) (k:=0) (sz:=sz) C (Nat.zero_le _) K
   refine .value ⟨_,_,_,b,r2,r1,?_⟩
   have N:=h.st.NR
   exact R.list (xs:=[]) sz (fun _=>undef) (Nat.zero_le _) C (fun i s=>absurd s (by simp)) (fun i s=>absurd s (by simp)) ⟨by simp [Mem.addRow,N],by simp [Mem.addRow,N],fun _=>by simp [Mem.addRow,N]⟩
  rw [Ai hl0,Ai hl0]
  obtain rfl:sz=1:=by
   rcases ae with q | q | q
   ·exact absurd q hl0
   ·exact absurd q hmk0
   ·exact q
  have F:v.cells.size=1:=by rw [f.1,E]
  obtain ⟨u,hu0⟩:∃ u,v.cells[0]? = some u:=⟨_,Array.getElem?_eq_getElem (by omega)⟩
  have aa:(I3 v).cells[0]? = some (XG (I3 v).cells 0):=by
   rw [List.getElem?_eq_getElem (by omega)]
   simp [XG,List.getD,List.getElem?_eq_getElem (show 0<(I3 v).cells.length by omega)]
  have V:R w0 M w u (XG (I3 v).cells 0):=f.get hu0 aa
  have O:(XG (I3 v).cells 0).one=true:=G _ (List.mem_of_getElem? aa)
  have J:u.cells = #[u]:=(V.cells_one O).1
  obtain ⟨Z,D⟩:=h.st.newTop (madeCells v.cells (g*1)) el (g*1)
  have m:(List.replicate y (XG (I3 v).cells 0)).length=y:=List.length_replicate
  have hR:=R.row (us:=fun _=>u) (xs:=List.replicate y (XG (I3 v).cells 0)) (cs:=madeCells v.cells (g*1)) (ty:=el) (sz:=1) (k:=g*1) (cap:=g) (o := .none)
   (fun i s=>⟨by rw [J];rfl,by rw [List.getElem_replicate];exact V⟩)
   (fun i s j hj=>by
    have hi':i<y:=by rw [m] at s;exact s
    have:i*1+j<g*1:=by omega
    have h3:(madeCells v.cells (g*1))[i*1+j]? = some v.cells[(i*1+j) % v.cells.size]! := by
     simp only [madeCells,Array.getElem?_map,Array.getElem?_range,Ah this,Option.map_some]
    obtain rfl:j=0:=by omega
    rw [h3,F,Nat.mod_one,J,getElem!_pos v.cells 0 (by omega)]
    rw [Array.getElem?_eq_getElem (by omega)] at hu0
    simpa using hu0)
   (by rw [m];omega) C (by rw [m];omega) (M.newTop w.heap.size (g*1)) (by simp [Mem.newTop]) D trivial
  rw [m] at hR
  exact .value ⟨_,_,_,b,D,Z,hR⟩
 rw [Ah hmk0,Ah hmk0]
 obtain ⟨r1,r2⟩:=h.st.addVec (cs:=madeCells v.cells (g*sz)) (ty:=el) (cap:=g) (sz:=sz) (xs:=(List.replicate y (I3 v).cells).flatten) C Y K
  (by rw [K];simp only [List.length_flatten,List.map_replicate,List.sum_replicate_nat,E];exact Nat.mul_le_mul_right _ (by omega))
  (fun x D=>by
   obtain ⟨q,hq,D⟩:=List.mem_flatten.1 D
   rw [List.eq_of_mem_replicate hq] at D
   exact G x D)
  (fun i u x ai D=>by
   obtain ⟨_,h2⟩:=I0 E y i x D
   have h3:u=v.cells[i % v.cells.size]! := by
    obtain ⟨q1,q2⟩:=Array.getElem?_eq_some_iff.1 ai
    rw [<-q2];simp [madeCells]
   have F:v.cells.size=sz:=by rw [f.1,E]
   have h4:v.cells[i % sz]? = some u:=by
    have U:i % sz<v.cells.size:=by rw [F];exact Nat.mod_lt _ Y
    rw [h3,F,getElem!_pos v.cells (i % sz) U,Array.getElem?_eq_getElem U]
   exact f.get h4 h2)
 refine .value ⟨_,_,_,b,r2,r1,?_⟩
 have N:=h.st.NR
 exact .vec (by simp [Mem.addRow,N]) (Nat.zero_le _) fun _=>⟨by simp [Mem.addRow,N],by simp [Mem.addRow,N],by omega⟩
theorem X8 (h:Rel w0 n M e st a w) (t:TypeId) (m:Nat) (ps:Array (Nat × Operand)) (hmk:II e t=true) (hob:(A6 P e true st (.buildSlice t m ps)).1) :
  Yields' P w0 M (A6 P e true st (.buildSlice t m ps)).2.2 (A6 P e true st (.buildSlice t m ps)).2.1 w (do pure (.value (<- Instr.buildSlice t m (ps.map fun (i,x)=>(i,a.eval x))))):=by
 unfold A6 at hob ⊢
 cases he:It P t with
 | none=>simp [he] at hob
 | some p =>
  obtain ⟨el,sz,ag,ab⟩:=p
  simp only [he,hmk] at hob ⊢
  obtain ⟨_,D,hr,aa,b,hz,o,O⟩:=hob
  obtain ⟨i,J,k,_,E⟩:=GM he
  obtain ⟨z,V⟩:=Option.isSome_iff_exists.1 hz
  obtain ⟨i',v,s,hv,hc,hs,rfl⟩:=ER V
  have hl:ps.toList.length=m:=by simpa using congrArg List.length hr
  have c:∀ p∈ps.toList,(a.eval p.2).cells.size=sz:=fun p K=>by
   rw [(A5 h (D p K)).cells.1]
   exact o _ (List.mem_map.2 ⟨p,K,rfl⟩)
  obtain ⟨zc,hzc⟩:∃ zc:Array Value,if m*sz=0 then zc = #[] else zc=v.cells:=by
   by_cases h0:m*sz=0
   ·exact ⟨#[],by rw [Ah h0]⟩
   ·exact ⟨v.cells,by rw [Ai h0]⟩
  obtain ⟨cs',a1,a2,a3,a4⟩:=UY sz (ps.toList.map fun p=>a.eval p.2) 0 ((Array.range (m*sz)).map (zc[· % zc.size]!)) (fun u J=>by obtain ⟨p,K,rfl⟩:=List.mem_map.1 J;exact c p K) (by simp [hl])
  have hm:m<=maxLen:=by
   have:m*1<=m*sz:=Nat.mul_le_mul_left _ b
   simp [maxLen];omega
  let us:Nat->Value:=fun i=>(ps.toList.map fun p=>a.eval p.2).getD i undef
  have r:∀ i (k:i<(ps.toList.map fun p=>Az e p.2).length),(us i).cells.size=sz/\R w0 M w (us i) (ps.toList.map fun p=>Az e p.2)[i]:=fun i k=>by
   have s:i<ps.toList.length:=by simpa using k
   have Z:i<ps.size:=by simpa using s
   have e1:us i=a.eval (ps.toList[i]).2:=by simp [us,List.getD,Array.getElem?_eq_getElem Z]
   rw [e1]
   refine ⟨c _ (List.getElem_mem _),?_⟩
   simp only [List.getElem_map]
   exact A5 h (D _ (List.getElem_mem _))
  have q:(ps.toList.map fun p=>Az e p.2).length=m:=by simp [<-hl]
  have F:=MB (ys:=ps.toList.map fun p=>Az e p.2) (sz:=sz) o
  rw [q] at F
  have d:cs'.size=m*sz:=by rw [a2];simp
  have l:∀ j,j<m*sz->(flat us m)[j]? = cs'[j]? := fun j hj=>by
   have hk:j / sz<m:=(Nat.div_lt_iff_lt_mul b).2 hj
   have C:=Nat.mod_lt j b
   have ej:j / sz*sz+j % sz=j:=by rw [Nat.mul_comm];exact Nat.div_add_mod j sz
   have f:=Iz (us:=us) (m:=m) (sz:=sz) (fun i k=>(r i (by rw [q];exact k)).1) (j / sz) hk (j % sz) C
   rw [ej] at f
   have Y:j / sz<ps.toList.length:=by omega
   have U:j / sz<ps.size:=by simpa using Y
   have f2:=a4 (j / sz) (us (j / sz)) (by simp [us,List.getD,Array.getElem?_eq_getElem U]) (j % sz) C
   rw [Nat.zero_add,ej] at f2
   rw [f,f2]
  obtain ⟨H,hx⟩:=h.st.addVec (cs:=cs') (ty:=el) (cap:=m) (sz:=sz) (xs:=(ps.toList.map fun p=>Az e p.2).flatMap fun y=>y.pub.cells) hm b d (by rw [F,d];exact Nat.le_refl _) (Xh (fun i k=>(r i k).2) O)
   (fun i v x g N=>by
    have k:i<m*sz:=by rw [<-d];exact (Array.getElem?_eq_some_iff.1 g).1
    rw [<-l i k] at g
    rw [<-q] at g
    exact ZfX b r o g N)
  have Q:=h.st.NR
  refine .value ⟨.slice (some ⟨w.heap.size,0,none⟩) m m,_,_,?_,hx,H,.vec (by simp [Mem.addRow,Q]) (Nat.zero_le _) fun _=>⟨by simp [Mem.addRow,Q],by simp [Mem.addRow,Q],Nat.le_refl _⟩⟩
  have e0:¬ (m*sz > 2 ^ 24):=by omega
  have G:(ps.map fun (i,x)=>(i,a.eval x)).toList=((ps.toList.map fun p=>a.eval p.2).zipIdx 0).map fun x=>(x.2,x.1):=by
   rw [Array.toList_map]
   exact V6 hr a.eval
  by_cases h0:m*sz=0
  ·rw [Ah h0] at hzc
   subst hzc
   simp only [Instr.buildSlice,Sem.run_bind,run_underlying J,Result.andThen_ok,BW E,Ai e0,Ah h0,Sem.run_pure,G,a1,newRow,run_newObj]
   rfl
  ·rw [Ai h0] at hzc
   subst hzc
   simp only [Instr.buildSlice,Sem.run_bind,run_underlying J,Result.andThen_ok,BW E,Ai e0,Ai h0,Sem.run_pure,zeroValue,typeInfo,run_program,s,hv,G,a1,newRow,run_newObj]
   rfl
theorem Zek (h:Rel w0 n M e st a w) (o:Oper) (hob:(A6 P e true st o.op).1) :
  Yields' P w0 M (A6 P e true st o.op).2.2 (A6 P e true st o.op).2.1 w (execOp a.eval o):=by
 obtain ⟨z,op,g,q,l,j⟩:=o
 cases op with
 | move x=>exact LF h.st rfl (A5 h hob)
 | assign x=>exact LF h.st rfl (A5 h hob)
 | pick c x y=>exact ZhC h c x y hob
 | alloc t=>exact Zd1 h t hob
 | box t x=>exact ZiN h t x hob
 | build t ps=>exact Zc4 h t ps hob
 | buildSlice t m ps =>
  cases hmk:II e t with
  | false=>exact VN h t m ps hmk hob
  | true=>exact X8 h t m ps hmk hob
 | load t x =>
  have:=Zhb h t x hob
  have e:(A6 P e true st (.load t x)).2.2=st:=by simp only [A6];split<;>rfl
  simp only [e]
  exact this
 | store t x v=>exact ZdA h t x v hob
 | nilCheck x=>exact XU h ⟨z,.nilCheck x,g,q,l,j⟩ x rfl hob
 | binOp op t x y u=>exact Zds h op t x y u hob
 | unOp op t x=>exact ZgO h op t x hob
 | convert s d x=>exact ZN h s d x hob
 | makeFunc f fi cap =>
  cases f with
  | func f=>exact X9 h f fi cap hob
  | _=>exact hob.elim
 | slice t x lo hi mx=>exact ZeB h t x lo hi mx hob
 | makeSlice t len cap=>exact Xv h t len cap hob
 | fieldAddr t x f=>exact Xl h t x f hob
 | field t x f=>exact ZcX h t x f hob
 | indexAddr t x i=>exact Xp h t x i hob
 | index t x i=>exact Zdx h t x i hob
 | extract x i=>exact Z6 h x i hob
 | makeMap t r=>exact Zt h t r hob
 | lookup t m k ok=>exact Za3 h t m k ok hob
 | mapUpdate t m k v=>exact W4 h t m k v hob
 | call c =>
  obtain ⟨callee,args,ts⟩:=c
  cases callee with
  | builtin b =>
   cases b with
   | len =>
    simp only [A6] at hob ⊢
    split at hob
    ·rename_i x t hx ht
     obtain ⟨C,D⟩:=hob
     have ea:args = #[x]:=Array.toList_inj.1 (by simpa using hx)
     have et:ts = #[t]:=Array.toList_inj.1 (by simpa using ht)
     subst ea;subst et
     exact (ZjX h x t g C D).congr (JB .len #[x] #[t] z g q l j _ (fun _=>by simp [builtin]))
    ·exact hob.elim
   | append =>
    simp only [A6] at hob ⊢
    split at hob
    ·rename_i s x t t' hx ht
     obtain ⟨_,C,D,rfl,E⟩:=hob
     have ea:args = #[s,x]:=Array.toList_inj.1 (by simpa using hx)
     have et:ts = #[t,t]:=Array.toList_inj.1 (by simpa using ht)
     subst ea;subst et
     exact (V3 h s x t g C D E).congr (JB .append #[s,x] #[t,t] z g q l j _ (fun _=>by simp [builtin]))
    ·exact hob.elim
   | clear =>
    simp only [A6] at hob ⊢
    split at hob
    ·rename_i x t hx ht
     have ea:args = #[x]:=Array.toList_inj.1 (by simpa using hx)
     have et:ts = #[t]:=Array.toList_inj.1 (by simpa using ht)
     subst ea;subst et
     split at hob
     ·rename_i id ver o n' el sz ag by8 ex he
      cases hvr:ED st.rows id ver with
      | none=>simp only [hvr] at hob
      | some p =>
       obtain ⟨G,cs⟩:=p
       simp only [hvr] at hob ⊢
       obtain ⟨_,C,D,E,F⟩:=hob
       exact (Zdc h x t g he ex hvr C D E F).congr (JB .clear #[x] #[t] z g q l j _ (fun _=>by simp [builtin]))
     ·exact hob.elim
    ·exact hob.elim
   | min =>
    simp only [A6] at hob ⊢
    split at hob
    ·rename_i x y hx
     obtain ⟨C,D,E,F,_⟩:=hob
     have ea:args = #[x,y]:=Array.toList_inj.1 (by simpa using hx)
     subst ea
     exact (ZjJ h x y ts g C D E F).congr (JB .min #[x,y] ts z g q l j _ (fun _=>by simp [builtin]))
    ·exact hob.elim
   | max =>
    simp only [A6] at hob ⊢
    split at hob
    ·rename_i x y hx
     obtain ⟨C,D,E,F⟩:=hob
     have ea:args = #[x,y]:=Array.toList_inj.1 (by simpa using hx)
     subst ea
     exact (ZjY h x y ts g C D E F).congr (JB .max #[x,y] ts z g q l j _ (fun _=>by simp [builtin]))
    ·exact hob.elim
   | _=>exact hob.elim
  | _=>exact hob.elim
 | _=>exact hob.elim
end
def FW (ro:Option Nat):Fence:={ Fence.wide with round:=ro }
theorem PP (ro:Option Nat) (f:FuncId):(FW ro).fn f:=trivial
theorem Re (ro:Option Nat):(FW ro).depth.isSome=true->∀ n,1<=n:=fun h=>by cases h
theorem Qp {ro:Option Nat} {n:Nat} {P:Program} {f:FuncId} {args:Array Value} {w:World} {Q:Ending->World->Prop} (h:Calls P f args w Q):CallsIn (FW ro) n P f args w Q:=by
 cases ro with
 | none=>exact callsIn_wide.2 h
 | some l=>exact CallsIn.inRound (F:=Fence.wide) l (callsIn_wide.2 h)
theorem SK {n:Nat} {P:Program} {f:FuncId} {args:Array Value} {w:World} {Q:Ending->World->Prop} (h:CallsIn (FW none) n P f args w Q):Calls P f args w Q:=callsIn_wide.1 h
def Jh (P:Program) (f:FuncId):Prop:=∀ args w,(callFunc f args).run P w = .ok (.enter f args) w
def Comes' (w0:World) (M:Mem) (w:World) (Post:AV->St->Prop) (en:Ending) (w':World):Prop :=
 ∃ v M' r st',en = .returned v/\Post r st'/\Ext w0 M w M' w'/\RelSt w0 M' st' w'/\R w0 M' w' v r
def ACalls (P:Program) (w0:World) (f:FuncId) (args:List AV) (st:St) (Post:AV->St->Prop):Prop :=
 Jh P f/\∀ (M:Mem) (w:World) (vals:Array Value),RelSt w0 M st w->RowR w0 M w vals args->Calls P f vals w (Comes' w0 M w Post)
theorem Comes'.mono {w0:World} {M:Mem} {w:World} {Post Post':AV->St->Prop} (hp:∀ r s,Post r s->Post' r s) {en:Ending} {w':World} (h:Comes' w0 M w Post en w'):Comes' w0 M w Post' en w' :=
 let ⟨v,M',r,st',a1,a2,a3,a4,a5⟩:=h;⟨v,M',r,st',a1,hp _ _ a2,a3,a4,a5⟩
theorem ACalls.mono {P:Program} {w0:World} {f:FuncId} {args:List AV} {st:St} {Post Post':AV->St->Prop} (h:ACalls P w0 f args st Post) (hp:∀ r s,Post r s->Post' r s):ACalls P w0 f args st Post' :=
 ⟨h.1,fun M w a b c=>(h.2 M w a b c).mono fun _ _ h=>h.mono hp⟩
def UI (P:Program) (w0:World) (k:Nat) (args:List AV) (st:St) (Post:AV->St->Prop):Prop :=
 ∀ (M:Mem) (w:World) (vals:Array Value),RelSt w0 M st w->RowR w0 M w vals args ->
  ∃ fn tmps asg body,(Instr.yield (M.lb k) vals).run P w = .ok (.round (M.lb k) fn tmps asg body) w/\∀ n,RoundIn Fence.wide n P (M.lb k) fn tmps asg body w (Comes' w0 M w Post)
def NN (P:Program) (w0:World) (fv:AV) (args:List AV) (st:St) (Post:AV->St->Prop):Prop :=
 match fv with
 | .clo f cs=>ACalls P w0 f (args++cs) st Post
 | .bnd f cs=>ACalls P w0 f (cs++args) st Post
 | .yld k=>UI P w0 k args st Post
 | _=>False
def IX (e:Env) (dst:Option Nat) (c:Bool) (v:AV):Env :=
 match dst with
 | some d=>(d,c,v)::e
 | none=>e
def IB (n:Nat):Option Nat->Prop
 | some d=>d<n
 | none=>True
def C5 (all:List Oper) (e:Env):Option (Nat × Bool)->Bool
 | none=>true
 | some (j,want)=>match (all[j]?).bind (·.dst) with
  | some d=>match look e d with
   | some (cj,.val (.bool b))=>cj&&(b == want)
   | _=>false
  | none=>false
def Kq (all:List Oper) (e:Env):Option (Nat × Bool)->Prop
 | none=>True
 | some (j,_)=>match (all[j]?).bind (·.dst) with
  | some d=>match look e d with
   | some (_,v)=>TI v=true
   | none=>False
  | none=>False
def JU:List Operand->List Nat
 | []=>[]
 | .tmp t::r=>t::JU r
 | _::r=>JU r
def Zeo (all:List Oper):Option (Nat × Bool)->List Nat
 | none=>[]
 | some (j,_)=>((all[j]?).bind (·.dst)).toList
def looks (all:List Oper) (o:Oper):List Nat:=1000000::(JU o.op.operands.toList++Zeo all o.guard)
def CV (d:Bool) (all:List Oper) (o:Oper) (e:Env):Env:=if d then C9 (looks all o) e else e
def JA (P:Program) (w0:World) (c d:Bool) (fv:AV) (args:List AV) (st:St) (k:AV->St->Prop):Prop :=
 (∃ v,(c=true->NN P w0 fv args st fun r s=>r=v/\s=st)/\k v st) \/
 (d=false/\∃ Post,(c=true->NN P w0 fv args st Post)/\∀ v st',(c=true->Post v st')->(c=false->st'=st)->k v st')
theorem Ot {P:Program} {w0:World} {c d:Bool} {f:FuncId} {cs args:List AV} {st:St} {k:AV->St->Prop} (v:AV)
  (h:ACalls P w0 f (args++cs) st fun r s=>r=v/\s=st) (hk:k v st):JA P w0 c d (.clo f cs) args st k := .inl ⟨v,fun _=>h,hk⟩
theorem UJ {P:Program} {w0:World} {f:FuncId} {cs args:List AV} {st:St} {k:AV->St->Prop} (Post:AV->St->Prop)
  (h:ACalls P w0 f (args++cs) st Post) (hk:∀ v s,Post v s->k v s):JA P w0 true false (.clo f cs) args st k := .inr ⟨rfl,Post,fun _=>h,fun v s a _=>hk v s (a rfl)⟩
theorem S9 {P:Program} {w0:World} {c:Bool} {i:Nat} {args:List AV} {st:St} {k:AV->St->Prop} (Post:AV->St->Prop)
  (h:c=true->UI P w0 i args st Post) (hk:∀ v s,(c=true->Post v s)->(c=false->s=st)->k v s):JA P w0 c false (.yld i) args st k := .inr ⟨rfl,Post,h,hk⟩
def argP (e:Env) (x:AV):AV:=if II e 0=true then x else x.pub
theorem R.argP {w0:World} {M:Mem} {w:World} {v:Value} {x:AV} (e:Env) (h:R w0 M w v x):R w0 M w v (Go.Ev.argP e x):=by
 unfold Go.Ev.argP
 split
 ·exact h
 ·exact h.pub
def ZcR (e:Env) (g:Nat):AV :=
 match look e (2000000+g) with
 | some (_,x)=>x
 | none => .junk
def Zl8 (P:Program) (w0:World) (t:TypeId) (g:Nat) (x:AV):Prop :=
 ∀ (M:Mem) (w:World),Below w0.heap.size w0 w->∃ v,(Instr.loadAt t (.pointer (some ⟨g,0,none⟩))).run P w = .ok v w/\R w0 M w v x
def evS (P:Program) (w0:World) (n:Nat) (d:Bool) (all:List Oper) (R:List Oper->Env->St->Prop) (K:Env->St->Prop):List Oper->Env->St->Prop
 | [],e,st=>K e st
 | o::os,e,st =>
  Kq all (CV d all o e) o.guard/\IB n o.dst /\
  match o.op with
  | .call ⟨.value f,args,_⟩ =>
   (C5 all (CV d all o e) o.guard=true->AN (CV d all o e) true f/\∀ x∈args.toList,AN (CV d all o e) true x) /\
   JA P w0 (C5 all (CV d all o e) o.guard) d (Az (CV d all o e) f) (args.toList.map fun x=>argP (CV d all o e) (Az (CV d all o e) x)) st
    fun v st'=>R os (IX e o.dst (C5 all (CV d all o e) o.guard) v) st'
  | .load t (.global g)=>(d=false/\(C5 all (CV d all o e) o.guard=true->Zl8 P w0 t g (ZcR e g)))/\evS P w0 n d all R K os (IX e o.dst (C5 all (CV d all o e) o.guard) (ZcR e g)) st
  | op=>match A6 P (CV d all o e) (C5 all (CV d all o e) o.guard) st op with
   | (ob,v,st')=>(C5 all (CV d all o e) o.guard=true->ob)/\((C5 all (CV d all o e) o.guard=false\/d=true)->st'=st)/\evS P w0 n d all R K os (IX e o.dst (C5 all (CV d all o e) o.guard) v) st'
def RQ (P:Program) (w0:World) (n:Nat) (d:Bool) (all:List Oper) (K:Env->St->Prop):Nat->List Oper->Env->St->Prop
 | 0,_,_,_=>False
 | c+1,os,e,st=>evS P w0 n d all (RQ P w0 n d all K c) K os e st
theorem An {P:Program} {w0:World} {n:Nat} {d:Bool} {all:List Oper} {K:Env->St->Prop} {c:Nat} {os:List Oper} {e:Env} {st:St}:RQ P w0 n d all K (c+1) os e st=evS P w0 n d all (RQ P w0 n d all K c) K os e st:=rfl
def LD:Op->Bool
 | .call ⟨.value _,_,_⟩=>true
 | _=>false
def ZjI:Op->Bool
 | .load _ (.global _)=>true
 | _=>false
theorem Wa {P:Program} {w0:World} {n:Nat} {d:Bool} {all:List Oper} {R:List Oper->Env->St->Prop} {K:Env->St->Prop} {o:Oper} {os:List Oper} {e:Env} {st:St} (hc:¬ LD o.op=true) (hgl:¬ ZjI o.op=true) :
  evS P w0 n d all R K (o::os) e st=(Kq all (CV d all o e) o.guard/\IB n o.dst/\match A6 P (CV d all o e) (C5 all (CV d all o e) o.guard) st o.op with
   | (ob,v,st')=>(C5 all (CV d all o e) o.guard=true->ob)/\((C5 all (CV d all o e) o.guard=false\/d=true)->st'=st)/\evS P w0 n d all R K os (IX e o.dst (C5 all (CV d all o e) o.guard) v) st'):=by
 obtain ⟨dst,op,b,c,a,guard⟩:=o
 cases op with
 | call cc =>
  obtain ⟨callee,args,ts⟩:=cc
  cases callee with
  | value f=>exact absurd rfl hc
  | _=>rfl
 | load t y =>
  cases y with
  | global g=>exact absurd rfl hgl
  | _=>rfl
 | _=>rfl
section
variable {P:Program} {w0:World} {n:Nat} {M:Mem} {e:Env} {st:St} {a:Act} {w:World}
theorem Ry (h:Rel w0 n M e st a w) (ro:Option Nat) (m:Nat) (o:Oper) (hob:(A6 P e true st o.op).1) (Q:Exit->Act->World->Prop) (K:Act->World->Prop)
  (hK:∀ v w' M',Ext w0 M w M' w'->RelSt w0 M' (A6 P e true st o.op).2.2 w'->R w0 M' w' v (A6 P e true st o.op).2.1->K (a.put o.dst v) w'):o.wpIn (FW ro) m P a w K Q:=by
 have hd:∀ c,o.op ≠ .defer c:=by
  intro c j
  rw [j] at hob
  exact hob
 obtain ⟨v,w',M',b,g,i,d⟩:=Zek (P:=P) h o hob
 refine ⟨fun f _=>PP ro f,?_⟩
 have hs:Oper.semAt (FW ro).round a.eval o=execOp a.eval o:=by
  cases ro with
  | none=>rfl
  | some l=>exact Oper.semAt_some l a.eval o hd
 rw [hs]
 rcases b with b | ⟨b,rfl⟩
 ·rw [b];exact hK v w' M' g i d
 ·rw [b];exact hK _ w' M' g i d
theorem XC {v:Value} {f:FuncId} {xs:List AV} (h:R w0 M w v (.clo f xs)):∃ cs,v = .func (.func f) #[] cs/\RowR w0 M w cs xs:=by
 cases h with
 | clo hl h=>exact ⟨_,rfl,hl,h⟩
theorem Zgf {v:Value} {f:FuncId} {xs:List AV} (h:R w0 M w v (.bnd f xs)):∃ cs,v = .func (.func f) cs #[]/\RowR w0 M w cs xs:=by
 cases h with
 | bnd hl h=>exact ⟨_,rfl,hl,h⟩
theorem Zgc {v:Value} {k:Nat} (h:R w0 M w v (.yld k)):v = .func (.yield (M.lb k)) #[] #[]:=by
 cases h with
 | yld hk=>rfl
theorem Zf8 (h:Rel w0 n M e st a w) {args:Array Operand} (hargs:∀ x∈args.toList,AN e true x):RowR w0 M w (args.map a.eval) (args.toList.map fun x=>argP e (Az e x)):=by
 refine .mk (by simp) (fun i u y hu hy=>?_)
 by_cases c:i<args.size
 ·simp only [Array.getElem?_map,Array.getElem?_eq_getElem c,Option.map_some,Option.some.injEq] at hu
  simp only [List.getElem?_map,Array.getElem?_toList,Array.getElem?_eq_getElem c,Option.map_some,Option.some.injEq] at hy
  subst hu;subst hy
  exact (A5 h (hargs _ (by simp))).argP e
 ·simp [Array.getElem?_eq_none (Nat.le_of_not_lt c)] at hu
theorem RowR.append {cs ds:Array Value} {xs ys:List AV} (h:RowR w0 M w cs xs) (k:RowR w0 M w ds ys):RowR w0 M w (cs++ds) (xs++ys):=by
 refine .mk (by simp [h.1,k.1]) (fun i u y a b=>?_)
 by_cases c:i<cs.size
 ·rw [Array.getElem?_append_left c] at a
  rw [List.getElem?_append_left (h.1▸c)] at b
  exact h.get a b
 ·rw [Array.getElem?_append_right (by omega)] at a
  rw [List.getElem?_append_right (by have:=h.1;omega)] at b
  rw [h.1] at a
  exact k.get a b
theorem KF (h:Rel w0 n M e st a w) (ro:Option Nat) (m:Nat) {dst:Option Tmp} {f:Operand} {args:Array Operand} {ts:Array TypeId} {type:TypeId} {pos:String} {after:Array Edge} {guard:Option (Nat × Bool)}
  (hf:AN e true f) (hargs:∀ x∈args.toList,AN e true x) {Post:AV->St->Prop} (hv:NN P w0 (Az e f) (args.toList.map fun x=>argP e (Az e x)) st Post) (Q:Exit->Act->World->Prop) (K:Act->World->Prop)
  (hK:∀ r s,Post r s->∀ v w' M',Ext w0 M w M' w'->RelSt w0 M' s w'->R w0 M' w' v r->K (a.put dst v) w') :
  (⟨dst,.call ⟨.value f,args,ts⟩,type,pos,after,guard⟩:Oper).wpIn (FW ro) m P a w K Q:=by
 have d:=Zf8 h hargs
 have o:=A5 h hf
 refine ⟨fun f _=>PP ro f,?_⟩
 have hs:Oper.semAt (FW ro).round a.eval ⟨dst,.call ⟨.value f,args,ts⟩,type,pos,after,guard⟩=execOp a.eval ⟨dst,.call ⟨.value f,args,ts⟩,type,pos,after,guard⟩:=by
  cases ro with
  | none=>rfl
  | some l=>exact Oper.semAt_some l a.eval _ (fun c hh=>by cases hh)
 rw [hs]
 cases hx:Az e f with
 | clo g xs =>
  rw [hx] at o hv
  obtain ⟨cs,ef,j⟩:=XC o
  have b:(execOp a.eval ⟨dst,.call ⟨.value f,args,ts⟩,type,pos,after,guard⟩).run P w = .ok (.enter g (args.map a.eval++cs)) w:=by
   simp [execOp,resolve,ef,Deferred.ofValue,invoke,hv.1 (args.map a.eval++cs) w]
  rw [b]
  refine ⟨fun q=>Re ro q m,Qp ((hv.2 M w _ h.st (d.append j)).mono ?_)⟩
  rintro en w' ⟨z,M',r,s,rfl,u,y,C,t⟩
  exact hK r s u z w' M' y C t
 | bnd g xs =>
  rw [hx] at o hv
  obtain ⟨cs,ef,j⟩:=Zgf o
  have b:(execOp a.eval ⟨dst,.call ⟨.value f,args,ts⟩,type,pos,after,guard⟩).run P w = .ok (.enter g (cs++args.map a.eval)) w:=by
   simp [execOp,resolve,ef,Deferred.ofValue,invoke,hv.1 (cs++args.map a.eval) w]
  rw [b]
  refine ⟨fun q=>Re ro q m,Qp ((hv.2 M w _ h.st (j.append d)).mono ?_)⟩
  rintro en w' ⟨z,M',r,s,rfl,u,y,C,t⟩
  exact hK r s u z w' M' y C t
 | yld k =>
  rw [hx] at o hv
  have ef:=Zgc o
  obtain ⟨H,D,E,p,G,i⟩:=hv M w _ h.st d
  have b:(execOp a.eval ⟨dst,.call ⟨.value f,args,ts⟩,type,pos,after,guard⟩).run P w = .ok (.round (M.lb k) H D E p) w:=by
   simp [execOp,resolve,ef,Deferred.ofValue,invoke,G]
  rw [b]
  refine ⟨fun q=>Re ro q m,?_⟩
  have:=i (m-1)
  refine RoundIn.mono (F:=FW ro) (by cases ro<;>exact this) ?_
  rintro en w' ⟨z,M',r,s,rfl,u,y,C,t⟩
  exact hK r s u z w' M' y C t
 | _=>rw [hx] at hv;exact hv.elim
theorem JK (a:Act) (dst:Option Nat) (v:Value) (s:Nat) (hd:IB a.tmps.size dst):(a.put dst v).tmps.getD s undef=if dst=some s then v else a.tmps.getD s undef:=by
 cases dst with
 | none=>simp [Act.put]
 | some d =>
  simp only [IB] at hd
  simp only [Act.put,Option.some.injEq]
  by_cases c:d=s
  ·subst c
   simp [hd]
  ·rw [Ai c]
   simp [Array.getElem?_setIfInBounds_ne c]
theorem Q9 (a:Act) (dst:Option Nat) (v:Value):(a.put dst v).tmps.size=a.tmps.size:=by cases dst<;>simp [Act.put]
theorem He (a:Act) (dst:Option Nat) (v:Value):(a.put dst v).defers=a.defers:=by cases dst<;>rfl
theorem Rel.put (h:Rel w0 n M e st a w) {M':Mem} {w':World} {st':St} (hx:Ext w0 M w M' w') (hst:RelSt w0 M' st' w') {dst:Option Nat} (hd:IB n dst) {c:Bool} {v:Value} {r:AV} (hv:entryOk w0 M' w' v (c,r)) :
  Rel w0 n M' (IX e dst c r) st' (a.put dst v) w':=by
 refine ⟨hst,by rw [Q9];exact h.size,fun s x hs=>?_⟩
 rw [JK a dst v s (by rw [h.size];exact hd)]
 cases dst with
 | none=>exact (h.env s x hs).mono hx
 | some d =>
  simp only [IX,look] at hs
  simp only [Option.some.injEq]
  by_cases q:d=s
  ·rw [Ah q] at hs ⊢
   cases hs
   exact hv
  ·rw [Ai q] at hs ⊢
   exact (h.env s x hs).mono hx
theorem WY {ops:Array Oper} {ts:Array Value} {j d:Nat} (h:(ops[j]?).bind (·.dst)=some d):yielded ops ts j=match ts.getD d undef with | .bool b=>some b | _=>none:=by
 unfold yielded
 simp only [h]
 rw [Array.getD_eq_getD_getElem?]
 change (match ts[(d:Nat)]? with | some (.bool b)=>some b | _=>none)=_
 cases ts[(d:Nat)]? with
 | none=>rfl
 | some v=>cases v<;>rfl
theorem LL (h:Rel w0 n M e st a w) {all:List Oper} {o:Oper} (hg:Kq all e o.guard):Region.wanted o (yielded all.toArray a.tmps)=C5 all e o.guard:=by
 unfold Region.wanted C5
 cases hgd:o.guard with
 | none=>rfl
 | some p =>
  obtain ⟨j,want⟩:=p
  rw [hgd] at hg
  simp only [Kq] at hg
  have f:(all.toArray[j]?).bind (·.dst)=(all[j]?).bind (·.dst):=by simp
  dsimp only
  cases hd:(all[j]?).bind (·.dst) with
  | none=>simp [hd] at hg
  | some d =>
   rw [WY (f.trans hd)]
   simp only [hd] at hg ⊢
   cases hl:look e d with
   | none=>simp [hl] at hg
   | some x =>
    obtain ⟨cj,v⟩:=x
    simp only [hl] at hg ⊢
    have c:=h.env d _ hl
    cases v with
    | val u =>
     cases u<;>try cases hg
     rename_i b
     unfold entryOk at c
     cases cj with
     | true =>
      rw [Ah rfl] at c
      obtain ⟨g,_⟩:=c.val_inv
      rw [g]
      cases b<;>cases want<;>rfl
     | false =>
      rw [Ai (by simp)] at c
      rw [c]
      rfl
    | _=>cases hg
def ZdT (e' e:Env):Prop:=∀ s x,look e' s=some x->look e s=some x
theorem Rel.sub {e':Env} (h:Rel w0 n M e st a w) (hs:ZdT e' e):Rel w0 n M e' st a w:=⟨h.st,h.size,fun s x b=>h.env s x (hs s x b)⟩
theorem Jf:∀ (K:List Nat) (e:Env) (s:Nat) (x:Bool × AV),look (C9 K e) s=some x->look e s=some x
 | [],_,_,_,h=>by simp [C9,look] at h
 | k::K,e,s,x,h=>by
  simp only [C9] at h
  cases hk:look e k with
  | none =>
   simp only [hk] at h
   exact Jf K e s x h
  | some y =>
   obtain ⟨c,v⟩:=y
   simp only [hk,look] at h
   by_cases q:k=s
   ·rw [Ah q] at h
    subst q
    rw [hk];exact h
   ·rw [Ai q] at h
    exact Jf K e s x h
theorem BI (K:List Nat) (e:Env):ZdT (C9 K e) e:=Jf K e
theorem MX:∀ (K:List Nat) (e:Env) (s:Nat) (x:Bool × AV),look (C9 K e) s=some x->s∈K
 | [],_,_,_,h=>by simp [C9,look] at h
 | k::K,e,s,x,h=>by
  simp only [C9] at h
  cases hk:look e k with
  | none =>
   simp only [hk] at h
   exact List.mem_cons_of_mem _ (MX K e s x h)
  | some y =>
   obtain ⟨c,v⟩:=y
   simp only [hk,look] at h
   by_cases q:k=s
   ·exact q▸List.mem_cons_self
   ·rw [Ai q] at h
    exact List.mem_cons_of_mem _ (MX K e s x h)
theorem ZdO (d:Bool) (all:List Oper) (o:Oper) (e:Env):ZdT (CV d all o e) e:=by
 unfold CV
 split
 ·exact BI _ _
 ·exact fun _ _ h=>h
theorem O5 (ro:Option Nat) (m:Nat) (d:Bool) (all:List Oper) (KK:Env->St->Prop) (Q:Exit->Act->World->Prop):∀ (c:Nat) (os:List Oper) (e:Env) (st:St) (a:Act) (w:World) (M:Mem),Rel w0 n M e st a w ->
  RQ P w0 n d all KK c os e st->(∀ e' st' a' w' M',KK e' st'->Rel w0 n M' e' st' a' w'->Ext w0 M w M' w'->a'.defers=a.defers->Q .normal a' w')->wpListIn (FW ro) m P all.toArray Q os a w
 | 0,_,_,_,_,_,_,_,h,_=>h.elim
 | c+1,os,e,st,a,w,M,hr,h,C=>by
  have N:∀ (os:List Oper) (e:Env) (st:St) (a:Act) (w:World) (M:Mem),Rel w0 n M e st a w->evS P w0 n d all (RQ P w0 n d all KK c) KK os e st ->
    (∀ e' st' a' w' M',KK e' st'->Rel w0 n M' e' st' a' w'->Ext w0 M w M' w'->a'.defers=a.defers->Q .normal a' w')->wpListIn (FW ro) m P all.toArray Q os a w:=by
   intro os
   induction os with
   | nil=>exact fun e st a w M hr h C=>C e st a w M h hr (.refl _ _ _) rfl
   | cons o os ih =>
    intro e st a w M hr h C
    have hv:=ZdO d all o e
    have j:=hr.sub hv
    by_cases hc:LD o.op=true
    ·obtain ⟨dst,op,type,pos,after,guard⟩:=o
     cases op<;>try cases hc
     rename_i cc
     obtain ⟨callee,args,ts⟩:=cc
     cases callee<;>try cases hc
     rename_i f
     simp only [evS] at h
     obtain ⟨E,hd,z,x⟩:=h
     unfold wpListIn
     rw [LL j E]
     have go:∀ v s,RQ P w0 n d all KK c os (IX e dst (C5 all (CV d all ⟨dst,.call ⟨.value f,args,ts⟩,type,pos,after,guard⟩ e) guard) v) s->∀ u w' M',Ext w0 M w M' w'->RelSt w0 M' s w' ->
       entryOk w0 M' w' u (C5 all (CV d all ⟨dst,.call ⟨.value f,args,ts⟩,type,pos,after,guard⟩ e) guard,v)->wpListIn (FW ro) m P all.toArray Q os (a.put dst u) w':=by
      intro v s O u w' M' hx hst hu
      exact O5 ro m d all KK Q c os _ _ _ _ M' (hr.put hx hst hd hu) O (fun e' st' a' b i p k G J=>C e' st' a' b i p k (hx.trans G) (J.trans (He a dst u)))
     cases hcc:C5 all (CV d all ⟨dst,.call ⟨.value f,args,ts⟩,type,pos,after,guard⟩ e) guard with
     | true =>
      rw [hcc] at z x go
      obtain ⟨V,U⟩:=z rfl
      rw [Ah rfl]
      rcases x with ⟨v,p,k⟩ | ⟨_,Post,p,k⟩
      ·refine KF j ro m V U (p rfl) Q _ (fun r s H u w' M' hx hst hu=>?_)
       obtain ⟨rfl,rfl⟩:=H
       exact go _ _ k u w' M' hx hst hu
      ·exact KF j ro m V U (p rfl) Q _ (fun r s H u w' M' hx hst hu=>go _ _ (k r s (fun _=>H) (fun q=>by cases q)) u w' M' hx hst hu)
     | false =>
      rw [hcc] at z x go
      rw [Ai (by simp)]
      refine ⟨fun g _=>PP ro g,?_⟩
      rcases x with ⟨v,p,k⟩ | ⟨_,Post,p,k⟩
      ·exact go _ _ k undef w M (.refl _ _ _) hr.st rfl
      ·exact go .junk st (k .junk st (fun q=>by cases q) (fun _=>rfl)) undef w M (.refl _ _ _) hr.st rfl
    by_cases hgl:ZjI o.op=true
    ·obtain ⟨dst,op,type,pos,after,guard⟩:=o
     cases op<;>try cases hgl
     rename_i t y
     cases y<;>try cases hgl
     rename_i g
     simp only [evS] at h
     obtain ⟨E,hd,⟨_,z⟩,x⟩:=h
     unfold wpListIn
     rw [LL j E]
     cases hcc:C5 all (CV d all ⟨dst,.load t (.global g),type,pos,after,guard⟩ e) guard with
     | true =>
      rw [hcc] at z x
      rw [Ah rfl]
      obtain ⟨v,p,k⟩:=z rfl M w hr.st.below
      refine ⟨fun f _=>PP ro f,?_⟩
      have hs:Oper.semAt (FW ro).round a.eval ⟨dst,.load t (.global g),type,pos,after,guard⟩=execOp a.eval ⟨dst,.load t (.global g),type,pos,after,guard⟩:=by
       cases ro with
       | none=>rfl
       | some l=>exact Oper.semAt_some l a.eval _ (fun c hh=>by cases hh)
      have F:(execOp a.eval ⟨dst,.load t (.global g),type,pos,after,guard⟩).run P w = .ok (.value v) w:=by
       have Z:a.eval (.global g) = .pointer (some ⟨g,0,none⟩):=rfl
       simp [execOp,Z,p]
      rw [hs,F]
      exact ih _ _ _ _ M (hr.put (.refl _ _ _) hr.st hd (c:=true) (show entryOk w0 M w v (true,_) from k)) x (fun e' st' a' b i q1 q2 q3 K=>C e' st' a' b i q1 q2 q3 (K.trans (He a dst v)))
     | false =>
      rw [hcc] at x
      rw [Ai (by simp)]
      refine ⟨fun f _=>PP ro f,ih _ _ _ _ M (hr.put (.refl _ _ _) hr.st hd (c:=false) (show entryOk w0 M w undef (false,_) from rfl)) x (fun e' st' a' b i q1 q2 q3 K=>C e' st' a' b i q1 q2 q3 (K.trans (He a dst undef)))⟩
    ·rw [Wa hc hgl] at h
     obtain ⟨E,hd,z,Y,D⟩:=h
     unfold wpListIn
     rw [LL j E]
     have go:∀ u w' M',Ext w0 M w M' w'->RelSt w0 M' (A6 P (CV d all o e) (C5 all (CV d all o e) o.guard) st o.op).2.2 w' ->
       entryOk w0 M' w' u (C5 all (CV d all o e) o.guard,(A6 P (CV d all o e) (C5 all (CV d all o e) o.guard) st o.op).2.1)->wpListIn (FW ro) m P all.toArray Q os (a.put o.dst u) w':=by
      intro u w' M' hx hst hu
      exact ih _ _ _ _ M' (hr.put hx hst hd hu) D (fun e' st' a' b i p k G J=>C e' st' a' b i p k (hx.trans G) (J.trans (He a o.dst u)))
     cases hcc:C5 all (CV d all o e) o.guard with
     | true =>
      rw [hcc] at z go
      rw [Ah rfl]
      exact Ry j ro m o (z rfl) Q _ (fun v w' M' hx hst hv=>go v w' M' hx hst hv)
     | false =>
      rw [hcc] at Y go
      rw [Ai (by simp)]
      refine ⟨fun g _=>PP ro g,go undef w M (.refl _ _ _) ?_ rfl⟩
      have q:(A6 P (CV d all o e) false st o.op).2.2=st:=Y (.inl rfl)
      rw [q]
      exact hr.st
  exact N os e st a w M hr h C
end
def Marked (W0:World) (ds:List Deferred) (w:World):Prop :=
 ∃ Ds:List Nat,Ds.Nodup/\ds=Ds.map (fun D=>{ target := .collected D,args := #[] })/\∀ D∈Ds,W0.heap.size<=D/\w.heap[D]? = some (.deferred (some []))
abbrev AQ:=Exit->Env->St->Prop
structure At (w0:World) (n:Nat) (M0:Mem) (W0:World) (e:Env) (st:St) (a:Act) (w:World) (M:Mem):Prop where
 rel:Rel w0 n M e st a w
 ext:Ext w0 M0 W0 M w
 marks:Marked W0 a.defers w
def Zlo (w0:World) (n:Nat) (M0:Mem) (W0:World) (Q:AQ) (x:Exit) (a':Act) (w':World):Prop :=
 ∃ M' e' st',At w0 n M0 W0 e' st' a' w' M'/\Q x e' st'
def D8 (P:Program) (w0:World) (n:Nat) (M0:Mem) (W0:World) (ro:Option Nat) (c:Code) (Q:AQ) (e:Env) (st:St):Prop :=
 ∀ m M a w,At w0 n M0 W0 e st a w M->c.wpIn (FW ro) m P (Zlo w0 n M0 W0 Q) a w
def UX (K:Env->St->Prop) (Q:AQ):AQ
 | .normal,e,st=>K e st
 | x,e,st=>Q x e st
def UP (id:Nat) (Q:AQ):AQ
 | .exit i,e,st=>if i=id then Q .normal e st else Q (.exit i) e st
 | x,e,st=>Q x e st
section
variable {P:Program} {w0:World} {n:Nat} {M0:Mem} {W0:World} {ro:Option Nat} {Q:AQ} {e:Env} {st:St}
theorem Zes {c:Code} {Q':AQ} (h:D8 P w0 n M0 W0 ro c Q e st) (hq:∀ x e s,Q x e s->Q' x e s):D8 P w0 n M0 W0 ro c Q' e st :=
 fun m M a w g=>wpIn_mono (h m M a w g) fun _ _ _ ⟨M',i,b,f,d⟩=>⟨M',i,b,f,hq _ _ _ d⟩
theorem At.sub {M:Mem} {a:Act} {w:World} {e':Env} (h:At w0 n M0 W0 e st a w M) (hs:ZdT e' e):At w0 n M0 W0 e' st a w M:=⟨h.rel.sub hs,h.ext,h.marks⟩
theorem Marked.later {M M':Mem} {ds:List Deferred} {w w':World} (h:Marked W0 ds w) (hx:Ext w0 M w M' w') (hl:RelSt w0 M st w):Marked W0 ds w':=by
 obtain ⟨Ds,g,i,b⟩:=h
 refine ⟨Ds,g,i,fun D c=>⟨(b D c).1,hx.objs D _ (b D c).2 rfl fun k f e=>?_⟩⟩
 have a:k<st.loops.length:=by rw [<-hl.loop.NL];exact f
 obtain ⟨_,d⟩:=hl.loop.record k _ (List.getElem?_eq_getElem a)
 rw [e] at d
 exact d.nodef (b D c).2
theorem EZ {c:Code} (e':Env) (h:D8 P w0 n M0 W0 ro c Q e' st) (hs:ZdT e' e):D8 P w0 n M0 W0 ro c Q e st:=fun m M a w b=>h m M a w (b.sub hs)
theorem As (c:Nat) (L:List Nat) {id:Nat} {l:List Oper} (h:RQ P w0 n false l (fun e' st'=>Q .normal (C9 L e') st') c l e st):D8 P w0 n M0 W0 ro (.region id l.toArray false) Q e st:=by
 intro m M a w b
 refine wpIn_region_lit (O5 ro m false l _ _ c l e st a w M b.rel h fun e' st' o k g j i d f=>⟨g,_,_,⟨i.sub (BI L _),b.ext.trans d,?_⟩,j⟩)
 rw [f]
 exact b.marks.later d b.rel.st
theorem Bq (h:Q .normal e st):D8 P w0 n M0 W0 ro .skip Q e st:=fun _ M _ _ a=>wpIn_skip ⟨M,e,st,a,h⟩
theorem Gn {id:Nat} (h:Q (.exit id) e st):D8 P w0 n M0 W0 ro (.exit id) Q e st:=fun _ M _ _ a=>wpIn_exit ⟨M,e,st,a,h⟩
theorem BB (h:Q .ret e st):D8 P w0 n M0 W0 ro .ret Q e st:=fun _ M _ _ a=>wpIn_ret ⟨M,e,st,a,h⟩
theorem Am {x y:Code} (h:∀ K:Env->St->Prop,(∀ e s,D8 P w0 n M0 W0 ro y Q e s->K e s)->D8 P w0 n M0 W0 ro x (UX K Q) e st):D8 P w0 n M0 W0 ro (.seq x y) Q e st:=by
 intro m M a w g
 refine wpIn_seq (wpIn_mono (h (D8 P w0 n M0 W0 ro y Q) (fun _ _ h=>h) m M a w g) ?_)
 rintro ex i f ⟨M',j,d,c,b⟩
 cases ex with
 | normal=>exact b m M' i f c
 | _=>exact ⟨M',j,d,c,b⟩
theorem AD {x y:Code} (I:Env->St->Prop) (hx:∀ K:Env->St->Prop,(∀ e s,I e s->K e s)->D8 P w0 n M0 W0 ro x (UX K Q) e st) (hy:∀ e s,I e s->D8 P w0 n M0 W0 ro y Q e s):D8 P w0 n M0 W0 ro (.seq x y) Q e st :=
 Am fun K a=>Zes (hx I fun _ _ h=>h) fun ex e s h=>by
  cases ex with
  | normal=>exact a e s (hy e s h)
  | _=>exact h
theorem Ar {id:Nat} {c:Code} (h:D8 P w0 n M0 W0 ro c (UP id Q) e st):D8 P w0 n M0 W0 ro (.block id c) Q e st:=by
 intro m M a w j
 refine wpIn_block (wpIn_mono (h m M a w j) ?_)
 rintro ex l k ⟨M',g,d,f,b⟩
 cases ex with
 | exit i =>
  simp only [UP] at b
  simp only [Exit.inBlock]
  split at b<;>rename_i hc
  ·rw [Ah hc];exact ⟨M',g,d,f,b⟩
  ·rw [Ai hc];exact ⟨M',g,d,f,b⟩
 | _=>exact ⟨M',g,d,f,b⟩
theorem A7 {c:Operand} {x y:Code} (b:Bool) (hc:AN e true c) (hb:Az e c = .val (.bool b)) (ht:b=true->D8 P w0 n M0 W0 ro x Q e st) (hf:b=false->D8 P w0 n M0 W0 ro y Q e st):D8 P w0 n M0 W0 ro (.cond c x y) Q e st:=by
 intro m M a w d
 have hv:=A5 d.rel hc
 rw [hb] at hv
 have ev:a.eval c = .bool b:=hv.val_inv.1
 exact wpIn_cond_split ev (fun h=>ht h m M a w d) (fun h=>hf h m M a w d)
theorem Nn (p:Nat->Prop) (h:∃ k,p k):∃ k,p k/\∀ m,p m->k<=m:=by
 obtain ⟨k,a⟩:=h
 induction k using Nat.strongRecOn with
 | _ k ih =>
  by_cases c:∃ m,m<k/\p m
  ·obtain ⟨m,b,d⟩:=c
   exact ih m b d
  ·exact ⟨k,a,fun m e=>by
    by_cases c':m<k
    ·exact absurd ⟨m,c',e⟩ c
    ·omega⟩
theorem AA {c:Code} (I:Nat->Env->St->Prop) (k0:Nat) (h0:I k0 e st) (round:∀ k e s,I k e s->∀ K:Env->St->Prop,(∀ k' e' s',k'<k->I k' e' s'->K e' s')->D8 P w0 n M0 W0 ro c (UX K Q) e s):D8 P w0 n M0 W0 ro (.loop c) Q e st:=by
 intro m M a w u
 let J:Nat->Act->World->Prop:=fun k d b=>∃ M' e' s',At w0 n M0 W0 e' s' d b M'/\I k e' s'
 let μ:Act->World->Nat:=fun d b=>by
  classical exact if h:∃ k,J k d b then Classical.choose (Nn (fun k=>J k d b) h) else 0
 have l:∀ d b k,J k d b->J (μ d b) d b/\μ d b<=k:=by
  intro d b k g
  have f:∃ k,J k d b:=⟨k,g⟩
  have:=Classical.choose_spec (Nn (fun k=>J k d b) f)
  have e:μ d b=Classical.choose (Nn (fun k=>J k d b) f):=by simp only [μ,dif_pos f]
  rw [e]
  exact ⟨this.1,this.2 k g⟩
 refine wpIn_loop (fun d b=>∃ k,J k d b) μ ⟨k0,M,e,st,u,h0⟩ ?_
 rintro a1 q ⟨k,g⟩
 obtain ⟨⟨M1,x,s1,y,r⟩,_⟩:=l a1 q k g
 refine wpIn_mono (round _ x s1 r (fun e' s'=>∃ k',k'<_/\I k' e' s') (fun k' _ _ i v=>⟨k',i,v⟩) m M1 a1 q y) ?_
 rintro ex d b ⟨M',e',s',i,p⟩
 cases ex with
 | normal =>
  obtain ⟨k',j,t⟩:=p
  have o:J k' d b:=⟨M',e',s',i,t⟩
  exact ⟨⟨k',o⟩,Nat.lt_of_le_of_lt (l d b k' o).2 j⟩
 | _=>exact ⟨M',e',s',i,p⟩
def Own.under (nr:Nat):Own->Prop
 | .row id=>id<nr
 | _=>True
inductive Under (nb nr nl:Nat):AV->Prop
 | val (v:Value):Under nb nr nl (.val v)
 | list {xs:List AV} {o:Own} (h:∀ x∈xs,Under nb nr nl x) (ho:o.under nr):Under nb nr nl (.list xs o)
 | elem {x:AV} {k:Nat} (h:Under nb nr nl x):Under nb nr nl (.elem x k)
 | box {l k:Nat} (h:l<nb):Under nb nr nl (.box l k)
 | clo {f:FuncId} {xs:List AV} (h:∀ x∈xs,Under nb nr nl x):Under nb nr nl (.clo f xs)
 | bnd {f:FuncId} {xs:List AV} (h:∀ x∈xs,Under nb nr nl x):Under nb nr nl (.bnd f xs)
 | agg {xs:List AV} (h:∀ x∈xs,Under nb nr nl x):Under nb nr nl (.agg xs)
 | tup {xs:List AV} (h:∀ x∈xs,Under nb nr nl x):Under nb nr nl (.tup xs)
 | yld {k:Nat} (h:k<nl):Under nb nr nl (.yld k)
 | mp {k:Nat} (h:k<nl):Under nb nr nl (.mp k)
 | tab {l:List (Int × FuncId)}:Under nb nr nl (.tab l)
 | vec {id ver o n:Nat} (h:id<nr):Under nb nr nl (.vec id ver o n)
 | vel {id ver o:Nat} (h:id<nr):Under nb nr nl (.vel id ver o)
theorem Eo {nb nr nl:Nat} (v:Value):Under nb nr nl (.val v)<->True:=iff_true_intro (.val v)
theorem Qe {nb nr nl:Nat} {xs:List AV} {o:Own}:Under nb nr nl (.list xs o)<->(∀ x∈xs,Under nb nr nl x)/\o.under nr:=⟨fun h=>by cases h with | list a b=>exact ⟨a,b⟩,fun h => .list h.1 h.2⟩
theorem PT {nb nr nl:Nat} {x:AV} {k:Nat}:Under nb nr nl (.elem x k)<->Under nb nr nl x:=⟨fun h=>by cases h;assumption,.elem⟩
theorem RU {nb nr nl l k:Nat}:Under nb nr nl (.box l k)<->l<nb:=⟨fun h=>by cases h;assumption,.box⟩
theorem O3 {nb nr nl:Nat} {f:FuncId} {xs:List AV}:Under nb nr nl (.clo f xs)<->∀ x∈xs,Under nb nr nl x:=⟨fun h=>by cases h;assumption,.clo⟩
theorem Ro {nb nr nl:Nat} {f:FuncId} {xs:List AV}:Under nb nr nl (.bnd f xs)<->∀ x∈xs,Under nb nr nl x:=⟨fun h=>by cases h;assumption,.bnd⟩
theorem Dm {nb nr nl:Nat} {xs:List AV}:Under nb nr nl (.agg xs)<->∀ x∈xs,Under nb nr nl x:=⟨fun h=>by cases h;assumption,.agg⟩
theorem Rt {nb nr nl:Nat} {xs:List AV}:Under nb nr nl (.tup xs)<->∀ x∈xs,Under nb nr nl x:=⟨fun h=>by cases h;assumption,.tup⟩
theorem We {nb nr nl k:Nat}:Under nb nr nl (.yld k)<->k<nl:=⟨fun h=>by cases h;assumption,.yld⟩
theorem Ya {nb nr nl k:Nat}:Under nb nr nl (.mp k)<->k<nl:=⟨fun h=>by cases h;assumption,.mp⟩
theorem Wy {nb nr nl id ver o n:Nat}:Under nb nr nl (.vec id ver o n)<->id<nr:=⟨fun h=>by cases h;assumption,.vec⟩
theorem V5 {nb nr nl id ver o:Nat}:Under nb nr nl (.vel id ver o)<->id<nr:=⟨fun h=>by cases h;assumption,.vel⟩
def Mem.cut (M:Mem) (nb nr nl:Nat):Mem:={ M with N:=nb,NR:=nr,NL:=nl }
theorem R.cut {M:Mem} {w:World} {v:Value} {x:AV} {nb nr nl:Nat} (hnl:nl<=M.NL) (h:R w0 M w v x) (hu:Under nb nr nl x):R w0 (M.cut nb nr nl) w v x:=by
 induction h with
 | flat h=>exact .flat h
 | agg hl c _ ih=>exact .agg hl c fun i a b=>ih i a b (Dm.1 hu _ (List.getElem_mem _))
 | tup hl _ ih=>exact .tup hl fun i a b=>ih i a b (Rt.1 hu _ (List.getElem_mem _))
 | nil ho=>exact .nil ho
 | emp ho=>exact .emp ho
 | @list b off cap xs o sz us hc hm hcell _ ho ih =>
  obtain ⟨c,e⟩:=Qe.1 hu
  refine .list sz us hc hm hcell (fun i d=>ih i d (c _ (List.getElem_mem _))) ?_
  cases o with
  | none=>trivial
  | full=>exact ho
  | seed=>exact ho
  | row id=>exact ⟨e,ho.2⟩
 | elem u k hcell _ ih=>exact .elem u k hcell (ih (PT.1 hu))
 | box _=>exact .box (M:=M.cut nb nr nl) (RU.1 hu)
 | clo hl _ ih=>exact .clo hl fun i a b=>ih i a b (O3.1 hu _ (List.getElem_mem _))
 | bnd hl _ ih=>exact .bnd hl fun i a b=>ih i a b (Ro.1 hu _ (List.getElem_mem _))
 | yld _=>exact .yld (M:=M.cut nb nr nl) (We.1 hu)
 | mp _=>exact .mp (M:=M.cut nb nr nl) (Ya.1 hu)
 | tab h hk hn=>exact .tab (M:=M.cut nb nr nl) h hk fun k q=>hn k (Nat.lt_of_lt_of_le q hnl)
 | vec d hv h=>exact .vec (M:=M.cut nb nr nl) (Wy.1 hu) hv h
 | vel d hv h=>exact .vel (M:=M.cut nb nr nl) (V5.1 hu) hv h
theorem R.under {M:Mem} {w:World} {v:Value} {x:AV} (h:R w0 M w v x):Under M.N M.NR M.NL x:=by
 have c:∀ {cs:Array Value} {xs:List AV},cs.size=xs.length->(∀ i (_:i<cs.size) (h2:i<xs.length),Under M.N M.NR M.NL xs[i])->∀ x∈xs,Under M.N M.NR M.NL x:=by
  intro cs xs a h x e
  obtain ⟨i,d,rfl⟩:=List.mem_iff_getElem.1 e
  exact h i (a▸d) d
 induction h with
 | flat h=>exact .val _
 | agg a h1 _ ih=>exact .agg (c a ih)
 | tup a _ ih=>exact .tup (c a ih)
 | nil ho=>exact .list (fun _ h=>by cases h) (by rename_i o;cases o<;>first | trivial | exact absurd rfl (ho _))
 | emp ho=>exact .list (fun _ h=>by cases h) (by rename_i o;cases o<;>first | trivial | exact absurd rfl (ho _))
 | @list b off cap xs o sz us hc hm hcell _ ho ih =>
  refine .list (fun x e=>?_) ?_
  ·obtain ⟨i,d,rfl⟩:=List.mem_iff_getElem.1 e
   exact ih i d
  ·cases o with
   | row id=>exact ho.1
   | _=>trivial
 | elem u k hcell _ ih=>exact .elem ih
 | box h=>exact .box h
 | clo a _ ih=>exact .clo (c a ih)
 | bnd a _ ih=>exact .bnd (c a ih)
 | yld h=>exact .yld h
 | mp h=>exact .mp h
 | tab _ _ _=>exact .tab
 | vec d _ _=>exact .vec d
 | vel d _ _=>exact .vel d
def IA (nb nr nl:Nat):Env->Prop
 | []=>True
 | (_,c,v)::e=>(c=true->Under nb nr nl v)/\IA nb nr nl e
theorem Uc {nb nr nl:Nat}:∀ {e:Env} {s:Nat} {x:Bool × AV},IA nb nr nl e->look e s=some x->x.1=true->Under nb nr nl x.2
 | (k,c,v)::e,s,x,h,hl,ht=>by
  simp only [look] at hl
  by_cases q:k=s
  ·rw [Ah q] at hl;cases hl;exact h.1 ht
  ·rw [Ai q] at hl;exact Uc h.2 hl ht
def St.cut (s:St) (nb nr nl:Nat):St:=⟨s.boxes.take nb,s.rows.take nr,s.loops.take nl⟩
def RowA.cells:RowA->List AV
 | .vec _ _ cs=>cs
 | _=>[]
structure Calm (nb nr nl:Nat) (s:St):Prop where
 rows:∀ r∈s.rows,∀ x∈r.cells,Under nb nr nl x
 boxes:∀ cs∈s.boxes,∀ x∈cs,Under nb nr nl x
 loops:∀ la∈s.loops,∀ k x,look la.e k=some x->x.1=true->Under nb nr nl x.2
theorem RelSt.calm {M:Mem} {w:World} (h:RelSt w0 M st w):Calm st.boxes.length st.rows.length st.loops.length st where
 rows:=by
  intro r n x hx
  obtain ⟨l,b,rfl⟩:=List.mem_iff_getElem.1 n
  have m:=h.row l _ (List.getElem?_eq_getElem b)
  cases hrow:st.rows[l] with
  | vec ver sz cs =>
   rw [hrow] at m hx
   obtain ⟨_,_,_,_,_,_,_,c,_,_,_,a,_,f⟩:=m
   obtain ⟨i,d,rfl⟩:=List.mem_iff_getElem.1 hx
   have g:i<cs.length:=d
   have:=(f i (by omega) g).under
   rwa [h.N,h.NR,h.loop.NL] at this
  | _=>rw [hrow] at hx;cases hx
 boxes:=by
  intro cs j x hx
  obtain ⟨l,b,rfl⟩:=List.mem_iff_getElem.1 j
  obtain ⟨_,_,c,_,_,a,_,f⟩:=h.box l _ (List.getElem?_eq_getElem b)
  obtain ⟨i,d,rfl⟩:=List.mem_iff_getElem.1 hx
  have:=(f i (a▸d) d).under
  rwa [h.N,h.NR,h.loop.NL] at this
 loops:=by
  intro p e k x hx o
  obtain ⟨l,b,rfl⟩:=List.mem_iff_getElem.1 e
  have:=(h.loop.record l _ (List.getElem?_eq_getElem b)).2.ent k x hx
  obtain ⟨v,this⟩:=this
  unfold entryOk at this
  rw [Ah o] at this
  have:=this.under
  rwa [h.N,h.NR,h.loop.NL] at this
theorem entryOk.cut {M:Mem} {w:World} {nb nr nl:Nat} (hnl:nl<=M.NL) {v:Value} {x:Bool × AV} (h:entryOk w0 M w v x) (hu:x.1=true->Under nb nr nl x.2):entryOk w0 (M.cut nb nr nl) w v x:=by
 unfold entryOk at *
 split
 ·rename_i c;rw [Ah c] at h;exact h.cut hnl (hu c)
 ·rename_i c;rw [Ai c] at h;exact h
theorem RelSt.cut {M:Mem} {w:World} (h:RelSt w0 M st w) {nb nr nl:Nat} (h1:nb<=st.boxes.length) (h2:nr<=st.rows.length) (h3:nl<=st.loops.length) (hc:Calm nb nr nl (st.cut nb nr nl)) :
  RelSt w0 (M.cut nb nr nl) (st.cut nb nr nl) w where
 below:=h.below
 N:=by simp [Mem.cut,St.cut];omega
 NR:=by simp [Mem.cut,St.cut];omega
 top:=h.top
 inj:=fun l F k H e=>h.inj l F (by have:=h.N;simp only [Mem.cut] at k;omega) (by have:=h.N;simp only [Mem.cut] at H;omega) e
 box:=fun l cs f=>by
  simp only [St.cut] at f
  have p:l<nb:=by
   have:=(Aj.1 f).1
   simp at this;omega
  have a:cs∈st.boxes.take nb:=List.mem_of_getElem? f
  rw [List.getElem?_take_of_lt p] at f
  obtain ⟨a1,a2,c,u,a3,a4,a5,a6⟩:=h.box l cs f
  exact ⟨a1,a2,c,u,a3,a4,a5,fun i r o=>(a6 i r o).cut (by have:=h.loop.NL;omega) (hc.boxes cs a _ (List.getElem_mem _))⟩
 row:=fun id x g=>by
  simp only [St.cut] at g
  have D:id<nr:=by
   have:=(Aj.1 g).1
   simp at this;omega
  have a:x∈st.rows.take nr:=List.mem_of_getElem? g
  rw [List.getElem?_take_of_lt D] at g
  have d:=h.row id x g
  have b:nb<=M.N:=by have:=h.N;omega
  cases x with
  | grow n sz =>
   obtain ⟨a1,a2,a3,a4,a5,a6,a7,E⟩:=d
   exact ⟨a1,a2,a3,a4,fun l f=>a5 l (Nat.lt_of_lt_of_le f b),a6,a7,E⟩
  | vec v sz cs =>
   obtain ⟨a1,a2,a3,a4,a5,a6,a7,c,u,E,y,r,o,G⟩:=d
   exact ⟨a1,a2,a3,a4,fun l f=>a5 l (Nat.lt_of_lt_of_le f b),a6,a7,c,u,E,y,r,o,fun i h1 h2=>(G i h1 h2).cut (by have:=h.loop.NL;omega) (hc.rows _ a _ (List.getElem_mem _))⟩
  | dead v =>
   obtain ⟨a1,a2,a3,a4⟩:=d
   exact ⟨a1,a2,fun l f=>a3 l (Nat.lt_of_lt_of_le f b),a4⟩
 rowinj:=fun i j C t e=>h.rowinj i j (by have:=h.NR;simp only [Mem.cut] at C;omega) (by have:=h.NR;simp only [Mem.cut] at t;omega) e
 loop:={
  NL:=by simp [Mem.cut,St.cut];omega
  inj:=fun i j C t e=>h.loop.inj i j (by have:=h.loop.NL;simp only [Mem.cut] at C;omega) (by have:=h.loop.NL;simp only [Mem.cut] at t;omega) e
  record:=fun k m g=>by
   simp only [St.cut] at g
   have z:k<nl:=by
    have:=(Aj.1 g).1
    simp at this;omega
   have a:m∈st.loops.take nl:=List.mem_of_getElem? g
   rw [List.getElem?_take_of_lt z] at g
   obtain ⟨a1,a2⟩:=h.loop.record k m g
   exact ⟨a1,a2.map (fun _ q _=>q) fun s x v hs y=>y.cut (by have:=h.loop.NL;omega) (hc.loops m a s x hs)⟩ }
theorem Ext.cut {M1:Mem} {w1 w2:World} {M2:Mem} (h:Ext w0 M1 w1 M2 w2) {nb nr nl:Nat} (h1:M1.N<=nb) (h2:M1.NR<=nr) (h3:M1.NL<=nl) (h4:nl<=M2.NL) (h5:nb<=M2.N) (h6:nr<=M2.NR):Ext w0 M1 w1 (M2.cut nb nr nl) w2 :=
 ⟨h1,h.bx,h2,h.rows,h.cell,h.size,h3,h.lb,fun k a b=>h.lnew k a (Nat.lt_of_lt_of_le b h4),h.objs,fun b q1 q2=>by
  obtain ⟨a1,a2,a3⟩:=h.keep b q1 q2
  exact ⟨a1,⟨fun l d=>a2.1 l (Nat.lt_of_lt_of_le d h5),fun i e=>a2.2.1 i (Nat.lt_of_lt_of_le e h6),fun k c=>a2.2.2 k (Nat.lt_of_lt_of_le c h4)⟩,a3⟩⟩
theorem Rel.cut {M:Mem} {a:Act} {w:World} (h:Rel w0 n M e st a w) {nb nr nl:Nat} (h1:nb<=st.boxes.length) (h2:nr<=st.rows.length) (h3:nl<=st.loops.length) (hc:Calm nb nr nl (st.cut nb nr nl)) (he:IA nb nr nl e) :
  Rel w0 n (M.cut nb nr nl) e (st.cut nb nr nl) a w :=
 ⟨h.st.cut h1 h2 h3 hc,h.size,fun s x hs=>(h.env s x hs).cut (by have:=h.st.loop.NL;omega) (Uc he hs)⟩
theorem TJ {c:Code} (nb nr nl:Nat) (h1:nb<=st.boxes.length) (h2:nr<=st.rows.length) (h3:nl<=st.loops.length) (k1:M0.N<=nb) (k2:M0.NR<=nr) (k3:M0.NL<=nl) (hc:Calm nb nr nl (st.cut nb nr nl)) (he:IA nb nr nl e)
  (h:D8 P w0 n M0 W0 ro c Q e (st.cut nb nr nl)):D8 P w0 n M0 W0 ro c Q e st :=
 fun m M a w b=>h m _ a w ⟨b.rel.cut h1 h2 h3 hc he,b.ext.cut k1 k2 k3 (by rw [b.rel.st.loop.NL];exact h3) (by rw [b.rel.st.N];exact h1) (by rw [b.rel.st.NR];exact h2),b.marks⟩
end
section
variable {P:Program} {w0:World} {n:Nat} {M:Mem} {e:Env} {st:St} {a:Act} {w:World}
def U8 (P:Program) (e:Env) (st:St):ResultVar->Prop
 | .tmp t=>AN e true (.tmp t)
 | .cell t ty=>(A6 P e true st (.load ty (.tmp t))).1
def QV (P:Program) (e:Env) (st:St):ResultVar->AV
 | .tmp t=>(Az e (.tmp t)).pub
 | .cell t ty=>(A6 P e true st (.load ty (.tmp t))).2.1.pub
def XJ:List AV->AV
 | [x]=>x
 | l => .tup l
def Zd8 (P:Program) (rs:List ResultVar) (Post:AV->St->Prop):AQ:=fun x e st =>
 match x with
 | .normal | .ret=>(∀ r∈rs,U8 P e st r)/\Post (XJ (rs.map (QV P e st))) st
 | _=>False
theorem Ur (h:Rel w0 n M e st a w) (t:TypeId) (x:Operand) (hob:(A6 P e true st (.load t x)).1) :
  ∃ v,(do loadVar t (<- asAddr (a.eval x)):Sem Value).run P w = .ok v w/\R w0 M w v (A6 P e true st (.load t x)).2.1:=by
 unfold A6 at hob ⊢
 cases ht:GT P t with
 | none=>simp [ht] at hob
 | some p =>
  obtain ⟨sz,r⟩:=p
  simp only [ht] at hob ⊢
  obtain ⟨C,z,k,m⟩:=hob
  obtain ⟨b,o,ev,d,q⟩:=Ye h.st (A5 h C) z
  rw [ev]
  have g:∀ j,j<sz->∃ u,w.cell? ⟨b,o+EE (Az e x)+j,none⟩=some u/\∀ c,R w0 M w u ((Bi st (Az e x))[EE (Az e x)+j]'c):=by
   intro j c
   obtain ⟨u,D,y⟩:=q (EE (Az e x)+j) (by omega)
   exact ⟨u,by rw [<-D,Nat.add_assoc],fun _=>y⟩
  let f:Nat->Value:=fun j=>((w.cell? ⟨b,o+EE (Az e x)+j,none⟩).getD undef)
  have s:∀ j,j<sz->w.cell? ⟨b,o+EE (Az e x)+j,none⟩=some (f j):=fun j c=>by
   obtain ⟨u,i,_⟩:=g j c
   simp [f,i]
  refine ⟨if r then .agg ((List.range sz).map f).toArray else f 0,?_,(QF d k m (fun j c=>?_))⟩
  ·simp only [asAddr,Sem.run_bind,Sem.run_pure,Result.andThen_ok]
   exact QE ht s m
  ·by_cases hjs:j<sz
   ·obtain ⟨u,i,l⟩:=g j hjs
    have:f j=u:=by simp [f,i]
    rw [this]
    exact l c
   ·obtain ⟨u,i,l⟩:=q (EE (Az e x)+j) c
    have:f j=u:=by simp [f,Nat.add_assoc,i]
    rw [this]
    exact l
theorem Ou {α:Type} (f:α->Sem Value) (g:α->Value):∀ (l:List α),(∀ x∈l,(f x).run P w = .ok (g x) w)->(l.mapM f).run P w = .ok (l.map g) w
 | [],_=>by simp
 | x::l,h=>by simp [h x (by simp),Ou f g l (fun y a=>h y (by simp [a]))]
theorem UC {V:ResultVar->AV} (rs:List ResultVar) (g:ResultVar->Value) (hg:∀ r∈rs,R w0 M w (g r) (V r)) :
  R w0 M w (if h:(rs.map g).toArray.size=1 then (rs.map g).toArray[0] else .tuple (rs.map g).toArray) (XJ (rs.map V)):=by
 match rs,hg with
 | [],_=>exact .tup rfl (fun i a _=>absurd a (by simp))
 | [r],hg=>exact (hg r (by simp))
 | r::r'::l,hg =>
  have:¬ ((List.map g (r::r'::l)).toArray.size=1):=by simp
  rw [dif_neg this]
  refine .tup (by simp) (fun i a b=>?_)
  have e:i<(r::r'::l).length:=by simpa using b
  have d:(List.map g (r::r'::l)).toArray[i]=g (r::r'::l)[i]:=by rw [List.getElem_toArray,List.getElem_map]
  have c:(List.map V (r::r'::l))[i]'b=V (r::r'::l)[i]:=by rw [List.getElem_map]
  have:=(hg (r::r'::l)[i] (List.getElem_mem _))
  rw [<-d,<-c] at this
  exact this
theorem ZbD (h:Rel w0 n M e st a w) {fn:Func} {rs:List ResultVar} (hfn:fn.results=rs.toArray) (hrs:∀ r∈rs,U8 P e st r) :
  ∃ v,(results fn a.tmps).run P w = .ok v w/\R w0 M w v (XJ (rs.map (QV P e st))):=by
 let f:ResultVar->Sem Value:=fun
  | .tmp t=>pure (a.tmps.getD t undef)
  | .cell b t=>do loadVar t (<- asAddr (a.tmps.getD b undef))
 have c:∀ r∈rs,∃ v,(f r).run P w = .ok v w/\R w0 M w v (QV P e st r):=by
  intro r d
  have:=hrs r d
  cases r with
  | tmp t=>exact ⟨_,rfl,(A5 h (x := .tmp t) this).pub⟩
  | cell b t =>
   obtain ⟨v,l,m⟩:=Ur h t (.tmp b) this
   exact ⟨v,l,m.pub⟩
 classical
 let g:ResultVar->Value:=fun r=>if d:r∈rs then Classical.choose (c r d) else undef
 have j:∀ r∈rs,(f r).run P w = .ok (g r) w/\R w0 M w (g r) (QV P e st r):=by
  intro r d
  have:=Classical.choose_spec (c r d)
  have e:g r=Classical.choose (c r d):=by simp only [g,dif_pos d]
  rw [e];exact this
 have k:(fn.results.mapM f).run P w = .ok ((rs.map g).toArray) w:=by
  rw [hfn,Array.mapM_eq_mapM_toList]
  simp only [Sem.run_map,Ou f g rs (fun r d=>(j r d).1),Result.andThen_ok]
 have i:(results fn a.tmps).run P w = .ok (if h:(rs.map g).toArray.size=1 then (rs.map g).toArray[0] else .tuple (rs.map g).toArray) w:=by
  unfold results
  simp only [Sem.run_bind]
  refine Eq.trans (congrArg (fun x=>Result.andThen x _) k) ?_
  simp only [Result.andThen_ok,Sem.run_pure]
 refine ⟨_,i,?_⟩
 exact UC rs g fun r d=>(j r d).2
def Ax:Nat->List AV->Env
 | _,[]=>[]
 | k,x::l=>(k,true,x)::Ax (k+1) l
theorem PY:∀ (l:List AV) (k s:Nat) (x:Bool × AV),look (Ax k l) s=some x->∃ i,s=k+i/\∃ y,l[i]? = some y/\x=(true,y)
 | [],_,_,_,h=>by cases h
 | y::l,k,s,x,h=>by
  simp only [Ax,look] at h
  by_cases c:k=s
  ·rw [Ah c] at h;cases h;exact ⟨0,c.symm,y,rfl,rfl⟩
  ·rw [Ai c] at h
   obtain ⟨i,d,z,b,a⟩:=PY l (k+1) s x h
   exact ⟨i+1,by omega,z,b,a⟩
theorem M6 {M0:Mem} {W0:World} {fn:Func} {RR:Ending->World->Prop} {m:Nat} {tmps:Array Value}:∀ (Ds:List Nat) (M:Mem) (w:World),Ds.Nodup->(∀ D∈Ds,W0.heap.size<=D/\w.heap[D]? = some (.deferred (some []))) ->
  W0.heap.size>=w0.heap.size->RelSt w0 M st w->Ext w0 M0 W0 M w ->
  (∀ w',RelSt w0 M st w'->Ext w0 M0 W0 M w'->(∀ v x,R w0 M w v x->R w0 M w' v x)->∃ v,(results fn tmps).run P w' = .ok v w'/\RR (.returned v) w') ->
  LeavesInM (FW none) m P fn tmps RR (Ds.map fun D=>{ target := .collected D,args := #[] }) .returning w
 | [],M,w,_,_,_,hr,hx,hk=>hk w hr hx fun _ _ h=>h
 | D::Ds,M,w,hn,hD,hw,hr,hx,hk=>by
  obtain ⟨G,d2⟩:=hD D (by simp)
  have n:∀ k,k<M.NL->M.lb k≠D:=by
   intro k p e
   have c:k<st.loops.length:=by rw [<-hr.loop.NL];exact p
   obtain ⟨_,i⟩:=hr.loop.record k _ (List.getElem?_eq_getElem c)
   rw [e] at i
   exact i.nodef d2
  have hs:TX M w (w.putObj D (.deferred none)):=⟨fun b d v=>LI d2 rfl,fun b H F hb _=>by rw [World.putObj_heap_other (fun e=>by subst e;rw [d2] at hb;cases hb)];exact hb⟩
  have l:Ext w0 M0 W0 M (w.putObj D (.deferred none)) :=
   ⟨hx.N,hx.bx,hx.NR,hx.rows,fun b d v j q=>let ⟨a,b'⟩:=hx.cell b d v j q;⟨hs.1 _ _ _ a,b'⟩,by have:=hx.size;simpa using this,hx.NL,hx.lb,hx.lnew,fun b o j q t=>by
    have hb:b<W0.heap.size:=(Array.getElem?_eq_some_iff.1 j).1
    rw [World.putObj_heap_other (by omega)]
    exact hx.objs b o j q t,fun b q1 q2=>by
    obtain ⟨a1,a2⟩:=hx.keep b q1 q2
    rw [World.putObj_heap_other (by omega)]
    exact ⟨a1,a2⟩⟩
  refine ⟨by simp,.inl ⟨D,_,rfl,run_takeDeferred d2,?_⟩⟩
  have f:=List.nodup_cons.1 hn
  refine M6 Ds M _ f.2 (fun E r=>?_) hw (hr.putObj _ d2 (by omega) n) l (fun w' u y s=>hk w' u y fun v x h=>s v x (h.same hs))
  obtain ⟨z,C⟩:=hD E (List.mem_cons_of_mem _ r)
  have g:E≠D:=fun e=>f.1 (by rw [<-e];exact r)
  exact ⟨z,by rw [World.putObj_heap_other g];exact C⟩
theorem B7 {f:FuncId} {fn:Func} {c:Code} {args:List AV} {rs:List ResultVar} {Post:AV->St->Prop} (hf:P.funcs[f]? = some fn) (hb:fn.body=some c) (hrs:fn.results=rs.toArray) (hn:fn.ntmps=n)
  (hen:Jh P f) (ha:args.length<=n)
  (h:∀ (M0:Mem) (W0:World),M0.N=st.boxes.length->M0.NR=st.rows.length->M0.NL=st.loops.length->Calm st.boxes.length st.rows.length st.loops.length st->(∀ x∈args,Under st.boxes.length st.rows.length st.loops.length x) ->
   D8 P w0 n M0 W0 none c (Zd8 P rs Post) (Ax 0 args) st):ACalls P w0 f args st Post:=by
 refine ⟨hen,fun M w a b d=>?_⟩
 have G:a.size=args.length:=d.1
 have F:∀ x∈args,Under st.boxes.length st.rows.length st.loops.length x:=by
  intro x E
  obtain ⟨i,C,rfl⟩:=List.mem_iff_getElem.1 E
  have:=(d.get (i:=i) (Array.getElem?_eq_getElem (by omega)) (List.getElem?_eq_getElem C)).under
  rwa [b.N,b.NR,b.loop.NL] at this
 have l:Rel w0 n M (Ax 0 args) st { tmps:=a++Array.replicate (fn.ntmps-a.size) undef,defers:=[] } w:=by
  refine ⟨b,by simp;omega,fun s x hs=>?_⟩
  obtain ⟨i,j,y,D,rfl⟩:=PY _ _ _ _ hs
  have C:i<args.length:=(Aj.1 D).1
  have hs':s=i:=by omega
  subst hs'
  simp only [entryOk,if_true]
  have K:(a++Array.replicate (fn.ntmps-a.size) undef).getD s undef=a[s]'(by omega):=by
   simp [Array.getD_eq_getD_getElem?,Array.getElem?_append_left (show s<a.size by omega),Array.getElem?_eq_getElem (show s<a.size by omega)]
  rw [K]
  exact d.get (Array.getElem?_eq_getElem (by omega)) D
 refine SK (n:=0) (callsIn_of_wp_marks hf hb trivial (wpIn_mono (h M w b.N b.NR b.loop.NL b.calm F 0 M _ w ⟨l,.refl _ _ _,[],by simp⟩) ?_))
 rintro ex o u ⟨M',p,m,j,k⟩
 have e:∀ (z:∀ r∈rs,U8 P p m r) (t:Post (XJ (rs.map (QV P p m))) m),
   LeavesInM (FW none) 0 P fn o.tmps (Comes' w0 M w Post) o.defers .returning u:=by
  intro z t
  obtain ⟨Ds,m1,m2,O⟩:=j.marks
  rw [m2]
  refine M6 Ds M' u m1 O b.base_le j.rel.st j.ext fun J q H k3=>?_
  have g:Rel w0 n M' p m o J:=⟨q,j.rel.size,fun s x hs=>by
   have:=j.rel.env s x hs
   unfold entryOk at *
   split
   ·rename_i c;rw [Ah c] at this;exact k3 _ _ this
   ·rename_i c;rw [Ai c] at this;exact this⟩
  obtain ⟨v,q1,q2⟩:=ZbD g hrs z
  exact ⟨v,q1,v,M',_,m,rfl,t,H,q,q2⟩
 cases ex with
 | normal=>exact e k.1 k.2
 | ret=>exact e k.1 k.2
 | _=>exact k.elim
def Znz (st:St) (Post:AV->St->Prop) (r:AV) (s:St):Prop :=
 st.boxes.length<=s.boxes.length/\st.rows.length<=s.rows.length/\st.loops.length<=s.loops.length/\Calm st.boxes.length st.rows.length st.loops.length (s.cut st.boxes.length st.rows.length st.loops.length) /\
  Under st.boxes.length st.rows.length st.loops.length r/\Post r (s.cut st.boxes.length st.rows.length st.loops.length)
theorem ACalls.fin {f:FuncId} {args:List AV} {Post:AV->St->Prop} (h:ACalls P w0 f args st (Znz st Post)):ACalls P w0 f args st Post:=by
 refine ⟨h.1,fun M w b a c=>(h.2 M w b a c).mono ?_⟩
 rintro en n ⟨v,M',r,j,l,⟨e,g,d,m,i,k⟩,h3,h4,h5⟩
 exact ⟨v,M'.cut st.boxes.length st.rows.length st.loops.length,r,_,l,k,h3.cut (by have:=a.N;omega) (by have:=a.NR;omega) (by have:=a.loop.NL;omega) (by rw [h4.loop.NL];exact d) (by rw [h4.N];exact e) (by rw [h4.NR];exact g),h4.cut e g d m,h5.cut (by have:=h4.loop.NL;omega) i⟩
theorem enters_of {f:FuncId} {fn:Func} {c:Code} (hf:P.funcs[f]? = some fn) (hb:fn.body=some c) (hn:fn.name ≠ "runtime.NumGoroutine"):Jh P f:=by
 intro args w
 simp [callFunc,hf,hb,hn]
end
section
variable {P:Program} {w0:World} {n:Nat}
def Ym (P:Program) (w0:World) (e1:Env) (c:Bool) (st:St) (o:Oper) (v:AV):Prop :=
 match o.op with
 | .call ⟨.value f,args,_⟩=>c=true->AN e1 true f/\(∀ x∈args.toList,AN e1 true x)/\NN P w0 (Az e1 f) (args.toList.map fun x=>argP e1 (Az e1 x)) st fun r s=>r=v/\s=st
 | op=>(c=true->(A6 P e1 c st op).1)/\(A6 P e1 c st op).2.1=v/\(A6 P e1 c st op).2.2=st
theorem S1 {e1:Env} {c:Bool} {st:St} {o:Oper} {v:AV} (hc:¬ LD o.op=true) :
  Ym P w0 e1 c st o v=((c=true->(A6 P e1 c st o.op).1)/\(A6 P e1 c st o.op).2.1=v/\(A6 P e1 c st o.op).2.2=st):=by
 obtain ⟨g,op,d,e,b,a⟩:=o
 cases op with
 | call cc =>
  obtain ⟨callee,args,ts⟩:=cc
  cases callee with
  | value f=>exact absurd rfl hc
  | _=>rfl
 | _=>rfl
theorem Tf {M:Mem} {e1:Env} {st:St} {a:Act} {w:World} (h:Rel w0 n M e1 st a w) (ro:Option Nat) (m:Nat) {all:List Oper} {o:Oper} {v:AV} (hg:Kq all e1 o.guard) (hv:Ym P w0 e1 (C5 all e1 o.guard) st o v)
  (Q:Exit->Act->World->Prop) (K:Act->World->Prop) (hK:∀ u w' M',Ext w0 M w M' w'->RelSt w0 M' st w'->entryOk w0 M' w' u (C5 all e1 o.guard,v)->K (a.put o.dst u) w') :
  if Region.wanted o (yielded all.toArray a.tmps) then o.wpIn (FW ro) m P a w K Q else (∀ f,o.about P w a.eval=some f->(FW ro).fn f)/\K (a.put o.dst undef) w:=by
 rw [LL h hg]
 cases hcc:C5 all e1 o.guard with
 | true =>
  rw [hcc] at hv hK
  rw [Ah rfl]
  by_cases hc:LD o.op=true
  ·obtain ⟨dst,op,l,q,j,guard⟩:=o
   cases op<;>try cases hc
   rename_i cc
   obtain ⟨callee,args,ts⟩:=cc
   cases callee<;>try cases hc
   rename_i f
   obtain ⟨i,k,d⟩:=hv rfl
   refine KF h ro m i k d Q _ (fun r s p u w' M' e b c=>?_)
   obtain ⟨rfl,rfl⟩:=p
   exact hK u w' M' e b c
  ·rw [S1 hc] at hv
   obtain ⟨i,k,d⟩:=hv
   refine Ry h ro m o (i rfl) Q _ (fun u w' M' e b c=>?_)
   rw [d] at b
   rw [k] at c
   exact hK u w' M' e b c
 | false =>
  rw [hcc] at hK
  rw [Ai (by simp)]
  exact ⟨fun g _=>PP ro g,hK undef w M (.refl _ _ _) h.st rfl⟩
structure Trail (P:Program) (w0:World) (n:Nat) (all os:List Oper) (e:Env) (st:St) (E:Nat->Env) (C:Nat->Bool) (V:Nat->AV):Prop where
 zero:E 0=e
 step:∀ j o,os[j]? = some o->E (j+1)=IX (E j) o.dst (C j) (V j)/\Kq all (CV true all o (E j)) o.guard/\IB n o.dst/\C5 all (CV true all o (E j)) o.guard=C j /\
  Ym P w0 (CV true all o (E j)) (C j) st o (V j)
theorem Vs {all os:List Oper} {e:Env} {st:St} {o:Oper} {E:Nat->Env} {C:Nat->Bool} {V:Nat->AV} {v:AV} (hg:Kq all (CV true all o e) o.guard) (hd:IB n o.dst)
  (ho:Ym P w0 (CV true all o e) (C5 all (CV true all o e) o.guard) st o v) (T:Trail P w0 n all os (IX e o.dst (C5 all (CV true all o e) o.guard) v) st E C V) :
  Trail P w0 n all (o::os) e st (fun | 0=>e | j+1=>E j) (fun | 0=>C5 all (CV true all o e) o.guard | j+1=>C j) (fun | 0=>v | j+1=>V j):=by
 refine ⟨rfl,fun j q hq=>?_⟩
 cases j with
 | zero =>
  simp only [List.getElem?_cons_zero,Option.some.injEq] at hq
  subst hq
  exact ⟨T.zero,hg,hd,rfl,ho⟩
 | succ j =>
  simp only [List.getElem?_cons_succ] at hq
  exact T.step j q hq
theorem QJ {all:List Oper} {st:St} {KK:Env->St->Prop}:∀ (c:Nat) (os:List Oper) (e:Env),RQ P w0 n true all KK c os e st->∃ E C V,Trail P w0 n all os e st E C V/\KK (E os.length) st
 | 0,_,_,h=>h.elim
 | c+1,os,e,h=>by
  have r:∀ (os:List Oper) (e:Env),evS P w0 n true all (RQ P w0 n true all KK c) KK os e st->∃ E C V,Trail P w0 n all os e st E C V/\KK (E os.length) st:=by
   intro os
   induction os with
   | nil=>exact fun e h=>⟨fun _=>e,fun _=>false,fun _ => .junk,⟨rfl,fun j o x=>by simp at x⟩,h⟩
   | cons o os ih =>
    intro e h
    by_cases hc:LD o.op=true
    ·obtain ⟨p,op,l,q,k,b⟩:=o
     cases op<;>try cases hc
     rename_i cc
     obtain ⟨callee,args,ts⟩:=cc
     cases callee<;>try cases hc
     rename_i f
     simp only [evS] at h
     obtain ⟨s,hd,m,w⟩:=h
     rcases w with ⟨v,k1,k2⟩ | ⟨hf,_⟩
     ·obtain ⟨E,C,V,T,d⟩:=QJ c os _ k2
      exact ⟨_,_,_,Vs s hd (fun g=>⟨(m g).1,(m g).2,k1 g⟩) T,d⟩
     ·cases hf
    by_cases hgl:ZjI o.op=true
    ·obtain ⟨p,op,l,q,k,b⟩:=o
     cases op<;>try cases hgl
     rename_i t y
     cases y<;>try cases hgl
     simp only [evS] at h
     exact absurd h.2.2.1.1 (by simp)
    ·rw [Wa hc hgl] at h
     obtain ⟨s,hd,m,u,a⟩:=h
     have i:=u (.inr rfl)
     simp only at i
     rw [i] at a
     obtain ⟨E,C,V,T,d⟩:=ih _ a
     exact ⟨_,_,_,Vs s hd (by rw [S1 hc];exact ⟨m,rfl,i⟩) T,d⟩
  exact r os e h
theorem NM {all os:List Oper} {e:Env} {st:St} {E:Nat->Env} {C:Nat->Bool} {V:Nat->AV} (T:Trail P w0 n all os e st E C V)
  (uniq:∀ (i j:Nat) (o p:Oper) (s:Nat),os[i]? = some o->os[j]? = some p->o.dst=some s->p.dst=some s->i=j) (s:Nat):∀ j,j<=os.length ->
  ((∀ i o,i<j->os[i]? = some o->o.dst≠some s)->look (E j) s=look e s)/\(∀ i o,i<j->os[i]? = some o->o.dst=some s->look (E j) s=some (C i,V i))
 | 0,_=>⟨fun _=>by rw [T.zero],fun i o h=>absurd h (by omega)⟩
 | j+1,hj=>by
  obtain ⟨g,f⟩:=NM T uniq s j (by omega)
  have ho:os[j]? = some os[j]:=List.getElem?_eq_getElem (by omega)
  have a:=(T.step j _ ho).1
  have b:os[j].dst≠some s->look (E (j+1)) s=look (E j) s:=by
   intro b
   rw [a]
   cases hd:os[j].dst with
   | none=>rfl
   | some d =>
    rw [hd] at b
    simp only [IX,look]
    rw [Ai (fun h=>b (by rw [h]))]
  refine ⟨fun h=>?_,fun i o k hio hd=>?_⟩
  ·rw [b (h j _ (by omega) ho)]
   exact g fun i o k=>h i o (by omega)
  ·by_cases c:i=j
   ·subst c
    rw [ho] at hio
    cases hio
    rw [a,hd]
    simp only [IX,look,if_true]
   ·rw [b (fun h=>c (uniq i j o _ s hio ho hd h))]
    exact f i o (by omega) hio hd
theorem OH {F:Fence} {m:Nat} {md:Region.Mode} {ops:Array Oper} {Q':Exit->Act->World->Prop}:∀ (l:List Oper) (k:Nat) (listed:Array Bool) (a:Act) (w:World),(∀ j,l[j]? = ops[k+j]?) ->
  Region.seqB md ops l.length k listed=true->wpListIn F m P ops Q' l a w->wpAnyIn F m P md ops Q' l.length listed a w
 | [],_,_,_,_,_,hB,h=>⟨by simpa [Region.seqB] using hB,h⟩
 | o::l,k,listed,a,w,hl,hB,h=>by
  have c:ops[k]? = some o:=by simpa using (hl 0).symm
  simp only [List.length_cons,Region.seqB,Bool.and_eq_true,decide_eq_true_eq] at hB
  refine ⟨fun h1=>(by rw [hB.1] at h1;cases h1),fun i hi=>?_⟩
  rw [hB.1] at hi
  have hik:i=k:=by simpa using hi
  subst hik
  have f:wpOpIn F m P ops Q' i (wpListIn F m P ops Q' l) a w:=by unfold wpOpIn;simp only [c];exact h
  exact wpOpIn_mono (fun e d b=>OH l (i+1) _ e d (fun j=>by have:=hl (j+1);simpa [Nat.add_assoc,Nat.add_comm 1 j] using this) hB.2 b) f
def WJ (o:Oper) (j:Nat):Bool:=o.after.any fun e=>Region.binds .any e&&e.on == j
theorem SU {o:Oper} {j:Nat} (h:WJ o j=true):∃ e∈o.after,Region.binds .any e=true/\e.on=j:=by
 obtain ⟨e,b,a⟩:=Array.any_eq_true'.1 h
 simp only [Bool.and_eq_true,beq_iff_eq] at a
 exact ⟨e,b,a.1,a.2⟩
def Zir (l:List Oper) (i j:Nat) (o p:Oper):Bool :=
 match p.dst with
 | some s=>(decide (i=j)||o.dst != some s)&&(!(looks l o).contains s||(decide (j<i)&&WJ o j))
 | none=>true
def Zib (l:List Oper) (h:Nat):Bool :=
 (List.range h).all fun i=>match l[i]? with
  | some o=>(o.after.toList.all fun e => !Region.binds .any e||decide (e.on<i))&&(List.range h).all fun j=>match l[j]? with
   | some p=>Zir l i j o p
   | none=>true
  | none=>true
def Zlj (l:List Oper) (h:Nat):Bool :=
 (List.range (l.length-h)).all fun k=>(List.range (h+k)).all fun j=>(List.range (h+k+1)).any fun q=>decide (j<q)&&(match l[q]? with | some o=>WJ o j | none=>false)
def Wi (l:List Oper) (h:Nat):Bool :=
 decide (h<=l.length)&&Zib l h&&Zlj l h&&Region.seqB .any l.toArray (l.length-h) h (Array.replicate h true++Array.replicate (l.length-h) false)
theorem PV {l:List Oper} {h:Nat} (hB:Zib l h=true) {i:Nat} {o:Oper} (hi:i<h) (ho:l[i]? = some o) :
  (∀ e∈o.after,Region.binds .any e=true->e.on<i)/\∀ j p s,j<h->l[j]? = some p->p.dst=some s->(o.dst=some s->i=j)/\(s∈looks l o->j<i/\WJ o j=true):=by
 have a:=List.all_eq_true.1 hB i (List.mem_range.2 hi)
 simp only [ho,Bool.and_eq_true] at a
 refine ⟨fun e k m=>?_,fun j p s f g hs=>?_⟩
 ·have:=List.all_eq_true.1 a.1 e (by simpa using k)
  simpa [m] using this
 ·have b:=List.all_eq_true.1 a.2 j (List.mem_range.2 f)
  simp only [g,Zir,hs,Bool.and_eq_true,Bool.or_eq_true,decide_eq_true_eq,bne_iff_ne,Bool.not_eq_true'] at b
  refine ⟨fun hd=>b.1.resolve_right (fun c=>c hd),fun d=>?_⟩
  rcases b.2 with h3 | h3
  ·have:(looks l o).contains s=true:=by simpa using d
   rw [h3] at this;cases this
  ·exact h3
theorem Zu {listed:Array Bool} {i:Nat} (h:listed.getD i true=false):∃ hi:i<listed.size,listed[i]=false:=by
 by_cases c:i<listed.size
 ·exact ⟨c,by simpa [c] using h⟩
 ·simp [Array.getD_eq_getD_getElem?,Array.getElem?_eq_none (Nat.le_of_not_lt c)] at h
theorem Zbq {listed:Array Bool} {i:Nat} (h:listed.getD i false=true):∃ hi:i<listed.size,listed[i]=true:=by
 by_cases c:i<listed.size
 ·exact ⟨c,by simpa [c] using h⟩
 ·simp [Array.getD_eq_getD_getElem?,Array.getElem?_eq_none (Nat.le_of_not_lt c)] at h
theorem Fg {listed:Array Bool} {i j:Nat} (hi:i<listed.size) (b:Bool):(listed.setIfInBounds i true).getD j b=if i=j then true else listed.getD j b:=by
 by_cases c:i=j
 ·subst c;simp [hi]
 ·rw [Ai c]
  simp [Array.getElem?_setIfInBounds_ne c]
structure DInv (w0:World) (n:Nat) (l:List Oper) (h:Nat) (e:Env) (st:St) (C:Nat->Bool) (V:Nat->AV) (M1:Mem) (w1:World) (ds:List Deferred) (listed:Array Bool) (a:Act) (w:World) (M:Mem):Prop where
 size:listed.size=l.length
 tail:∀ t,h<=t->t<l.length->listed.getD t true=false
 closed:∀ j oj,l[j]? = some oj->listed.getD j false=true->∀ e∈oj.after,Region.binds .any e=true->listed.getD e.on false=true
 rel:RelSt w0 M st w
 tmps:a.tmps.size=n
 defers:a.defers=ds
 ext:Ext w0 M1 w1 M w
 old:∀ s x,(∀ i o,i<h->l[i]? = some o->o.dst≠some s)->look e s=some x->entryOk w0 M w (a.tmps.getD s undef) x
 new:∀ i o s,i<h->l[i]? = some o->o.dst=some s->listed.getD i false=true->entryOk w0 M w (a.tmps.getD s undef) (C i,V i)
theorem SV {listed:Array Bool} {h:Nat} (hn:¬ ∀ j,j<h->listed.getD j false=true):∃ j,j<h/\listed.getD j false=false/\∀ i,i<j->listed.getD i false=true:=by
 induction h with
 | zero=>exact absurd (fun j a=>absurd a (by omega)) hn
 | succ h ih =>
  by_cases c:∀ j,j<h->listed.getD j false=true
  ·refine ⟨h,by omega,?_,c⟩
   cases hq:listed.getD h false with
   | false=>rfl
   | true =>
    exact absurd (fun j a=>by
     by_cases e:j=h
     ·exact e▸hq
     ·exact c j (by omega)) hn
  ·obtain ⟨j,f,d,b⟩:=ih c
   exact ⟨j,by omega,d,b⟩
theorem ZcC {l:List Oper} {h:Nat} {e:Env} {st:St} {E:Nat->Env} {C:Nat->Bool} {V:Nat->AV} {M1:Mem} {w1:World} {ds:List Deferred} {ro:Option Nat} {m:Nat} {Q:Exit->Act->World->Prop}
  (T:Trail P w0 n l (l.take h) e st E C V) (hB:Wi l h=true)
  (hend:∀ a w M,Rel w0 n M (E h) st a w->Ext w0 M1 w1 M w->a.defers=ds->wpListIn (FW ro) m P l.toArray Q (l.drop h) a w) :
  ∀ fuel listed a w M,fuel=listed.toList.count false->DInv w0 n l h e st C V M1 w1 ds listed a w M->wpAnyIn (FW ro) m P .any l.toArray Q fuel listed a w:=by
 simp only [Wi,Bool.and_eq_true,decide_eq_true_eq] at hB
 obtain ⟨⟨⟨az,hH⟩,hT⟩,hS⟩:=hB
 have ax:(l.take h).length=h:=by simp;omega
 have f:∀ j,j<h->(l.take h)[j]? = l[j]? := fun j hj=>List.getElem?_take_of_lt hj
 have ab:∀ {j:Nat} {o:Oper},(l.take h)[j]? = some o->j<h:=fun {j o} hj=>by
  have:=(Aj.1 hj).1;omega
 have aa:∀ (i j:Nat) (o p:Oper) (s:Nat),(l.take h)[i]? = some o->(l.take h)[j]? = some p->o.dst=some s->p.dst=some s->i=j:=by
  intro i j o p s hi hj hs aq
  have a1:=ab hi
  have a2:=ab hj
  rw [f _ a1] at hi
  rw [f _ a2] at hj
  exact ((PV hH a1 hi).2 j p s a2 hj aq).1 hs
 have g:∀ s j,j<=h->_:=fun s j hj=>NM T aa s j (by omega)
 have Y:∀ (listed:Array Bool) (a:Act) (w:World) (M:Mem) (fuel:Nat),fuel=listed.toList.count false->DInv w0 n l h e st C V M1 w1 ds listed a w M->(∀ j,j<h->listed.getD j false=true) ->
   wpAnyIn (FW ro) m P .any l.toArray Q fuel listed a w:=by
  intro listed a w M fuel hf b r
  have hl:listed=Array.replicate h true++Array.replicate (l.length-h) false:=by
   apply Array.ext
   ·simp [b.size];omega
   ·intro i z h2
    by_cases c:i<h
    ·have:=r i c
     simp only [Array.getD_eq_getD_getElem?,Array.getElem?_eq_getElem z,Option.getD_some] at this
     rw [this,Array.getElem_append_left (by simpa using c)]
     simp
    ·have:=b.tail i (by omega) (by rw [<-b.size];exact z)
     simp only [Array.getD_eq_getD_getElem?,Array.getElem?_eq_getElem z,Option.getD_some] at this
     rw [this,Array.getElem_append_right (by simpa using c)]
     simp
  have am:fuel=(l.drop h).length:=by
   rw [hf,hl]
   simp [List.count_append,List.count_replicate]
  have D:Rel w0 n M (E h) st a w:=by
   refine ⟨b.rel,b.tmps,fun s x hs=>?_⟩
   by_cases c:∃ j p,j<h/\l[j]? = some p/\p.dst=some s
   ·obtain ⟨j,p,hj,hp,hd⟩:=c
    have:=(g s h (Nat.le_refl _)).2 j p hj (by rw [f _ hj];exact hp) hd
    rw [this] at hs
    cases hs
    exact b.new j p s hj hp hd (r j hj)
   ·have:=(g s h (Nat.le_refl _)).1 (fun j p hj hp hd=>c ⟨j,p,hj,by rw [<-f _ hj];exact hp,hd⟩)
    rw [this] at hs
    exact b.old s x (fun j p hj hp hd=>c ⟨j,p,hj,hp,hd⟩) hs
  rw [am]
  refine OH (l.drop h) h listed a w (fun j=>by simp [List.getElem?_drop]) ?_ (hend a w M D b.ext b.defers)
  rw [hl,List.length_drop]
  exact hS
 have H:∀ (listed:Array Bool) (t:Nat) (o:Oper),(∀ j oj,l[j]? = some oj->listed.getD j false=true->∀ e∈oj.after,Region.binds .any e=true->listed.getD e.on false=true) ->
   l[t]? = some o->h<=t->(∀ e∈o.after,Region.binds .any e=true->listed.getD e.on false=true)->∀ d j,j+d+1=t->listed.getD j false=true:=by
  intro listed t o ai ho ht u d
  induction d using Nat.strongRecOn with
  | _ d ih =>
   intro j hj
   have a5:t<l.length:=(Aj.1 ho).1
   have z:=List.all_eq_true.1 (List.all_eq_true.1 hT (t-h) (List.mem_range.2 (by omega))) j (List.mem_range.2 (by omega))
   obtain ⟨q,hq,h2⟩:=List.any_eq_true.1 z
   have a3:q<=t:=by have:=List.mem_range.1 hq;omega
   simp only [Bool.and_eq_true,decide_eq_true_eq] at h2
   obtain ⟨a0,h3⟩:=h2
   cases hoq:l[q]? with
   | none=>simp [hoq] at h3
   | some oq =>
    simp only [hoq] at h3
    obtain ⟨N,K,U,J⟩:=SU h3
    by_cases c:q=t
    ·subst c
     rw [ho] at hoq;cases hoq
     exact J▸u N K U
    ·have:=ih (t-q-1) (by omega) q (by omega)
     exact J▸ai q oq hoq this N K U
 intro fuel
 induction fuel with
 | zero =>
  intro listed a w M hf b
  refine Y listed a w M 0 hf b (fun j hj=>?_)
  cases hq:listed.getD j false with
  | true=>rfl
  | false =>
   exfalso
   have au:j<listed.size:=by rw [b.size];omega
   have:false∈listed.toList:=by
    have e1:listed[j]=false:=by simpa [au] using hq
    rw [<-e1];simp
   have:=List.count_pos_iff.2 this
   omega
 | succ fuel ih =>
  intro listed a w M hf b
  by_cases r:∀ j,j<h->listed.getD j false=true
  ·exact Y listed a w M _ hf b r
  ·obtain ⟨k,ah,ae,aj⟩:=SV r
   have av:k<listed.size:=by rw [b.size];omega
   have ao:l[k]? = some l[k]:=List.getElem?_eq_getElem (by omega)
   have O:k∈Region.ready .any l.toArray listed:=by
    refine mem_ready.2 ⟨by simpa [av] using ae,l[k],by simp,fun N he hb=>aj _ ((PV hH ah ao).1 N he hb)⟩
   refine ⟨fun h0=>absurd O (by rw [h0];simp),fun i hi=>?_⟩
   obtain ⟨ap,o,ho,u⟩:=mem_ready.1 hi
   have y:l[i]? = some o:=by simpa using ho
   have a4:i<l.length:=(Aj.1 y).1
   have Z:i<h:=by
    refine Nat.lt_of_not_le fun ag=>?_
    have:=H listed i o b.closed y ag u (i-k-1) k (by omega)
    rw [ae] at this;cases this
   obtain ⟨t1,t2,t3,t4,t5⟩:=T.step i o (by rw [f _ Z];exact y)
   have G:=PV hH Z y
   have D:Rel w0 n M (CV true l o (E i)) st a w:=by
    refine ⟨b.rel,b.tmps,fun s x hs=>?_⟩
    simp only [CV,if_true] at hs
    have hm:=MX _ _ _ _ hs
    have hl:=Jf _ _ _ _ hs
    by_cases c:∃ j p,j<h/\l[j]? = some p/\p.dst=some s
    ·obtain ⟨j,p,hj,hp,hd⟩:=c
     obtain ⟨ak,hw⟩:=(G.2 j p s hj hp hd).2 hm
     obtain ⟨N,K,U,J⟩:=SU hw
     have af:listed.getD j false=true:=J▸u N K U
     have:=(g s i (by omega)).2 j p ak (by rw [f _ hj];exact hp) hd
     rw [this] at hl
     cases hl
     exact b.new j p s hj hp hd af
    ·have:=(g s i (by omega)).1 (fun j p hj hp hd=>c ⟨j,p,by omega,by rw [<-f _ (by omega)];exact hp,hd⟩)
     rw [this] at hl
     exact b.old s x (fun j p hj hp hd=>c ⟨j,p,hj,hp,hd⟩) hl
   unfold wpOpIn
   simp only [ho]
   have F:i<listed.size:=by rw [b.size];omega
   refine Tf D ro m t2 (by rw [t4];exact t5) Q _ fun v w' M' hx aw hv=>?_
   rw [t4] at hv
   refine ih _ _ _ M' ?_ ?_
   ·have ad:listed[i]=false:=by simpa [F] using ap
    have ay:0<listed.toList.count false:=List.count_pos_iff.2 (by rw [<-ad];simp)
    rw [Array.toList_setIfInBounds,List.count_set (by simpa using F)]
    simp only [Array.getElem_toList,ad]
    rw [Ah (show (false == false)=true from rfl),Ai (show ¬ (true == false)=true by decide)]
    omega
   ·have keep:∀ s x,o.dst≠some s->entryOk w0 M w (a.tmps.getD s undef) x->entryOk w0 M' w' ((a.put o.dst v).tmps.getD s undef) x:=by
     intro s x ar z
     rw [JK a o.dst v s (by rw [b.tmps];exact t3),Ai ar]
     exact z.mono hx
    refine ⟨by simp [b.size],fun t z h2=>?_,fun j oj hj hl N he hb=>?_,aw,by rw [Q9];exact b.tmps,by rw [He];exact b.defers,b.ext.trans hx,fun s x z h2=>?_,fun j p s hj hp hd hl=>?_⟩
    ·rw [Fg F,Aa];exact b.tail t z h2
    ·rw [Fg F] at hl ⊢
     split
     ·rfl
     ·by_cases c:i=j
      ·subst c
       rw [y] at hj;cases hj
       exact u N he hb
      ·rw [Ai c] at hl
       exact b.closed j oj hj hl N he hb
    ·exact keep s x (z i o Z y) (b.old s x z h2)
    ·by_cases c:i=j
     ·subst c
      rw [y] at hp;cases hp
      rw [JK a o.dst v s (by rw [b.tmps];exact t3),Ah hd]
      exact hv
     ·rw [Fg F,Ai c] at hl
      refine keep s _ (fun hs=>c ((G.2 j p s hj hp hd).1 hs)) (b.new j p s hj hp hd hl)
theorem Q3 {M0:Mem} {W0:World} {ro:Option Nat} {Q:AQ} {e:Env} {st:St} (hm:P.follows .mixedOrders=true) (h:Nat) (c1 c2:Nat) (L:List Nat) {id:Nat} {l:List Oper} (hB:Wi l h=true)
  (hev:RQ P w0 n true l (fun e1 s1=>RQ P w0 n false l (fun e2 s2=>Q .normal (C9 L e2) s2) c2 (l.drop h) e1 s1) c1 (l.take h) e st):D8 P w0 n M0 W0 ro (.region id l.toArray true) Q e st:=by
 intro m M a w b
 obtain ⟨E,C,V,T,q⟩:=QJ _ _ _ hev
 have r:h<=l.length:=by
  simp only [Wi,Bool.and_eq_true,decide_eq_true_eq] at hB;exact hB.1.1.1
 have f:(l.take h).length=h:=by simp;omega
 rw [f] at q
 obtain ⟨v,o⟩:=b.rel.st.drew
 refine wpIn_region_any hm (ZcC T hB (M1:=M) (w1:=w) (ds:=a.defers) (fun a1 w1 M1 k d i=>?_) _ _ a _ M (by simp) ?_)
 ·refine O5 ro m false l _ _ c2 _ _ st a1 w1 M1 k q fun e2 s2 a2 F z u y p q2=>⟨z,_,_,⟨y.sub (BI L _),b.ext.trans (d.trans p),?_⟩,u⟩
  rw [q2,i]
  exact b.marks.later (d.trans p) b.rel.st
 ·exact ⟨by simp,fun t _ D=>by simp [Array.getD_eq_getD_getElem?,D],fun j _ _ g=>by
   exfalso
   by_cases c:j<l.length
   ·simp [Array.getD_eq_getD_getElem?,c] at g
   ·simp [Array.getD_eq_getD_getElem?,c] at g,v,b.rel.size,rfl,o,fun s x _ hs=>(b.rel.env s x hs).mono o,fun j _ _ _ _ _ g=>by
   exfalso
   by_cases c:j<l.length
   ·simp [Array.getD_eq_getD_getElem?,c] at g
   ·simp [Array.getD_eq_getD_getElem?,c] at g⟩
end
def St.ext (s X:St):St:=⟨s.boxes++X.boxes,s.rows++X.rows,s.loops++X.loops⟩
def St.push (s:St) (la:LoopA):St:={ s with loops:=s.loops++[la] }
def St.like (s t:St):Prop:=s.boxes.length=t.boxes.length/\t.rows.length<=s.rows.length/\s.loops.length=t.loops.length
def ZcV (PX:St->Prop) (P:Program) (w0:World) (gf:FuncId) (caps:List AV) (items:Ao) (Fr:St->Prop):Prop :=
 ∀ (k:Nat) (J:Nat->St->Prop) (Jx:St->Prop),(∀ i s,J i s->Fr s/\k<s.loops.length) ->
  (∀ i s x X,PX X->J i s->items[i]? = some x->UI P w0 k x (s.ext X) fun r s'=>∃ t,s'=t.ext X/\t.like s/\((r = .val (.bool true)/\J (i+1) t)\/(r = .val (.bool false)/\Jx t))) ->
  ∀ s,J 0 s->ACalls P w0 gf (.yld k::caps) s fun _ s'=>∃ t X,X.rows=[]/\s'=St.ext t X/\(J items.length t\/Jx t)
abbrev ZiD (P:Program) (w0:World) (gf:FuncId) (caps:List AV) (items:Ao) (Fr:St->Prop):Prop:=ZcV (fun X=>X.rows=[]) P w0 gf caps items Fr
def V0:Env->List Nat->List AV->Env
 | e,p::ps,x::xs=>V0 ((p,true,x)::e) ps xs
 | e,_,_=>e
section
variable {P:Program} {w0:World} {n:Nat} {M:Mem} {e:Env} {st:St} {a:Act} {w:World}
theorem Rel.bind:∀ (ps:List Nat) (vs:List Value) (xs:List AV) (e:Env) (a:Act),Rel w0 n M e st a w->ps.length=xs.length->(∀ p∈ps,p<n)->vs.length=xs.length->(∀ (i:Nat) (v:Value) (x:AV),vs[i]? = some v->xs[i]? = some x->R w0 M w v x) ->
  Rel w0 n M (V0 e ps xs) st { tmps:=(ps.zip vs).foldl (fun t (p,v)=>t.setIfInBounds p v) a.tmps,defers:=a.defers } w
 | [],[],[],_,_,h,_,_,_,_=>h
 | p::ps,v::vs,x::xs,e,a,h,h1,h2,h3,h4=>by
  simp only [List.zip_cons_cons,List.foldl_cons,V0]
  have d:p<n:=h2 p (by simp)
  have:=h.put (M':=M) (w':=w) (st':=st) (.refl _ _ _) h.st (dst:=some p) d (c:=true) (v:=v) (r:=x) (h4 0 v x rfl rfl)
  exact Rel.bind ps vs xs _ (a.put (some p) v) this (by simpa using h1) (fun q f=>h2 q (by simp [f])) (by simpa using h3) (fun i u y g b=>h4 (i+1) u y g b)
 | [],_::_,[],_,_,_,_,_,h,_=>by simp at h
 | [],_,_::_,_,_,_,h,_,_,_=>by simp at h
 | _::_,_,[],_,_,_,h,_,_,_=>by simp at h
 | _::_,[],_::_,_,_,_,_,_,h,_=>by simp at h
theorem RelSt.setLoop (h:RelSt w0 M st w) {k:Nat} {la:LoopA} (hk:st.loops[k]? = some la) (s:LoopState) (p:Option Code) {r:Loop} (hr:w.heap[M.lb k]? = some (.loop r)) :
  RelSt w0 M { st with loops:=st.loops.set k { la with st:=s,pend:=p } } (w.putObj (M.lb k) (.loop { r with state:=s,pending:=p }))/\Ext w0 M w M (w.putObj (M.lb k) (.loop { r with state:=s,pending:=p })):=by
 have d:k<st.loops.length:=(Aj.1 hk).1
 have a:k<M.NL:=by rw [h.loop.NL];exact d
 have m:M.lb k<w.heap.size:=(Array.getElem?_eq_some_iff.1 hr).1
 obtain ⟨g0,G⟩:=h.loop.record k la hk
 obtain ⟨K,g2,g3,g4,g5,g6,U,Y⟩:=G.isLoop hr
 generalize ho':Obj.loop { r with state:=s,pending:=p }=o'
 have hs:TX M w (w.putObj (M.lb k) o'):=⟨fun b g v=>LI hr rfl,fun b es Z hb J=>by rw [World.putObj_heap_other (fun e=>J k a e.symm)];exact hb⟩
 have C:∀ {b:Nat} {c:Array Value} {f:TypeId},w.heap[b]? = some (.cells c f (0,0))->(w.putObj (M.lb k) o').heap[b]? = some (.cells c f (0,0)):=by
  intro b c f hb
  rw [World.putObj_heap_other (fun e=>by subst e;rw [hr] at hb;cases hb)]
  exact hb
 refine ⟨⟨Below.putObj h.below g0 _,h.N,h.NR,fun b hb=>h.top b (by simpa using hb),h.inj,fun l cs n=>?_,fun id x H=>(h.row id x H).same hs C (by simp),h.rowinj,⟨by simp [h.loop.NL],h.loop.inj,fun j E hj=>?_⟩⟩,
  ⟨Nat.le_refl _,fun _ _=>rfl,Nat.le_refl _,fun _ _=>⟨Nat.le_refl _,fun _=>⟨rfl,rfl,rfl⟩⟩,fun b g v u V=>⟨hs.1 b g v V,u⟩,by simp,Nat.le_refl _,fun _ _=>rfl,fun _ _ _=>by omega,fun b o u _ D=>?_,fun b _ q=>⟨World.putObj_heap_other (fun e=>q.2.2 k a e.symm),q,rfl⟩⟩⟩
 ·obtain ⟨a1,a2,c,f,a3,a4,a5,a6⟩:=h.box l cs n
  exact ⟨a1,a2,c,f,C a3,a4,a5,fun i O F=>(a6 i O F).same hs⟩
 ·by_cases q:j=k
  ·subst q
   rw [List.getElem?_set_self d] at hj
   cases hj
   exact ⟨g0,.ofLoop K ⟨{ r with state:=s,pending:=p },by rw [<-ho'];exact World.putObj_heap_same m,rfl,rfl,g4,g5,g6,U,fun s x y=>(Y s x y).same hs⟩⟩
  ·rw [List.getElem?_set_ne (Ne.symm q)] at hj
   have t:j<M.NL:=by rw [h.loop.NL];exact (Aj.1 hj).1
   obtain ⟨a1,a2⟩:=h.loop.record j E hj
   exact ⟨a1,a2.map (fun o z _=>by rw [World.putObj_heap_other (fun e=>q (h.loop.inj j k t a e))];exact z) fun s x v _ Q=>Q.same hs⟩
 ·rw [World.putObj_heap_other (fun e=>D k a e.symm)]
  exact u
def Mem.newLoop (M:Mem) (b:Nat):Mem:={ M with NL:=M.NL+1,lb:=fun k=>if k=M.NL then b else M.lb k }
theorem Rel.newLoop (h:Rel w0 n M e st a w) (fn:FuncId) (ps:Array Tmp) (asg body:Code) :
  RelSt w0 (M.newLoop (w.heap.size+1)) (st.push ⟨e,n,ps,asg,body,.ready,none,none⟩) ((w.alloc (.deferred (some []))).alloc (.loop { state := .ready,pending:=none,fn,tmps:=a.tmps,params:=ps,assign:=asg,body,defers:=w.heap.size })) /\
  Ext w0 M w (M.newLoop (w.heap.size+1)) ((w.alloc (.deferred (some []))).alloc (.loop { state := .ready,pending:=none,fn,tmps:=a.tmps,params:=ps,assign:=asg,body,defers:=w.heap.size })):=by
 generalize hr:({ state := .ready,pending:=none,fn,tmps:=a.tmps,params:=ps,assign:=asg,body,defers:=w.heap.size }:Loop)=r
 have p:KeepsObj w ((w.alloc (.deferred (some []))).alloc (.loop r)):=(KeepsObj.alloc _ _).trans (KeepsObj.alloc _ _)
 have t:∀ (b m:Nat) (v:Value),w.cell? ⟨b,m,none⟩=some v->((w.alloc (.deferred (some []))).alloc (.loop r)).cell? ⟨b,m,none⟩=some v:=by
  intro b m v hv
  have g:=World.block_lt_of_cell? w _ hv
  rw [World.cell?_alloc_lt _ _ _ (by simp;exact Nat.lt_succ_of_lt g),World.cell?_alloc_lt _ _ _ g]
  exact hv
 have d:∀ k,k<M.NL->(M.newLoop (w.heap.size+1)).lb k=M.lb k:=fun k hk=>by simp [Mem.newLoop];omega
 have hnew:(M.newLoop (w.heap.size+1)).lb M.NL=w.heap.size+1:=by simp [Mem.newLoop]
 have y:Ext w0 M w (M.newLoop (w.heap.size+1)) ((w.alloc (.deferred (some []))).alloc (.loop r)) :=
  ⟨Nat.le_refl _,fun _ _=>rfl,Nat.le_refl _,fun _ _=>⟨Nat.le_refl _,fun _=>⟨rfl,rfl,rfl⟩⟩,fun b m v C z=>⟨t b m v z,C⟩,by simp;omega,Nat.le_succ _,d,fun k C z=>by
   have:k=M.NL:=by simp only [Mem.newLoop] at z;omega
   rw [this,hnew];omega,fun b o C z _=>p b o C z,fun b q1 q=>⟨by rw [A3 _ _ (by simp;omega),A3 _ _ q1],⟨q.1,q.2.1,fun k hk=>by
    by_cases c:k=M.NL
    ·subst c;rw [hnew];omega
    ·have f:k<M.NL:=by simp only [Mem.newLoop] at hk;omega
     rw [d k f];exact q.2.2 k f⟩,rfl⟩⟩
 have G:∀ {b:Nat},b<w.heap.size->((w.alloc (.deferred (some []))).alloc (.loop r)).heap[b]? = w.heap[b]? := fun {b} E=>by
  rw [A3 _ _ (by simp;omega),A3 _ _ E]
 refine ⟨⟨(h.st.below.alloc h.st.base_le _).alloc (by have:=h.st.base_le;simp;omega) _,h.st.N,h.st.NR,fun b E=>h.st.top b (by simp at E;omega),h.st.inj,fun l cs J=>?_,fun id x D=>(h.st.row id x D).keep y rfl rfl rfl rfl rfl (h.st.row id x D).ne (G (h.st.row id x D).lt),h.st.rowinj,⟨by simp [Mem.newLoop,St.push,h.st.loop.NL],fun k u hk f q=>?_,fun k H hk=>?_⟩⟩,y⟩
 ·obtain ⟨a1,a2,c,U,a3,a4,a5,a6⟩:=h.st.box l cs J
  exact ⟨a1,a2,c,U,by rw [show (M.newLoop (w.heap.size+1)).bx l=M.bx l from rfl,G (Array.getElem?_eq_some_iff.1 a3).1];exact a3,a4,a5,fun i O K=>(a6 i O K).mono y⟩
 ·have g:∀ j,j<M.NL->M.lb j<w.heap.size:=fun j Q=>by
   exact (h.st.loop.record j _ (List.getElem?_eq_getElem (by rw [<-h.st.loop.NL];exact Q))).2.lt
  simp only [Mem.newLoop] at hk f
  by_cases c:k=M.NL
  ·by_cases c':u=M.NL
   ·omega
   ·subst c
    rw [hnew,d u (by omega)] at q
    have:=g u (by omega)
    omega
  ·by_cases c':u=M.NL
   ·subst c'
    rw [hnew,d k (by omega)] at q
    have:=g k (by omega)
    omega
   ·rw [d k (by omega),d u (by omega)] at q
    exact h.st.loop.inj k u (by omega) (by omega) q
 ·simp only [St.push] at hk
  by_cases c:k=st.loops.length
  ·subst c
   simp only [List.getElem?_concat_length,Option.some.injEq] at hk
   subst hk
   rw [<-h.st.loop.NL,hnew]
   refine ⟨by have:=h.st.base_le;omega,.ofLoop rfl ⟨r,?_,?_⟩⟩
   ·have:=World.alloc_heap_new (w.alloc (.deferred (some []))) (.loop r)
    rwa [World.size_alloc] at this
   ·have F:r.tmps=a.tmps:=by rw [<-hr]
    exact ⟨by rw [<-hr],by rw [<-hr],by rw [<-hr],by rw [<-hr],by rw [<-hr],by rw [F];exact h.size,fun s x hs=>by rw [F];exact (h.env s x hs).mono y⟩
  ·have f:k<st.loops.length:=by
    have:=(Aj.1 hk).1
    simp at this;omega
   rw [List.getElem?_append_left f] at hk
   obtain ⟨a1,a2⟩:=h.st.loop.record k H hk
   rw [d k (by rw [h.st.loop.NL];exact f)]
   exact ⟨a1,a2.map (fun o q1 q2=>p _ _ q1 q2) fun s x v _ V=>V.mono y⟩
def ZP (I:Exit->St->Prop) (s1 X:St) (la:LoopA):AQ:=fun x _ s =>
 ∃ t b,s=⟨t.boxes++X.boxes++b,t.rows,(s1.loops++[la])++X.loops⟩/\t.like s1/\t.loops=s1.loops/\I x t /\
  (b=[]\/Calm (s1.boxes.length+X.boxes.length) t.rows.length s.loops.length ⟨t.boxes++X.boxes,t.rows,s.loops⟩)
def UW:Exit->Option (Option Code)
 | .normal=>some none
 | .ret=>some (some .ret)
 | .exit id=>some (some (.exit id))
 | _=>none
theorem ZbW {M0:Mem} {W0:World} {I:Exit->St->Prop} {s1 X:St} (hX:X.rows=[]) {la:LoopA} (hka:la.keys=none) {Post:AV->St->Prop} {x:Exit} {jump:Option Code}
  (h0:RelSt w0 M0 ((s1.push { la with st := .ready,pend:=none }).ext X) W0) (hx0:Ext w0 M0 W0 M w) {e':Env} {s':St} (hr:RelSt w0 M s' w) (hq:ZP I s1 X { la with st := .busy,pend:=none } x e' s')
  (hpost:∀ t,t.like s1->t.loops=s1.loops->I x t->Post (.val (.bool jump.isNone)) ((t.push { la with st:=if jump.isNone then .ready else .done,pend:=jump }).ext X)) :
  ∃ v w',(Instr.endRound (M0.lb s1.loops.length) jump).run P w = .ok v w'/\Comes' w0 M0 W0 Post (.returned v) w':=by
 obtain ⟨t,b,rfl,H,o,D,t4⟩:=hq
 have n:((s1.loops++[{ la with st := .busy,pend:=none }])++X.loops)[s1.loops.length]? = some { la with st := .busy,pend:=none }:=by
  rw [List.getElem?_append_left (by simp),List.getElem?_concat_length]
 obtain ⟨z,g1,_⟩:=(hr.loop.record _ _ n).2.loop hka
 have g:s1.loops.length<M0.NL:=by rw [h0.loop.NL];simp [St.ext,St.push]
 rw [<-hx0.lb _ g]
 obtain ⟨d,E⟩:=hr.setLoop n (if jump.isNone then .ready else .done) jump g1
 refine ⟨_,_,run_endRound jump g1,?_⟩
 have r:((s1.loops++[{ la with st := .busy,pend:=none }])++X.loops).set s1.loops.length { la with st:=if jump.isNone then .ready else .done,pend:=jump }=(s1.loops++[{ la with st:=if jump.isNone then .ready else .done,pend:=jump }])++X.loops:=by
  rw [List.set_append_left _ _ (by simp),List.set_append_right _ _ (by simp)]
  simp
 simp only at d
 rw [r] at d
 have f:=hx0.trans E
 have hd:M0.N=s1.boxes.length+X.boxes.length/\M0.NR=s1.rows.length/\M0.NL=s1.loops.length+1+X.loops.length:=by
  refine ⟨by rw [h0.N];simp [St.ext,St.push],by rw [h0.NR];simp [St.ext,St.push,hX],by rw [h0.loop.NL];simp [St.ext,St.push];omega⟩
 obtain ⟨F,s,p⟩:=H
 have j:=hpost t ⟨F,s,p⟩ o D
 have l:(t.push { la with st:=if jump.isNone then .ready else .done,pend:=jump }).ext X=⟨t.boxes++X.boxes,t.rows,(s1.loops++[{ la with st:=if jump.isNone then .ready else .done,pend:=jump }])++X.loops⟩:=by
  simp only [St.push,St.ext,o,hX,List.append_nil]
 rw [l] at j
 have c:∀ M' w',R w0 M' w' (.bool jump.isNone) (.val (.bool jump.isNone)):=fun _ _ => .flat rfl
 rcases t4 with rfl | t4
 ·simp only [List.append_nil] at d
  exact ⟨_,M,_,_,rfl,j,f,d,c _ _⟩
 ·refine ⟨_,M.cut (s1.boxes.length+X.boxes.length) t.rows.length (s1.loops.length+1+X.loops.length),_,_,rfl,j,f.cut (by omega) (by omega) (by omega) (by rw [d.loop.NL];simp;omega) (by rw [d.N];simp;omega) (by rw [d.NR];exact Nat.le_refl _),?_,c _ _⟩
  have e:=d.cut (nb:=s1.boxes.length+X.boxes.length) (nr:=t.rows.length) (nl:=s1.loops.length+1+X.loops.length) (by simp;omega) (by simp) (by simp;omega)
  have u:List.take (s1.boxes.length+X.boxes.length) (t.boxes++X.boxes++b)=t.boxes++X.boxes:=List.take_left' (by simp;omega)
  have C:List.take t.rows.length t.rows=t.rows:=List.take_length
  have G:∀ a,List.take (s1.loops.length+1+X.loops.length) (s1.loops++[a]++X.loops)=s1.loops++[a]++X.loops:=fun a=>List.take_of_length_le (by simp;omega)
  simp only [St.cut,u,C,G] at e
  have h:(s1.loops++[{ la with st:=LoopState.busy,pend:=none }]++X.loops).length=s1.loops.length+1+X.loops.length:=by simp;omega
  refine e ⟨?_,?_,fun a hla k y m i=>?_⟩
  ·have:=t4.rows
   simp only [h] at this
   exact this
  ·have:=t4.boxes
   simp only [h] at this
   exact this
  ·have q:=t4.loops
   simp only [h] at q
   simp only [List.mem_append,List.mem_singleton] at hla q
   rcases hla with (hla | rfl) | hla
   ·exact q a (.inl (.inl hla)) k y m i
   ·exact q { la with st := .busy,pend:=none } (.inl (.inr rfl)) k y m i
   ·exact q a (.inr hla) k y m i
structure RoundAt (M0:Mem) (s:St):Prop where
 N:M0.N=s.boxes.length
 NR:M0.NR=s.rows.length
 NL:M0.NL=s.loops.length
 calm:Calm s.boxes.length s.rows.length s.loops.length s
theorem RoundAt.turn {M0:Mem} {s X:St} {la la':LoopA} (h:RoundAt M0 ((s.push la).ext X)) (he:la'.e=la.e):RoundAt M0 ((s.push la').ext X) where
 N:=h.N
 NR:=h.NR
 NL:=by rw [h.NL];simp [St.ext,St.push]
 calm:=by
  have d:((s.push la').ext X).loops.length=((s.push la).ext X).loops.length:=by simp [St.ext,St.push]
  rw [d]
  refine ⟨h.calm.rows,h.calm.boxes,fun l f k x a c=>?_⟩
  have b:l∈s.loops\/l=la'\/l∈X.loops:=by simpa [St.ext,St.push,or_assoc] using f
  rcases b with q | rfl | q
  ·exact h.calm.loops l (by simp [St.ext,St.push,q]) k x a c
  ·rw [he] at a
   exact h.calm.loops la (by simp [St.ext,St.push]) k x a c
  ·exact h.calm.loops l (by simp [St.ext,St.push,q]) k x a c
theorem ZbI {la:LoopA} (hka:la.keys=none) {s1 X:St} (hX:X.rows=[]) {I:Exit->St->Prop} {x:List AV} {Post:AV->St->Prop} (hlen:x.length=la.ps.size) (hps:∀ p∈la.ps.toList,p<la.n)
  (hbody:∀ (M0:Mem) (W0:World) (l:Nat),RoundAt M0 ((s1.push { la with st := .ready,pend:=none }).ext X)->RoundAt M0 ((s1.push { la with st := .busy,pend:=none }).ext X)->D8 P w0 la.n M0 W0 (some l) la.asg (UX (fun e' s'=>s'.loops=((s1.push { la with st := .ready,pend:=none }).ext X).loops /\
   D8 P w0 la.n M0 W0 (some l) la.body (ZP I s1 X { la with st := .busy,pend:=none }) e' { s' with loops:=((s1.push { la with st := .busy,pend:=none }).ext X).loops }) (fun _ _ _=>False))
   (V0 la.e la.ps.toList x) ((s1.push { la with st := .ready,pend:=none }).ext X))
  (hI:∀ ex s,I ex s->(UW ex).isSome=true)
  (hpost:∀ ex jump t,UW ex=some jump->t.like s1->t.loops=s1.loops->I ex t->Post (.val (.bool jump.isNone)) ((t.push { la with st:=if jump.isNone then .ready else .done,pend:=jump }).ext X)) :
  UI P w0 s1.loops.length x ((s1.push { la with st := .ready,pend:=none }).ext X) Post:=by
 intro M w d c f
 have Y:((s1.push { la with st := .ready,pend:=none }).ext X).loops[s1.loops.length]? = some { la with st := .ready,pend:=none }:=by
  simp only [St.ext,St.push]
  rw [List.getElem?_append_left (by simp),List.getElem?_concat_length]
 obtain ⟨r,g1,g2,g3,g4,g5,g6,Z,g8⟩:=(c.loop.record _ _ Y).2.loop hka
 simp only at g2 g3 g4 g5 g6 Z g8
 have O:=run_yield (P:=P) (args:=d) g1 (by rw [g4,f.1,hlen])
 refine ⟨_,_,_,_,O,fun m=>roundIn_of_wpIn (F:=Fence.wide) trivial ?_⟩
 rw [g5,g6]
 have o:Rel w0 la.n M la.e ((s1.push { la with st := .ready,pend:=none }).ext X) { tmps:=r.tmps,defers:=[] } w:=⟨c,Z,g8⟩
 have u:=Rel.bind la.ps.toList d.toList x la.e _ o (by simp [hlen]) hps (by simp [f.1]) (fun i v y hv O=>f.get (by rw [<-Array.getElem?_toList];exact hv) O)
 have Q:(r.params.zip d).foldl (fun tmps (t,a)=>tmps.setIfInBounds t a) r.tmps=(la.ps.toList.zip d.toList).foldl (fun t (p,v)=>t.setIfInBounds p v) r.tmps:=by
  rw [g4,<-Array.foldl_toList,Array.toList_zip]
 rw [Q]
 refine wpIn_mono (hbody M w (M.lb s1.loops.length) ⟨c.N,c.NR,c.loop.NL,c.calm⟩ (RoundAt.turn (la:={ la with st := .ready,pend:=none }) ⟨c.N,c.NR,c.loop.NL,c.calm⟩ rfl) m M _ w ⟨u,.refl _ _ _,[],by simp⟩) ?_
 rintro ex a1 w1 ⟨M1,e1,s',h,h2⟩
 cases ex with
 | normal =>
  obtain ⟨z,hb⟩:=h2
  have q:s'.loops[s1.loops.length]? = some { la with st := .ready,pend:=none }:=by rw [z];exact Y
  obtain ⟨G,E,k2,_⟩:=(h.rel.st.loop.record _ _ q).2.loop hka
  have J:s1.loops.length<M.NL:=by rw [c.loop.NL];simp [St.ext,St.push]
  have g:=h.ext.lb _ J
  rw [g] at E
  refine ⟨_,run_beginRound E k2,?_⟩
  obtain ⟨C,D⟩:=h.rel.st.setLoop q .busy none (by rw [g];exact E)
  rw [g] at C D
  have j:G.pending=none:=by
   obtain ⟨aa,k1',_,K,_⟩:=(h.rel.st.loop.record _ _ q).2.loop hka
   rw [g,E] at k1'
   cases k1'
   exact K
  have er:({ G with state:=LoopState.busy,pending:=none }:Loop)={ G with state:=LoopState.busy }:=by rw [<-j]
  rw [er] at C D
  have eL:{ s' with loops:=s'.loops.set s1.loops.length { la with st := .busy,pend:=none } }={ s' with loops:=((s1.push { la with st := .busy,pend:=none }).ext X).loops }:=by
   rw [z]
   simp only [St.ext,St.push]
   rw [List.set_append_left _ _ (by simp),List.set_append_right _ _ (by simp)]
   simp
  simp only at C
  rw [eL] at C
  have H:At w0 la.n M w e1 { s' with loops:=((s1.push { la with st := .busy,pend:=none }).ext X).loops } a1 (w1.putObj (M.lb s1.loops.length) (.loop { G with state := .busy })) M1 :=
   ⟨⟨C,h.rel.size,fun s x hs=>(h.rel.env s x hs).mono D⟩,h.ext.trans D,h.marks.later D h.rel.st⟩
  refine wpIn_mono (hb m M1 a1 _ H) ?_
  rintro ex a2 w2 ⟨M2,e2,s2,U,V⟩
  have k:=hI ex
  have fin:∀ jump,UW ex=some jump->∃ v w',(Instr.endRound (M.lb s1.loops.length) jump).run P w2 = .ok v w'/\Comes' w0 M w Post (.returned v) w':=fun jump hj =>
   ZbW hX hka (jump:=jump) c U.ext U.rel.st V (fun t t1 t2 t3=>hpost ex jump t hj t1 t2 t3)
  obtain ⟨t,b,q1,q2,q3,q4,q5⟩:=V
  have:=k t q4
  cases ex with
  | normal=>exact fin _ rfl
  | ret=>exact fin _ rfl
  | exit id=>exact fin _ rfl
  | _=>simp [UW] at this
 | _=>exact h2.elim
theorem Wp {PX:St->Prop} {M0:Mem} {W0:World} {Q:AQ} {g:Operand} {ps:Array Tmp} {asg body:Code} {gf:FuncId} {caps:List AV} (items:Ao) (Fr:St->Prop) (I:Nat->St->Prop) (Ix:Exit->St->Prop)
  (hg:AN e true g) (hgv:Az e g = .clo gf caps) (hit:ZcV PX P w0 gf caps items Fr) (hlen:∀ x∈items,x.length=ps.size) (hps:∀ p∈ps.toList,p<n)
  (hFr:∀ i s la,I i s->s.like st->s.loops=st.loops->Fr (s.push la)) (h0:I 0 st) (hIx:∀ ex s,Ix ex s->ex = .ret\/∃ id,ex = .exit id)
  (hbody:∀ (i:Nat) (s1 X:St) (x:List AV) (M0:Mem) (W0:World) (l:Nat) (la la':LoopA),PX X->I i s1->s1.like st->s1.loops=st.loops->items[i]? = some x->RoundAt M0 ((s1.push la').ext X) ->
   ∀ K:Env->St->Prop,(∀ e' s',s'.loops=((s1.push la).ext X).loops->(∀ KQ:AQ,(∀ ex e s,ZP (fun ex s=>match ex with | .normal=>I (i+1) s | _=>Ix ex s) s1 X la' ex e s->KQ ex e s)->D8 P w0 n M0 W0 (some l) body KQ e' { s' with loops:=((s1.push la').ext X).loops })->K e' s') ->
   D8 P w0 n M0 W0 (some l) asg (UX K (fun _ _ _=>False)) (V0 e ps.toList x) ((s1.push la).ext X))
  (hdone:∀ s la X,X.rows=[]->I items.length s->s.like st->s.loops=st.loops->Q .normal e ((s.push la).ext X))
  (hleft:∀ ex s la X,X.rows=[]->Ix ex s->s.like st->s.loops=st.loops->Q ex e ((s.push la).ext X)) (hPX:∀ X,PX X->X.rows=[]:=by first | exact fun _ h=>h | exact fun _ h=>h▸rfl):D8 P w0 n M0 W0 none (.rangeFunc g ps asg body) Q e st:=by
 intro m M a w f
 refine wpIn_rangeFunc fun fn _=>?_
 obtain ⟨n1,n2⟩:=f.rel.newLoop fn ps asg body
 obtain ⟨cs,af,C⟩:=XC (hgv▸A5 f.rel hg)
 generalize hW1:((w.alloc (.deferred (some []))).alloc (.loop { state := .ready,pending:=none,fn,tmps:=a.tmps,params:=ps,assign:=asg,body,defers:=w.heap.size }))=W1 at n1 n2
 generalize hM1:M.newLoop (w.heap.size+1)=M1 at n1 n2
 have ah:M.NL=st.loops.length:=f.rel.st.loop.NL
 have E:M1.lb st.loops.length=w.heap.size+1:=by rw [<-hM1,<-ah];simp [Mem.newLoop]
 have Y:∀ k,k<st.loops.length->M1.lb k<w.heap.size:=fun k Z=>by
  rw [n2.lb k (by omega)]
  exact (f.rel.st.loop.record k _ (List.getElem?_eq_getElem Z)).2.lt
 have ak:M1.NL=st.loops.length+1:=by rw [n1.loop.NL];simp [St.push]
 have z:W1.heap[w.heap.size]? = some (.deferred (some [])):=by
  rw [<-hW1];exact (A3 _ _ (by simp)).trans (World.alloc_heap_new w _)
 let la0:LoopA:=⟨e,n,ps,asg,body,.ready,none,none⟩
 let J:Nat->St->Prop:=fun i s=>∃ s1,I i s1/\s1.like st/\s1.loops=st.loops/\s=s1.push la0
 let Jx:St->Prop:=fun s=>∃ ex c s1,UW ex=some (some c)/\Ix ex s1/\s1.like st/\s1.loops=st.loops/\s=s1.push { la0 with st := .done,pend:=some c }
 have j:=hit st.loops.length J Jx (fun i s ⟨s1,F,u,j3,j4⟩=>⟨by rw [j4];exact hFr i s1 la0 F u j3,by rw [j4];simp [St.push,j3]⟩)
  (fun i s x X hX ⟨s1,F,u,j3,j4⟩ N=>by
   subst j4
   have:=ZbI rfl (hPX X hX) (P:=P) (w0:=w0) (la:=la0) (s1:=s1) (X:=X) (I:=fun ex s=>match ex with | .normal=>I (i+1) s | _=>Ix ex s) (x:=x)
    (Post:=fun r s'=>∃ t,s'=t.ext X/\t.like (s1.push la0)/\((r = .val (.bool true)/\J (i+1) t)\/(r = .val (.bool false)/\Jx t)))
    (hlen x (List.mem_of_getElem? N)) hps (fun M0 W0 l _ ad=>hbody i s1 X x M0 W0 l _ _ hX F u j3 N ad _ (fun e' s' h1 U=>⟨h1,U _ (fun _ _ _ h=>h)⟩))
    (fun ex s h=>by
     cases ex with
     | normal=>rfl
     | ret=>rfl
     | exit id=>rfl
     | _=>rcases hIx _ s h with h | ⟨id,h⟩<;>cases h)
    (fun ex am t hj t1 t2 t3=>by
     refine ⟨_,rfl,⟨t1.1,t1.2.1,by simp [St.push,t2]⟩,?_⟩
     have like':t.like st:=⟨t1.1.trans u.1,Nat.le_trans u.2.1 t1.2.1,t1.2.2.trans u.2.2⟩
     cases ex with
     | normal=>cases hj;exact .inl ⟨rfl,t,t3,like',t2.trans j3,rfl⟩
     | ret=>cases hj;exact .inr ⟨rfl,.ret,.ret,t,rfl,t3,like',t2.trans j3,rfl⟩
     | exit id=>cases hj;exact .inr ⟨rfl,.exit id,.exit id,t,rfl,t3,like',t2.trans j3,rfl⟩
     | _=>cases hj)
   rw [j3] at this
   exact this)
  (st.push la0) ⟨st,h0,⟨rfl,Nat.le_refl _,rfl⟩,rfl,rfl⟩
 have G:RowR w0 M1 W1 (#[.func (.yield (w.heap.size+1)) #[] #[]]++cs) (.yld st.loops.length::caps):=by
  have e1:RowR w0 M1 W1 #[.func (.yield (w.heap.size+1)) #[] #[]] [.yld st.loops.length]:=by
   refine ⟨rfl,fun i h1 U=>?_⟩
   have:i=0:=by simp at U;exact U
   subst this
   have:=R.yld (w0:=w0) (M:=M1) (w:=W1) (k:=st.loops.length) (by omega)
   rw [E] at this
   exact this
  have e2:RowR w0 M1 W1 cs caps:=⟨C.1,fun i h1 U=>(C.2 i h1 U).mono n2⟩
  exact e1.append e2
 refine ⟨w.heap.size+1,[{ target := .collected w.heap.size,args := #[] }],W1,{ target := .fn (.func gf) cs,args := #[.func (.yield (w.heap.size+1)) #[] #[]] },W1,gf,
  #[.func (.yield (w.heap.size+1)) #[] #[]]++cs,W1,?_,?_,?_,?_,fun q=>Re none q m,?_⟩
 ·rw [<-hW1];exact run_enterLoop_outer _ _ _ _ _
 ·simp only [resolve,af]
  simp [go_sem]
 ·intro f' _;exact PP none f'
 ·simp [invoke,go_sem,j.1 _ W1]
 ·refine Qp ((j.2 M1 W1 _ n1 G).mono ?_)
  rintro en w3 ⟨v,M3,r,s3,rfl,hp,x3,r3,_⟩
  have ag:M3.lb st.loops.length=w.heap.size+1:=(x3.lb _ (by omega)).trans E
  have d:∀ (s1 X:St) (p:Option Code) (b:LoopState),b ≠ .busy->s3=(s1.push { la0 with st:=b,pend:=p }).ext X->s1.loops=st.loops ->
    ∃ O,(Instr.endLoop (w.heap.size+1)).run P w3 = .ok p O/\At w0 n M0 W0 e ((s1.push { la0 with st := .exhausted,pend:=p }).ext X) { a with defers:=[{ target := .collected w.heap.size,args := #[] }]++a.defers } O M3:=by
   intro s1 X p b aa hs3 V
   subst hs3
   have Z:((s1.push { la0 with st:=b,pend:=p }).ext X).loops[st.loops.length]? = some { la0 with st:=b,pend:=p }:=by
    simp [St.push,St.ext,V]
   obtain ⟨H,g1,g2,g3,_⟩:=(r3.loop.record _ _ Z).2.loop rfl
   simp only at g2 g3
   obtain ⟨z1,z2⟩:=r3.setLoop Z .exhausted p g1
   rw [ag] at g1 z1 z2
   have o:=run_endLoop (P:=P) g1 (by rw [g2];exact aa)
   have er:({ H with state:=LoopState.exhausted,pending:=p }:Loop)={ H with state:=LoopState.exhausted }:=by rw [<-g3]
   rw [er] at z1 z2
   have o:=o.trans (congrArg (fun q=>Result.ok q _) g3)
   have eL:{ ((s1.push { la0 with st:=b,pend:=p }).ext X) with loops:=((s1.push { la0 with st:=b,pend:=p }).ext X).loops.set st.loops.length { la0 with st := .exhausted,pend:=p } }=(s1.push { la0 with st := .exhausted,pend:=p }).ext X:=by
    simp only [St.push,St.ext,V,List.append_assoc]
    rw [List.set_append_right _ _ (by simp)]
    simp
   simp only at z1
   have N:Ext w0 M w M3 (w3.putObj (w.heap.size+1) (.loop { H with state := .exhausted })):=n2.trans (x3.trans z2)
   refine ⟨_,o,⟨⟨?_,f.rel.size,fun s x hs=>(f.rel.env s x hs).mono N⟩,f.ext.trans N,?_⟩⟩
   ·rw [<-eL];exact z1
   ·obtain ⟨Ds,d1,d2,d3⟩:=f.marks.later N f.rel.st
    obtain ⟨Ds',ao,ai,ab⟩:=f.marks
    have ae:Ds'=Ds:=by
     rw [ai] at d2
     have aj:Function.Injective (fun D=>({ target := .collected D,args := #[] }:Deferred)):=fun x y h=>by simpa using h
     exact List.map_inj_right (fun x y h=>aj h) |>.1 d2
    refine ⟨w.heap.size::Ds,List.nodup_cons.2 ⟨fun hm=>?_,d1⟩,by simp [d2],fun D hD=>?_⟩
    ·have:=(ab _ (ae▸hm)).2
     have:=(Array.getElem?_eq_some_iff.1 this).1
     omega
    ·rcases List.mem_cons.1 hD with rfl | hD
     ·refine ⟨f.ext.size,?_⟩
      rw [World.putObj_heap_other (by omega)]
      refine x3.objs _ _ z rfl fun k Z=>?_
      by_cases c:k=st.loops.length
      ·subst c;omega
      ·have:=Y k (by omega)
       omega
     ·exact d3 D hD
  obtain ⟨t,X,hX,rfl,hp⟩:=hp
  rcases hp with ⟨s1,F,u,j3,rfl⟩ | ⟨ex,c,s1,j0,F,u,j3,rfl⟩
  ·obtain ⟨O,q1,q2⟩:=d s1 X none .ready (by simp) rfl j3
   exact ⟨none,O,q1,M3,e,_,q2,hdone s1 _ X hX F u j3⟩
  ·obtain ⟨O,q1,q2⟩:=d s1 X (some c) .done (by simp) rfl j3
   refine ⟨some c,O,q1,?_⟩
   have hq:=hleft ex s1 { la0 with st := .exhausted,pend:=some c } X hX F u j3
   cases ex with
   | ret=>cases j0;exact wpIn_ret ⟨M3,e,_,q2,hq⟩
   | exit id=>cases j0;exact wpIn_exit ⟨M3,e,_,q2,hq⟩
   | _=>cases j0
end
attribute [go_sem] wrapM.eq_1 wrapM.eq_2 wrapM.eq_3 wrapM.eq_4 wrapM.eq_5 wrapM.eq_6 wrapM.eq_7 wrapM.eq_8 wrapM.eq_9 wrapM.eq_10 wrapM.eq_11 wrapM.eq_12 wrapM.eq_13 wrapM.eq_14 wrapM.eq_15 wrapM.eq_16 wrapM.eq_17 Vb
attribute [go_sem] ZcR Q2 eqCell.eq_1 eqCell.eq_2 eqCell.eq_3 MJ Uo II argP CV looks Zeo Op.operands Call.operands Array.toList_append Option.toArray evS Kq IB C5 A6 AN Az look IX C9 UX UP Zd8 U8 QV XJ I3 Nc OY Ql I2 SQ DC NW inK Own.under Ax IA St.ext St.push St.cut V0 PL XG evBin.eq_1 evBin.eq_2 evBin.eq_3 evBin.eq_4 evBin.eq_5 evBin.eq_6 evBin.eq_7 evBin.eq_8 evBin.eq_9 evBin.eq_10 evBin.eq_11 evBin.eq_12 evBin.eq_13 evBin.eq_14 evBin.eq_15 evBin.eq_16 evBin.eq_17 evBin.eq_18 evBin.eq_19 evBB.eq_1 evBB.eq_2 evUn.eq_1 evUn.eq_2
@[go_sem] theorem ZfS (k:Nat):Uw (.tmp k)=false:=rfl
@[go_sem] theorem Zcd (v:Value):Uw (.const v)=IQ v:=rfl
@[go_sem] theorem Zfc (k:IntKind) (n:Int):IQ (.int k n)=false:=rfl
@[go_sem] theorem ZeQ (s:ByteArray):IQ (.string s)=false:=rfl
@[go_sem] theorem ZcQ (b:Bool):IQ (.bool b)=false:=rfl
@[go_sem] theorem ZeO:IQ .nilIface=true:=rfl
@[go_sem] theorem Zgk (t:TypeId) (v:Value):IQ (.iface t v)=false:=rfl
@[go_sem] theorem ZfF (k:Nat):W7 (.tmp k)=false:=rfl
@[go_sem] theorem Zb0 (v:Value):W7 (.const v)=Ly v:=rfl
@[go_sem] theorem Zc9 (k:IntKind) (n:Int):Ly (.int k n)=false:=rfl
@[go_sem] theorem ZdY (s:ByteArray):Ly (.string s)=false:=rfl
@[go_sem] theorem Zb4 (b:Bool):Ly (.bool b)=false:=rfl
@[go_sem] theorem Zcn:Ly .nilIface=false:=rfl
@[go_sem] theorem ZeK (t:TypeId) (v:Value):Ly (.iface t v)=false:=rfl
@[go_sem] theorem ZgX (v:Value):TT .eql v=(Wu v=true,IQ v):=rfl
@[go_sem] theorem ZgM (v:Value):TT .neq v=(Wu v=true,!IQ v):=rfl
@[go_sem] theorem ZcO (v:Value):EV (.val v:AV)=true:=rfl
@[go_sem] theorem Zb3 (xs:List AV) (o:Own):EV (.list xs o:AV)=false:=rfl
@[go_sem] theorem Zb8 (x:AV) (k:Nat):EV (.elem x k:AV)=false:=rfl
@[go_sem] theorem Zd6 (l k:Nat):EV (.box l k:AV)=false:=rfl
@[go_sem] theorem Zem (f:FuncId) (cs:List AV):EV (.clo f cs:AV)=false:=rfl
@[go_sem] theorem Zey (f:FuncId) (cs:List AV):EV (.bnd f cs:AV)=false:=rfl
@[go_sem] theorem Zd7 (cs:List AV):EV (.agg cs:AV)=false:=rfl
@[go_sem] theorem ZdG (vs:List AV):EV (.tup vs:AV)=false:=rfl
@[go_sem] theorem ZdN (k:Nat):EV (.yld k:AV)=false:=rfl
@[go_sem] theorem Zfm (k:Nat):EV (.mp k:AV)=false:=rfl
@[go_sem] theorem ZcH (l:List (Int × FuncId)):EV (.tab l:AV)=false:=rfl
@[go_sem] theorem Zcx (id ver o n:Nat):EV (.vec id ver o n:AV)=false:=rfl
@[go_sem] theorem Zeb (id ver o:Nat):EV (.vel id ver o:AV)=false:=rfl
@[go_sem] theorem ZcW (v:Value):HI (.val v:AV)=v:=rfl
@[go_sem] theorem Zim (xs:List AV) (o:Own):TI (.list xs o:AV)=false:=rfl
@[go_sem] theorem Zh4 (x:AV) (k:Nat):TI (.elem x k:AV)=false:=rfl
@[go_sem] theorem ZiJ (l k:Nat):TI (.box l k:AV)=false:=rfl
@[go_sem] theorem ZjE (f:FuncId) (cs:List AV):TI (.clo f cs:AV)=false:=rfl
@[go_sem] theorem ZiP (f:FuncId) (cs:List AV):TI (.bnd f cs:AV)=false:=rfl
@[go_sem] theorem Zjj (cs:List AV):TI (.agg cs:AV)=false:=rfl
@[go_sem] theorem Zjf (vs:List AV):TI (.tup vs:AV)=false:=rfl
@[go_sem] theorem ZiR (k:Nat):TI (.yld k:AV)=false:=rfl
@[go_sem] theorem ZkB (k:Nat):TI (.mp k:AV)=false:=rfl
@[go_sem] theorem Zj1 (l:List (Int × FuncId)):TI (.tab l:AV)=false:=rfl
@[go_sem] theorem ZjK (id ver o n:Nat):TI (.vec id ver o n:AV)=false:=rfl
@[go_sem] theorem Zjp (id ver o:Nat):TI (.vel id ver o:AV)=false:=rfl
@[go_sem] theorem ZeF (xs:List AV) (o:Own):Ey (.list xs o:AV)=false:=rfl
@[go_sem] theorem Ze7 (x:AV) (k:Nat):Ey (.elem x k:AV)=false:=rfl
@[go_sem] theorem Zhh (l k:Nat):Ey (.box l k:AV)=false:=rfl
@[go_sem] theorem Zgr (f:FuncId) (cs:List AV):Ey (.clo f cs:AV)=false:=rfl
@[go_sem] theorem Zf2 (f:FuncId) (cs:List AV):Ey (.bnd f cs:AV)=false:=rfl
@[go_sem] theorem ZgF (cs:List AV):Ey (.agg cs:AV)=false:=rfl
@[go_sem] theorem Zgo (vs:List AV):Ey (.tup vs:AV)=false:=rfl
@[go_sem] theorem Zg0 (k:Nat):Ey (.yld k:AV)=false:=rfl
@[go_sem] theorem Zh3 (k:Nat):Ey (.mp k:AV)=false:=rfl
@[go_sem] theorem Zf4 (l:List (Int × FuncId)):Ey (.tab l:AV)=false:=rfl
@[go_sem] theorem Zgg (id ver o n:Nat):Ey (.vec id ver o n:AV)=false:=rfl
@[go_sem] theorem Zhz (id ver o:Nat):Ey (.vel id ver o:AV)=false:=rfl
@[go_sem] theorem Ze0 (xs:List AV) (o:Own):KT (.list xs o:AV)=false:=rfl
@[go_sem] theorem Ze1 (x:AV) (k:Nat):KT (.elem x k:AV)=false:=rfl
@[go_sem] theorem Zgq (l k:Nat):KT (.box l k:AV)=false:=rfl
@[go_sem] theorem Zg8 (f:FuncId) (cs:List AV):KT (.clo f cs:AV)=false:=rfl
@[go_sem] theorem ZfW (f:FuncId) (cs:List AV):KT (.bnd f cs:AV)=false:=rfl
@[go_sem] theorem Zgs (cs:List AV):KT (.agg cs:AV)=false:=rfl
@[go_sem] theorem Zhf (vs:List AV):KT (.tup vs:AV)=false:=rfl
@[go_sem] theorem Zgv (k:Nat):KT (.yld k:AV)=false:=rfl
@[go_sem] theorem Zh1 (k:Nat):KT (.mp k:AV)=false:=rfl
@[go_sem] theorem ZgY (l:List (Int × FuncId)):KT (.tab l:AV)=false:=rfl
@[go_sem] theorem ZgT (id ver o n:Nat):KT (.vec id ver o n:AV)=false:=rfl
@[go_sem] theorem ZhI (id ver o:Nat):KT (.vel id ver o:AV)=false:=rfl
@[go_sem] theorem ZhV (b:Bool):TI (.val (.bool b))=true:=rfl
@[go_sem] theorem ZiI (k:IntKind) (n:Int):TI (.val (.int k n))=false:=rfl
@[go_sem] theorem ZjQ (s:ByteArray):TI (.val (.string s))=false:=rfl
@[go_sem] theorem Zhx:TI (.val undef)=false:=rfl
@[go_sem] theorem Zj2 (b:Bool):JY (.val (.bool b))=b:=rfl
@[go_sem] theorem ZlK (k:IntKind) (n:Int):Ey (.val (.int k n))=true:=rfl
@[go_sem] theorem ZkL (k:IntKind) (n:Int):AX (.val (.int k n))=n:=rfl
@[go_sem] theorem ZiZ (k:IntKind) (n:Int):Ks (.val (.int k n))=k:=rfl
@[go_sem] theorem ZlJ (s:ByteArray):KT (.val (.string s))=true:=rfl
@[go_sem] theorem Zk3 (s:ByteArray):Zdv (.val (.string s))=s:=rfl
@[go_sem] theorem Zkm (n:Int):ZQ (.val (.int .u8 n))=(0<=n/\n<=255):=rfl
@[go_sem] theorem Zcp (xs:List AV) (o:Own):A0 (.list xs o:AV)=xs:=rfl
@[go_sem] theorem Zfl (v:Value):BK (.val v:AV)=false:=rfl
@[go_sem] theorem ZdE (xs:List AV) (o:Own):BK (.list xs o:AV)=true:=rfl
@[go_sem] theorem ZdZ (x:AV) (k:Nat):BK (.elem x k:AV)=false:=rfl
@[go_sem] theorem Zfy (l k:Nat):BK (.box l k:AV)=false:=rfl
@[go_sem] theorem ZeN (f:FuncId) (cs:List AV):BK (.clo f cs:AV)=false:=rfl
@[go_sem] theorem ZfB (f:FuncId) (cs:List AV):BK (.bnd f cs:AV)=false:=rfl
@[go_sem] theorem ZeE (cs:List AV):BK (.agg cs:AV)=false:=rfl
@[go_sem] theorem ZfQ (vs:List AV):BK (.tup vs:AV)=false:=rfl
@[go_sem] theorem ZfI (k:Nat):BK (.yld k:AV)=false:=rfl
@[go_sem] theorem ZhE (k:Nat):BK (.mp k:AV)=false:=rfl
@[go_sem] theorem ZfN (l:List (Int × FuncId)):BK (.tab l:AV)=false:=rfl
@[go_sem] theorem ZeM (id ver o n:Nat):BK (.vec id ver o n:AV)=false:=rfl
@[go_sem] theorem ZfK (id ver o:Nat):BK (.vel id ver o:AV)=false:=rfl
@[go_sem] theorem Zhm (v:Value):EE (.val v:AV)=0:=rfl
@[go_sem] theorem ZfP (xs:List AV) (o:Own):EE (.list xs o:AV)=0:=rfl
@[go_sem] theorem ZfL (x:AV) (k:Nat):EE (.elem x k:AV)=k:=rfl
@[go_sem] theorem Zf6 (l k:Nat):EE (.box l k:AV)=k:=rfl
@[go_sem] theorem ZgR (f:FuncId) (cs:List AV):EE (.clo f cs:AV)=0:=rfl
@[go_sem] theorem Zg9 (f:FuncId) (cs:List AV):EE (.bnd f cs:AV)=0:=rfl
@[go_sem] theorem Zhv (cs:List AV):EE (.agg cs:AV)=0:=rfl
@[go_sem] theorem Zhc (vs:List AV):EE (.tup vs:AV)=0:=rfl
@[go_sem] theorem Zhi (k:Nat):EE (.yld k:AV)=0:=rfl
@[go_sem] theorem Zii (k:Nat):EE (.mp k:AV)=0:=rfl
@[go_sem] theorem ZhB (l:List (Int × FuncId)):EE (.tab l:AV)=0:=rfl
@[go_sem] theorem Zg7 (id ver o n:Nat):EE (.vec id ver o n:AV)=0:=rfl
@[go_sem] theorem ZgV (id ver o:Nat):EE (.vel id ver o:AV)=o:=rfl
@[go_sem] theorem Zgt (v:Value):LN (.val v:AV)=false:=rfl
@[go_sem] theorem Zfj (xs:List AV) (o:Own):LN (.list xs o:AV)=false:=rfl
@[go_sem] theorem ZeT (x:AV) (k:Nat):LN (.elem x k:AV)=false:=rfl
@[go_sem] theorem Zhj (l k:Nat):LN (.box l k:AV)=true:=rfl
@[go_sem] theorem ZgG (f:FuncId) (cs:List AV):LN (.clo f cs:AV)=false:=rfl
@[go_sem] theorem ZgE (f:FuncId) (cs:List AV):LN (.bnd f cs:AV)=false:=rfl
@[go_sem] theorem ZfU (cs:List AV):LN (.agg cs:AV)=false:=rfl
@[go_sem] theorem Zf9 (vs:List AV):LN (.tup vs:AV)=false:=rfl
@[go_sem] theorem Zhd (k:Nat):LN (.yld k:AV)=false:=rfl
@[go_sem] theorem Zh5 (k:Nat):LN (.mp k:AV)=false:=rfl
@[go_sem] theorem ZgP (l:List (Int × FuncId)):LN (.tab l:AV)=false:=rfl
@[go_sem] theorem Zg2 (id ver o n:Nat):LN (.vec id ver o n:AV)=false:=rfl
@[go_sem] theorem Zht (id ver o:Nat):LN (.vel id ver o:AV)=true:=rfl
@[go_sem] theorem Zfk (v:Value):AP (.val v:AV)=true:=rfl
@[go_sem] theorem Zd9 (xs:List AV) (o:Own):AP (.list xs o:AV)=true:=rfl
@[go_sem] theorem Zcs (x:AV) (k:Nat):AP (.elem x k:AV)=true:=rfl
@[go_sem] theorem Zfd (l k:Nat):AP (.box l k:AV)=true:=rfl
@[go_sem] theorem ZfO (f:FuncId) (cs:List AV):AP (.clo f cs:AV)=true:=rfl
@[go_sem] theorem ZeL (f:FuncId) (cs:List AV):AP (.bnd f cs:AV)=true:=rfl
@[go_sem] theorem Zff (cs:List AV):AP (.agg cs:AV)=true:=rfl
@[go_sem] theorem Ze4 (vs:List AV):AP (.tup vs:AV)=false:=rfl
@[go_sem] theorem ZeY (k:Nat):AP (.yld k:AV)=true:=rfl
@[go_sem] theorem Zhr (k:Nat):AP (.mp k:AV)=true:=rfl
@[go_sem] theorem Zfo (l:List (Int × FuncId)):AP (.tab l:AV)=true:=rfl
@[go_sem] theorem Zfh (id ver o n:Nat):AP (.vec id ver o n:AV)=true:=rfl
@[go_sem] theorem Zfp (id ver o:Nat):AP (.vel id ver o:AV)=true:=rfl
@[go_sem] theorem Zfr (v:Value):FZ (.val v:AV)=false:=rfl
@[go_sem] theorem ZcT (xs:List AV) (o:Own):FZ (.list xs o:AV)=false:=rfl
@[go_sem] theorem Zcw (x:AV) (k:Nat):FZ (.elem x k:AV)=false:=rfl
@[go_sem] theorem ZeR (l k:Nat):FZ (.box l k:AV)=false:=rfl
@[go_sem] theorem Zfg (f:FuncId) (cs:List AV):FZ (.clo f cs:AV)=false:=rfl
@[go_sem] theorem ZfD (f:FuncId) (cs:List AV):FZ (.bnd f cs:AV)=false:=rfl
@[go_sem] theorem Ze8 (cs:List AV):FZ (.agg cs:AV)=true:=rfl
@[go_sem] theorem ZfC (vs:List AV):FZ (.tup vs:AV)=false:=rfl
@[go_sem] theorem Ze2 (k:Nat):FZ (.yld k:AV)=false:=rfl
@[go_sem] theorem Zf1 (k:Nat):FZ (.mp k:AV)=false:=rfl
@[go_sem] theorem ZfR (l:List (Int × FuncId)):FZ (.tab l:AV)=false:=rfl
@[go_sem] theorem Zfu (id ver o n:Nat):FZ (.vec id ver o n:AV)=false:=rfl
@[go_sem] theorem ZeJ (id ver o:Nat):FZ (.vel id ver o:AV)=false:=rfl
@[go_sem] theorem Zb6 (v:Value):AV.cells (.val v:AV)=[.val v]:=rfl
@[go_sem] theorem ZbO (xs:List AV) (o:Own):AV.cells (.list xs o:AV)=[.list xs o]:=rfl
@[go_sem] theorem Zbx (x:AV) (k:Nat):AV.cells (.elem x k:AV)=[.elem x k]:=rfl
@[go_sem] theorem Zb5 (l k:Nat):AV.cells (.box l k:AV)=[.box l k]:=rfl
@[go_sem] theorem Zb2 (f:FuncId) (cs:List AV):AV.cells (.clo f cs:AV)=[.clo f cs]:=rfl
@[go_sem] theorem Zca (f:FuncId) (cs:List AV):AV.cells (.bnd f cs:AV)=[.bnd f cs]:=rfl
@[go_sem] theorem Fj (cs:List AV):AV.cells (.agg cs:AV)=cs:=rfl
@[go_sem] theorem Zcc (vs:List AV):AV.cells (.tup vs:AV)=[.tup vs]:=rfl
@[go_sem] theorem Zb9 (k:Nat):AV.cells (.yld k:AV)=[.yld k]:=rfl
@[go_sem] theorem ZcK (k:Nat):AV.cells (.mp k:AV)=[.mp k]:=rfl
@[go_sem] theorem Zb7 (l:List (Int × FuncId)):AV.cells (.tab l:AV)=[.tab l]:=rfl
@[go_sem] theorem Zb1 (id ver o n:Nat):AV.cells (.vec id ver o n:AV)=[.vec id ver o n]:=rfl
@[go_sem] theorem Zcb (id ver o:Nat):AV.cells (.vel id ver o:AV)=[.vel id ver o]:=rfl
@[go_sem] theorem Ze3 (v:Value):AV.pub (.val v:AV) = .val v:=rfl
@[go_sem] theorem ZcL (xs:List AV) (o:Own):AV.pub (.list xs o:AV) = .list xs .none:=rfl
@[go_sem] theorem Zep (x:AV) (k:Nat):AV.pub (.elem x k:AV) = .elem x k:=rfl
@[go_sem] theorem Zfe (l k:Nat):AV.pub (.box l k:AV) = .box l k:=rfl
@[go_sem] theorem ZeP (f:FuncId) (cs:List AV):AV.pub (.clo f cs:AV) = .clo f cs:=rfl
@[go_sem] theorem Zfn (f:FuncId) (cs:List AV):AV.pub (.bnd f cs:AV) = .bnd f cs:=rfl
@[go_sem] theorem Zfq (cs:List AV):AV.pub (.agg cs:AV) = .agg (cs.map AV.pubCell):=rfl
@[go_sem] theorem ZeG (vs:List AV):AV.pub (.tup vs:AV) = .tup vs:=rfl
@[go_sem] theorem ZeW (k:Nat):AV.pub (.yld k:AV) = .yld k:=rfl
@[go_sem] theorem ZgU (k:Nat):AV.pub (.mp k:AV) = .mp k:=rfl
@[go_sem] theorem Ze5 (l:List (Int × FuncId)):AV.pub (.tab l:AV) = .tab l:=rfl
@[go_sem] theorem Ze6 (id ver o n:Nat):AV.pub (.vec id ver o n:AV) = .vec id ver o n:=rfl
@[go_sem] theorem ZeZ (id ver o:Nat):AV.pub (.vel id ver o:AV) = .vel id ver o:=rfl
@[go_sem] theorem ZaN (v:Value):AV.pubCell (.val v:AV) = .val v:=rfl
@[go_sem] theorem Zd (xs:List AV) (o:Own):AV.pubCell (.list xs o:AV) = .list xs .none:=rfl
@[go_sem] theorem Zg (x:AV) (k:Nat):AV.pubCell (.elem x k:AV) = .elem x k:=rfl
@[go_sem] theorem Zax (l k:Nat):AV.pubCell (.box l k:AV) = .box l k:=rfl
@[go_sem] theorem Zas (f:FuncId) (cs:List AV):AV.pubCell (.clo f cs:AV) = .clo f cs:=rfl
@[go_sem] theorem ZaK (f:FuncId) (cs:List AV):AV.pubCell (.bnd f cs:AV) = .bnd f cs:=rfl
@[go_sem] theorem Zal (cs:List AV):AV.pubCell (.agg cs:AV) = .agg cs:=rfl
@[go_sem] theorem ZaC (vs:List AV):AV.pubCell (.tup vs:AV) = .tup vs:=rfl
@[go_sem] theorem ZaP (k:Nat):AV.pubCell (.yld k:AV) = .yld k:=rfl
@[go_sem] theorem ZbL (k:Nat):AV.pubCell (.mp k:AV) = .mp k:=rfl
@[go_sem] theorem Zai (l:List (Int × FuncId)):AV.pubCell (.tab l:AV) = .tab l:=rfl
@[go_sem] theorem Zam (id ver o n:Nat):AV.pubCell (.vec id ver o n:AV) = .vec id ver o n:=rfl
@[go_sem] theorem Zac (id ver o:Nat):AV.pubCell (.vel id ver o:AV) = .vel id ver o:=rfl
@[go_sem] theorem ZfG (v:Value):AV.one (.val v:AV)=true:=rfl
@[go_sem] theorem Zdw (xs:List AV) (o:Own):AV.one (.list xs o:AV)=true:=rfl
@[go_sem] theorem Zcz (x:AV) (k:Nat):AV.one (.elem x k:AV)=true:=rfl
@[go_sem] theorem Zfb (l k:Nat):AV.one (.box l k:AV)=true:=rfl
@[go_sem] theorem Zfw (f:FuncId) (cs:List AV):AV.one (.clo f cs:AV)=true:=rfl
@[go_sem] theorem Zft (f:FuncId) (cs:List AV):AV.one (.bnd f cs:AV)=true:=rfl
@[go_sem] theorem ZeV (cs:List AV):AV.one (.agg cs:AV)=false:=rfl
@[go_sem] theorem ZfA (vs:List AV):AV.one (.tup vs:AV)=false:=rfl
@[go_sem] theorem ZfE (k:Nat):AV.one (.yld k:AV)=true:=rfl
@[go_sem] theorem ZgI (k:Nat):AV.one (.mp k:AV)=true:=rfl
@[go_sem] theorem ZeH (l:List (Int × FuncId)):AV.one (.tab l:AV)=true:=rfl
@[go_sem] theorem Zfs (id ver o n:Nat):AV.one (.vec id ver o n:AV)=true:=rfl
@[go_sem] theorem Ze9 (id ver o:Nat):AV.one (.vel id ver o:AV)=true:=rfl
@[go_sem] theorem ZfH (l o n:Nat):Si (.box l o) n = .box l (o+n):=rfl
@[go_sem] theorem Zfv (id ver o n:Nat):Si (.vel id ver o) n = .vel id ver (o+n):=rfl
@[go_sem] theorem Zdk (x:AV) (o n:Nat):Si (.elem x o) n = .elem x (o+n):=rfl
@[go_sem] theorem Zj5 (st:St) (l o:Nat) (xs:List AV):US st (.box l o) xs={ st with boxes:=st.boxes.set l (Bt (st.boxes.getD l []) o xs) }:=rfl
@[go_sem] theorem Zin (a b:AV):AV.sel true a b=a:=by unfold AV.sel;split<;>rfl
@[go_sem] theorem ZhA (a b:AV):AV.sel false a b=b:=by unfold AV.sel;split<;>rfl
@[go_sem] theorem ZhM (t a b:Bool):AV.sel t (.val (.bool a)) (.val (.bool b)) = .val (.bool (cond t a b)):=by cases t<;>rfl
attribute [go_sem] Eo Qe PT RU O3 Ro Dm Rt We Ya Wy V5
@[go_sem] theorem ZjA:JU []=[]:=rfl
@[go_sem] theorem ZjP (t:Nat) (r:List Operand):JU (.tmp t::r)=t::JU r:=rfl
@[go_sem] theorem Zhn (v:Value) (r:List Operand):JU (.const v::r)=JU r:=rfl
@[go_sem] theorem Zh6 (f:FuncId) (r:List Operand):JU (.func f::r)=JU r:=rfl
@[go_sem] theorem Zfa (g:Nat) (r:List Operand):JU (.global g::r)=JU r:=rfl
@[go_sem] theorem ZlX (p:Prop):(False->p)=True:=eq_true False.elim
@[go_sem] theorem ZmS (p:Prop):(True->p)=p:=propext ⟨fun h=>h trivial,fun h _=>h⟩
@[go_sem] theorem Znc (p:Sort _):(p->True)=True:=eq_true fun _=>trivial
@[go_sem] theorem ite_f (b c:Bool):(if b=true then c else false)=(b&&c):=by cases b<;>rfl
@[go_sem] theorem ite_t (b c:Bool):(if b=true then true else c)=(b||c):=by cases b<;>rfl
@[go_sem] theorem bif_f (b c:Bool):cond b c false=(b&&c):=by cases b<;>rfl
@[go_sem] theorem bif_t (b c:Bool):cond b true c=(b||c):=by cases b<;>rfl
@[go_sem] theorem Znv (b c:Bool):cond true b c=b:=rfl
@[go_sem] theorem ZnK (b c:Bool):cond false b c=c:=rfl
@[go_sem] theorem Zkq (b:Bool):(b == true)=b:=by cases b<;>rfl
@[go_sem] theorem Zi4 (b:Bool):(b == false) = !b:=by cases b<;>rfl
attribute [go_sem] List.filterMap_nil List.append_nil List.nil_append List.cons_append Option.toList List.map_cons List.map_nil and_imp not_false_eq_true true_and and_true forall_const imp_self reduceIte List.getElem?_cons_zero List.getElem?_cons_succ Ae Bool.true_and Bool.and_true Bool.false_and Bool.and_false Bool.or_true Bool.true_or Bool.or_false Bool.false_or List.toList_toArray List.mem_cons List.not_mem_nil or_false false_or forall_eq forall_eq_or_imp decide_eq_true_eq decide_eq_false_iff_not Bool.not_true Bool.not_false Bool.not_not
@[go_sem] theorem Znw (b:Bool):((!b)=true)=(b=false):=by cases b<;>simp
@[go_sem] theorem ZnA (b:Bool):((!b)=false)=(b=true):=by cases b<;>simp
@[go_sem] theorem ZnG (b c:Bool):((b&&c)=true)=(b=true/\c=true):=Bool.and_eq_true b c
@[go_sem] theorem Zj7 (n:Nat):(no_index (@OfNat.ofNat Int n instOfNat)).toNat = @OfNat.ofNat Nat n (instOfNatNat n):=rfl
@[go_sem] theorem Zlr (i:Decidable True) : @decide True i=true:=by cases i with | isTrue h=>rfl | isFalse h=>exact absurd trivial h
@[go_sem] theorem Zkw (i:Decidable False) : @decide False i=false:=by cases i with | isTrue h=>exact h.elim | isFalse h=>rfl
@[go_sem] theorem ZnM (b:Bool):(b == b)=true:=by cases b<;>rfl
@[go_sem] theorem Zkp (s:St):(s=s)=True:=eq_true rfl
@[go_sem] theorem tt_tt:(true=true)=True:=eq_true rfl
@[go_sem] theorem ff_tt:(false=true)=False:=eq_false (by decide)
@[go_sem] theorem tt_ff:(true=false)=False:=eq_false (by decide)
@[go_sem] theorem ff_ff:(false=false)=True:=eq_true rfl
@[go_sem] theorem Zkt (B l:Ao):(B++l).length=B.length+l.length:=List.length_append
@[go_sem] theorem Zll (B l:Ap):(B++l).length=B.length+l.length:=List.length_append
@[go_sem] theorem ZjR (B:Ao) (R:Ap) (L:Aq) (ks:List ByteArray):PZ ⟨B,R,L++[Za7 ks]⟩ L.length=some ks:=by simp [PZ,Za7]
@[go_sem] theorem ZlU (L:Aq) (a b:LoopA):(L++[a]).set L.length b=L++[b]:=by simp
@[go_sem] theorem ZaU (B l:Ao) (R:Ap) (L:Aq) (k o:Nat):Dv ⟨B++l,R,L⟩ (.box (B.length+k) o)=decide (k<l.length):=by simp [Dv]
@[go_sem] theorem Y0 (B l:Ao) (R:Ap) (L:Aq) (o:Nat):Dv ⟨B++l,R,L⟩ (.box B.length o)=decide (0<l.length):=by simp [Dv]
@[go_sem] theorem Zju (s:St) (x:AV) (o:Nat):Dv s (.elem x o)=AP x:=by cases x<;>rfl
@[go_sem] theorem YD (B l:Ao) (k:Nat):(B++l).getD (B.length+k) []=l.getD k []:=by
 rw [List.getD_eq_getElem?_getD,List.getElem?_append_right (by omega),Nat.add_sub_cancel_left,List.getD_eq_getElem?_getD]
@[go_sem] theorem Wv (B l:Ao):(B++l).getD B.length []=l.getD 0 []:=by
 rw [List.getD_eq_getElem?_getD,List.getElem?_append_right (by omega),Nat.sub_self,List.getD_eq_getElem?_getD]
@[go_sem] theorem Zit (B l:Ao) (R:Ap) (L:Aq) (k o:Nat):Bi ⟨B++l,R,L⟩ (.box (B.length+k) o)=l.getD k []:=YD B l k
@[go_sem] theorem Zga (B l:Ao) (R:Ap) (L:Aq) (o:Nat):Bi ⟨B++l,R,L⟩ (.box B.length o)=l.getD 0 []:=Wv B l
@[go_sem] theorem ZgB (s:St) (x:AV) (o:Nat):Bi s (.elem x o)=x.cells:=rfl
@[go_sem] theorem Zgn (B l:Ao) (k:Nat) (x:List AV):(B++l).set (B.length+k) x=B++l.set k x:=by rw [List.set_append_right _ _ (by omega),Nat.add_sub_cancel_left]
@[go_sem] theorem Zej (B l:Ao) (x:List AV):(B++l).set B.length x=B++l.set 0 x:=by rw [List.set_append_right _ _ (by omega),Nat.sub_self]
@[go_sem] theorem ZgJ (B l:Ap) (k:Nat):(B++l)[B.length+k]? = l[k]? := by rw [List.getElem?_append_right (by omega),Nat.add_sub_cancel_left]
@[go_sem] theorem Zcv (B l:Ap):(B++l)[B.length]? = l[0]? := by rw [List.getElem?_append_right (by omega),Nat.sub_self]
@[go_sem] theorem ZlF (B l:Ap) (k:Nat) (x:RowA):(B++l).set (B.length+k) x=B++l.set k x:=by rw [List.set_append_right _ _ (by omega),Nat.add_sub_cancel_left]
@[go_sem] theorem Zkv (B l:Ap) (x:RowA):(B++l).set B.length x=B++l.set 0 x:=by rw [List.set_append_right _ _ (by omega),Nat.sub_self]
attribute [go_sem] List.take_succ_cons List.take_zero List.take_nil List.drop_succ_cons List.drop_zero List.drop_nil Int.toNat_natCast List.append_assoc List.length_cons List.length_nil Nat.zero_add Nat.add_zero List.set_cons_zero List.set_cons_succ List.getD_cons_zero List.getD_cons_succ
@[go_sem] theorem ZiS (x v:AV):Bt [x] 0 [v]=[v]:=rfl
@[go_sem] theorem Zfx (l:List AV) (n:Nat) (h:l.length=n):(l.drop 0).take n=l:=by simp [<-h]
theorem AL {P:Program} {f:FuncId} {fn:Func} (hf:P.funcs[f]? = some fn) (hb:fn.body.isSome=true) (hn:fn.name ≠ "runtime.NumGoroutine"):Jh P f:=by
 obtain ⟨c,a⟩:=Option.isSome_iff_exists.1 hb
 exact Ev.enters_of hf a hn
theorem J9 {P:Program} {w0:World} {f:FuncId} {args:List AV} {st:St} {r:Value} (hen:Jh P f) (hr:I2 r=true)
  (h:∀ (M:Mem) (w:World) (vals:Array Value),Below w0.heap.size w0 w->RowR w0 M w vals args->Calls P f vals w fun en w'=>en = .returned r/\Below w.heap.size w w'):ACalls P w0 f args st fun v s=>v = .val r/\s=st :=
 ⟨hen,fun M w vals b a=>(h M w vals b.below a).mono fun en w' ⟨d,e⟩=>by
  obtain ⟨g,c⟩:=b.later e w.heap.size 0 (Nat.le_refl _) (.inr rfl)
  exact ⟨r,_,_,st,d,⟨rfl,rfl⟩,c,g,.flat hr⟩⟩
theorem QW {w0:World} {M:Mem} {w:World} {vals:Array Value} {us:List Value} (h:RowR w0 M w vals (us.map .val)):vals=us.toArray:=by
 apply Array.ext
 ·simpa using h.1
 ·intro i b c
  have a:i<us.length:=by simpa using c
  have:=h.2 i b (by simpa using a)
  simp only [List.getElem_map] at this
  simp only [List.getElem_toArray]
  exact this.val_inv.1
@[go_sem] theorem VJ (P:Program) (st:St) (t:TypeId) (xs:List AV) (x:AV):Bv P st t (.list xs .full) x=match It P t with
  | some (el,sz,_,by8)=>if (A0 x).length=0 then (BK x=true/\0<sz,.list xs .full,st)
   else (BK x=true/\Dq P el sz by8 xs.length (A0 x)/\(∀ y∈xs,y.cells.length=sz),.list (xs++(A0 x).map AV.pub) (.row st.rows.length),{ st with rows:=st.rows++[.grow (xs.length+(A0 x).length) sz] })
  | none=>(False,.junk,st):=rfl
@[go_sem] theorem WH (P:Program) (st:St) (t:TypeId) (xs:List AV) (id:Nat) (x:AV):Bv P st t (.list xs (.row id)) x=match It P t with
  | some (el,sz,_,by8)=>(BK x=true/\Dq P el sz by8 xs.length (A0 x)/\(∀ y∈xs,y.cells.length=sz)/\st.rows[id]? = some (.grow xs.length sz),.list (xs++(A0 x).map AV.pub) (.row id),{ st with rows:=st.rows.set id (.grow (xs.length+(A0 x).length) sz) })
  | none=>(False,.junk,st):=rfl
@[go_sem] theorem ZfJ (P:Program) (st:St) (t:TypeId) (ys:List AV) (x:AV):Bv P st t (.list ys .seed) x=match It P t with
  | some (el,sz,_,by8)=>if (A0 x).length=0 then (BK x=true/\0<sz,.list ys .seed,st)
   else (BK x=true/\Dq P el sz by8 0 (A0 x)/\ys.length=0/\0<(A0 x).length,.vec st.rows.length 0 0 (A0 x).length,{ st with rows:=st.rows++[.vec 0 sz ((A0 x).flatMap fun y=>y.pub.cells)] })
  | none=>(False,.junk,st):=rfl
@[go_sem] theorem ZgQ (P:Program) (st:St) (t:TypeId) (id ver o n:Nat) (x:AV):Bv P st t (.vec id ver o n) x=match It P t with
  | some (el,sz,_,by8)=>match ED st.rows id ver with
   | some (sz',cs)=>(BK x=true/\Dq P el sz by8 n (A0 x)/\sz'=sz/\o=0/\n*sz<=cs.length,.vec id (ver+1) 0 (n+(A0 x).length),{ st with rows:=st.rows.set id (.vec (ver+1) sz (cs.take (n*sz)++(A0 x).flatMap fun y=>y.pub.cells)) })
   | none=>(False,.junk,st)
  | none=>(False,.junk,st):=rfl
attribute [go_sem] Dq
@[go_sem] theorem Zli (B l:Ap) (k ver:Nat):ED (B++l) (B.length+k) ver=ED l k ver:=by simp [ED,ZgJ]
@[go_sem] theorem Zj4 (B l:Ap) (ver:Nat):ED (B++l) B.length ver=ED l 0 ver:=by simp [ED,Zcv]
@[go_sem] theorem Zku (ver sz:Nat) (cs:List AV) (l:Ap):ED (.vec ver sz cs::l) 0 ver=some (sz,cs):=by simp [ED]
@[go_sem] theorem Zkl (r:RowA) (l:Ap) (k ver:Nat):ED (r::l) (k+1) ver=ED l k ver:=by simp [ED]
@[go_sem] theorem ZkH (s:St) (id ver o:Nat):Dv s (.vel id ver o)=(ED s.rows id ver).isSome:=rfl
@[go_sem] theorem Zio (s:St) (id ver o:Nat):Bi s (.vel id ver o)=match ED s.rows id ver with | some (_,cs)=>cs | none=>[]:=rfl
@[go_sem] theorem ZeI (st:St) (id ver o:Nat) (xs:List AV):US st (.vel id ver o) xs=match ED st.rows id ver with
  | some (sz,cs)=>{ st with rows:=st.rows.set id (.vec ver sz (Bt cs o xs)) }
  | none=>st:=rfl
def Grow (Rw:Ap) (sz:Nat) (xs:List AV) (o:Own) (r:Ap):Prop:=(xs=[]/\o = .full/\r=[])\/(o = .row Rw.length/\r=[.grow xs.length sz])
theorem Grow.nil (Rw:Ap) (sz:Nat):Grow Rw sz [] .full [] := .inl ⟨rfl,rfl,rfl⟩
theorem Grow.more (Rw:Ap) (sz:Nat) (xs:List AV) (n:Nat) (h:xs.length=n):Grow Rw sz xs (.row Rw.length) [.grow n sz] := .inr ⟨rfl,by rw [h]⟩
theorem Grow.len {Rw r:List RowA} {sz:Nat} {xs:List AV} {o:Own} (h:Grow Rw sz xs o r):r.length<=1:=by
 rcases h with ⟨_,_,rfl⟩ | ⟨_,rfl⟩<;>simp
theorem VF {P:Program} {t el:TypeId} {sz by8:Nat} {ag:Bool} {Rw r:List RowA} {xs:List AV} {o:Own} (he:It P t=some (el,sz,ag,by8)) (hz:(Bn P el).isSome=true) (hs:0<sz) (h:Grow Rw sz xs o r) (B:Ao) (L:Aq) (y:AV) (o2:Own) :
  Bv P ⟨B,Rw++r,L⟩ t (.list xs o) (.list [y] o2)=(((xs.length+1)*by8<=140737488355328/\xs.length+1<=4611686018427387904/\(∀ y∈xs,y.cells.length=sz)/\y.cells.length=sz/\AP y=true),.list (xs++[y.pub]) (.row Rw.length),⟨B,Rw++[.grow (xs.length+1) sz],L⟩):=by
 rcases h with ⟨rfl,rfl,rfl⟩ | ⟨rfl,rfl⟩
 ·rw [VJ,he];simp [A0,BK,Dq,hz,hs]
 ·rw [WH,he];simp [A0,BK,Dq,hz,hs]
  exact ⟨fun ⟨⟨a,b,c,d⟩,e⟩=>⟨a,b,e,c,d⟩,fun ⟨a,b,e,c,d⟩=>⟨⟨a,b,c,d⟩,e⟩⟩
def Zad (c:Option IntKind × Bool) (x y:AV):Prop :=
 match x,y with
 | .val (.int k _),.val (.int k' _)=>c.1.isSome=true/\k=k'
 | .val (.string _),.val (.string _)=>c=(none,true)
 | .val (.bool _),.val (.bool _)=>c=(none,false)
 | _,_=>False
def Zd2 (P:Program) (t:TypeId):Option (Option IntKind × Bool) :=
 match Nj P t with
 | some k=>some (some k,false)
 | none=>if DU P t=true then some (none,true) else if ML P t=true then some (none,false) else none
def TK (P:Program):List Field->Nat->Option (List (Option IntKind × Bool))
 | [],_=>some []
 | f::fs,i=>if f.name ≠ "_" /\ f.offset=i/\GT P f.type=some (1,false) then
   match Zd2 P f.type,TK P fs (i+1) with
   | some k,some ks=>some (k::ks)
   | _,_=>none
  else none
def Zcg (P:Program) (t:TypeId):Option (List (Option IntKind × Bool)) :=
 match eqT P t with
 | some fs=>TK P fs 0
 | none=>none
def obK:List (Option IntKind × Bool)->List AV->List AV->Prop
 | [],[],[]=>True
 | k::ks,x::xs,y::ys=>Zad k x y/\obK ks xs ys
 | _,_,_=>False
theorem Zbn {P:Program} {t:TypeId} {k:Option IntKind × Bool} (h:Zd2 P t=some k) (x y:AV):KA P t x y=Zad k x y:=by
 have c:∀ j,Nj P t=some j->DU P t=false/\ML P t=false:=fun j hj=>by
  unfold Nj at hj
  unfold DU ML
  split at hj
  ·rename_i q;rw [q];exact ⟨rfl,rfl⟩
  ·cases hj
 have b:DU P t=true->ML P t=false:=fun hj=>by
  unfold DU at hj
  unfold ML
  split at hj
  ·rename_i q;rw [q]
  ·cases hj
 unfold Zd2 at h
 unfold KA Zad
 cases hi:Nj P t with
 | some j =>
  obtain ⟨q1,q2⟩:=c j hi
  rw [hi] at h
  cases h
  rw [q1,q2]
  split<;>simp
 | none =>
  rw [hi] at h
  simp only at h
  by_cases hs:DU P t=true
  ·rw [Ah hs] at h
   cases h
   rw [hs,b hs]
   split<;>simp
  ·rw [Ai hs] at h
   have a:DU P t=false:=by simpa using hs
   by_cases hb:ML P t=true
   ·rw [Ah hb] at h
    cases h
    rw [a,hb]
    split<;>simp
   ·rw [Ai hb] at h;cases h
theorem Zap {P:Program}:∀ (fs:List Field) (i:Nat) (ks:List (Option IntKind × Bool)),TK P fs i=some ks->∀ xs ys,Xc P fs i xs ys=obK ks xs ys
 | [],i,ks,h,xs,ys=>by
  cases h
  cases xs<;>cases ys<;>simp [Xc,obK]
 | f::fs,i,ks,h,xs,ys=>by
  unfold TK at h
  split at h
  ·rename_i q
   split at h
   ·rename_i k ks' h1 h2
    cases h
    cases xs with
    | nil=>cases ys<;>simp [Xc,obK]
    | cons x xs=>cases ys with
     | nil=>simp [Xc,obK]
     | cons y ys =>
      simp only [Xc,obK,Zap fs (i+1) ks' h2 xs ys,Zbn h1,q,true_and]
      simp [q.1]
   ·cases h
  ·cases h
theorem Zbs {P:Program} {t:TypeId} {ks:List (Option IntKind × Bool)} (h:Zcg P t=some ks) (xs ys:List AV):S0 P .neq t xs ys=(obK ks xs ys,!Q2 xs ys):=by
 unfold Zcg at h
 split at h
 ·rename_i fs q
  simp only [S0,q,Zap fs 0 ks h]
 ·cases h
attribute [go_sem] Zad obK
end Go.Ev
