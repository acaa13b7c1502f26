/-
  Part 2 of the proof: rules and walks that the claim's last text uses.
-/
import Derived.Attr
import Derived.Laws.BytesArg
import Derived.Laws.IdiomStrings
import Derived.Laws.MakeOwn
import Derived.Laws.Runes
import Derived.Lib.ConvBytes
import Derived.OrdersIn
import Derived.RangeFuncIn
import Derived.StillTail
import Derived.Test.YtcpmjgdlioggjaaGreatDoorKb1
set_option linter.unusedSimpArgs false
set_option linter.unusedVariables false
set_option maxRecDepth 100000
set_option maxHeartbeats 4000000
namespace Go.Ev
open Go Go.RowKit
section
variable {P:Program} {w0:World} {n:Nat} {M:Mem} {e:Env} {st:St} {a:Act} {w:World}
def flat (us:Nat->Value) (m:Nat):List Value:=(List.range m).flatMap fun i=>(us i).cells.toList
theorem Vd (us:Nat->Value) (m:Nat):flat us (m+1)=flat us m++(us m).cells.toList:=by
 simp [flat,List.range_succ]
theorem Bg {us:Nat->Value} {sz:Nat}:∀ {m:Nat},(∀ i,i<m->(us i).cells.size=sz)->(flat us m).length=m*sz
 | 0,_=>by simp [flat]
 | m+1,h=>by
  rw [Vd,List.length_append,Bg (fun i a=>h i (by omega)),Array.length_toList,h m (by omega),Nat.succ_mul]
theorem Hl {us:Nat->Value} {sz:Nat}:∀ {m:Nat},(∀ i,i<m->(us i).cells.size=sz)->∀ i,i<m->∀ j,j<sz->(flat us m)[i*sz+j]? = (us i).cells[j]?
 | 0,_,i,a,_,_=>absurd a (by omega)
 | m+1,h,i,a,j,hj=>by
  have d:=Bg (us:=us) (m:=m) (fun i a=>h i (by omega))
  rw [Vd,List.getElem?_append,d]
  by_cases c:i=m
  ·subst c
   rw [Aa,show i*sz+j-i*sz=j from by omega,Array.getElem?_toList]
  ·have b:(i+1)*sz<=m*sz:=Nat.mul_le_mul_right _ (by omega)
   rw [Nat.succ_mul] at b
   rw [Ab]
   exact Hl (fun i a=>h i (by omega)) i (by omega) j hj
theorem EB {us:Nat->Value} {sz m:Nat} (hs:∀ i,i<m->(us i).cells.size=sz) {b off:Nat} (hsz:0<sz) (hc:∀ i,i<m->∀ j,j<sz->w.cell? ⟨b,off+i*sz+j,none⟩=(us i).cells[j]?) :
  ∀ j u,(flat us m)[j]? = some u->w.cell? ((⟨b,off,none⟩:Addr).add j)=some u:=by
 intro j u g
 have l:=Bg hs
 have k:j<m*sz:=by rw [<-l];exact (Af.1 g).1
 have e:=Nat.div_add_mod j sz
 have d:j / sz<m:=(Nat.div_lt_iff_lt_mul hsz).2 k
 have a:=Nat.mod_lt j hsz
 have h:=Hl hs (j / sz) d (j % sz) a
 have c:=hc (j / sz) d (j % sz) a
 have f:j / sz*sz+j % sz=j:=by rw [Nat.mul_comm];exact e
 rw [f] at h
 rw [Nat.add_assoc,f] at c
 rw [Dx,c,<-h,g]
theorem R.list_open {v:Value} {xs:List AV} {o:Own} {sz:Nat} (h:R w0 M w v (.list xs o)) (hs:∀ y∈xs,y.cells.length=sz) :
  ∃ us:Nat->Value,(∀ i (hi:i<xs.length),(us i).cells.size=sz/\R w0 M w (us i) xs[i]) /\
   (((v = .slice none 0 0\/∃ ad,v = .slice (some ad) 0 0)/\xs=[]/\∀ id,o ≠ .row id)\/∃ b off cap sz',v = .slice (some ⟨b,off,none⟩) xs.length cap/\xs.length<=cap/\cap<=maxLen/\ZbI M b off cap xs.length sz' o /\
    ∀ i,i<xs.length->∀ j,j<sz->w.cell? ⟨b,off+i*sz+j,none⟩=(us i).cells[j]?):=by
 cases h with
 | nil ho=>exact ⟨fun _=>undef,fun i hi=>absurd hi (by simp),.inl ⟨.inl rfl,rfl,ho⟩⟩
 | emp ho=>exact ⟨fun _=>undef,fun i hi=>absurd hi (by simp),.inl ⟨.inr ⟨_,rfl⟩,rfl,ho⟩⟩
 | @list b off cap _ _ sz' us hc hm hcell hu ho =>
  have a:∀ i (hi:i<xs.length),(us i).cells.size=sz:=fun i hi=>by rw [(hu i hi).cells.1];exact hs _ (List.getElem_mem _)
  refine ⟨us,fun i hi=>⟨a i hi,hu i hi⟩,.inr ⟨b,off,cap,sz',rfl,hc,hm,ho,fun i hi j c=>?_⟩⟩
  have e:sz'=sz:=by rw [<-(hcell i hi).1,a i hi]
  subst e
  exact ((hcell i hi).2 j c).2
theorem Sr {us:Nat->Value} {xs:List AV} {sz:Nat} (hu:∀ i (hi:i<xs.length),(us i).cells.size=sz/\R w0 M w (us i) xs[i]) (hn:∀ y∈xs,A9 y=true):∀ u∈flat us xs.length,u.oneCell'=true:=by
 intro u g
 obtain ⟨i,hi,c⟩:=List.mem_flatMap.1 g
 have a:i<xs.length:=List.mem_range.1 hi
 obtain ⟨hs,d⟩:=hu i a
 obtain ⟨k,f,rfl⟩:=List.getElem_of_mem c
 simp only [Array.length_toList] at f
 rw [Array.getElem_toList]
 have b:=d.cellsOne (fun vs e=>by have:=hn _ (List.getElem_mem a);rw [e] at this;cases this)
 exact (d.cells.2 k f (by rw [<-d.cells.1];exact f)).oneCell (b _ (List.getElem_mem _))
def Mem.addRow (M:Mem) (b cap k sz tp:Nat):Mem :=
  { M with NR:=M.NR+1,fr:=fun i=>if i=M.NR then k else M.fr i,blk:=fun i=>if i=M.NR then b else M.blk i,cap:=fun i=>if i=M.NR then cap else M.cap i,
           rsz:=fun i=>if i=M.NR then sz else M.rsz i,top:=fun x=>if x=b then tp else M.top x }
def Mem.growRow (M:Mem) (id b cap k tp:Nat):Mem :=
 { M with fr:=fun i=>if i=id then k else M.fr i,blk:=fun i=>if i=id then b else M.blk i,cap:=fun i=>if i=id then cap else M.cap i,top:=fun x=>if x=b then tp else M.top x }
theorem I6 {id cap k tp b:Nat} (hid:id<M.NR) (h:M.foreign b):(M.growRow id (M.blk id) cap k tp).foreign b/\(M.growRow id (M.blk id) cap k tp).top b=M.top b:=by
 refine ⟨⟨h.1,fun i a=>?_,h.2.2⟩,?_⟩
 ·simp only [Mem.growRow]
  split
  ·exact h.2.1 id hid
  ·exact h.2.1 i a
 ·simp only [Mem.growRow]
  rw [Ae (fun e=>h.2.1 id hid e.symm)]
theorem Ld {id g cap k tp b:Nat} (hb:b<g) (h:M.foreign b):(M.growRow id g cap k tp).foreign b:=by
 refine ⟨h.1,fun i a=>?_,h.2.2⟩
 simp only [Mem.growRow]
 split
 ·omega
 ·exact h.2.1 i a
theorem RelSt.addRow' (h:RelSt w0 M st w) {cs:Array Value} {ty:TypeId} {cap k sz tp:Nat} {x:RowA}
  (hnew:Ext w0 M w (M.addRow w.heap.size cap k sz tp) (w.alloc (.cells cs ty))->(∀ l,l<M.N->M.bx l≠w.heap.size)->RowOk w0 (M.addRow w.heap.size cap k sz tp) (w.alloc (.cells cs ty)) M.NR x) :
  RelSt w0 (M.addRow w.heap.size cap k sz tp) { st with rows:=st.rows++[x] } (w.alloc (.cells cs ty))/\Ext w0 M w (M.addRow w.heap.size cap k sz tp) (w.alloc (.cells cs ty)):=by
 have f:∀ b,b<w.heap.size->(M.addRow w.heap.size cap k sz tp).top b=M.top b:=fun b v=>by simp [Mem.addRow];omega
 have a:∀ i,i<M.NR->(M.addRow w.heap.size cap k sz tp).fr i=M.fr i/\(M.addRow w.heap.size cap k sz tp).blk i=M.blk i/\(M.addRow w.heap.size cap k sz tp).cap i=M.cap i/\(M.addRow w.heap.size cap k sz tp).rsz i=M.rsz i:=by
  intro i g
  have:¬ i=M.NR:=by omega
  simp [Mem.addRow,this]
 have n:Ext w0 M w (M.addRow w.heap.size cap k sz tp) (w.alloc (.cells cs ty)) :=
  On _ _ (.inl rfl) (fun _ _=>rfl) (Nat.le_succ _) (fun i g=>by obtain ⟨a1,a2,a3,a4⟩:=a i g;exact ⟨by omega,fun _=>⟨a2,a3,a4⟩⟩) f (fun b v q=>⟨q.1,fun i g=>by
   by_cases c:i=M.NR
   ·subst c;simp only [Mem.addRow,if_true];omega
   ·have m:i<M.NR:=by simp only [Mem.addRow] at g;omega
    rw [(a i m).2.1];exact q.2.1 i m,q.2.2⟩)
 have t:∀ l,l<M.N->M.bx l≠w.heap.size:=fun l u=>by have:=h.box_lt u;omega
 refine ⟨⟨h.below.alloc h.base_le _,h.N,by simp [Mem.addRow,h.NR],fun b v=>?_,h.inj,fun l c u=>?_,fun id y hid=>?_,fun i j g G d=>?_,h.loop.mono n rfl (KeepsObj.alloc _ _)⟩,n⟩
 ·simp at v
  have:(M.addRow w.heap.size cap k sz tp).top b=M.top b:=by simp [Mem.addRow];omega
  rw [this]
  exact h.top b (by omega)
 ·obtain ⟨a1,a2,F,s,a3,a4,a5,a6⟩:=h.box l c u
  have p:=(Array.getElem?_eq_some_iff.1 a3).1
  exact ⟨a1,by rw [show (M.addRow w.heap.size cap k sz tp).bx l=M.bx l from rfl,f _ p];exact a2,F,s,by rw [show (M.addRow w.heap.size cap k sz tp).bx l=M.bx l from rfl,Bh _ _ p];exact a3,a4,a5,fun i D C=>(a6 i D C).mono n⟩
 ·by_cases e1:id=M.NR
  ·subst e1
   simp only [h.NR,List.getElem?_concat_length,Option.some.injEq] at hid
   subst hid
   exact hnew n t
  ·have e:id<M.NR:=by
    have:id<(st.rows++[x]).length:=(Af.1 hid).1
    have z:=h.NR
    simp at this
    omega
   rw [List.getElem?_append_left (by rw [<-h.NR];exact e)] at hid
   have r:=h.row id y hid
   obtain ⟨o1,o2,E,H⟩:=a id e
   exact r.keep n o1 H o2 E (f _ r.lt) r.ne (Bh _ _ r.lt)
 ·have z:(M.addRow w.heap.size cap k sz tp).NR=M.NR+1:=rfl
  rw [z] at g G
  have o:(M.addRow w.heap.size cap k sz tp).blk M.NR=w.heap.size:=by simp [Mem.addRow]
  by_cases e1:i=M.NR
  ·by_cases e2:j=M.NR
   ·omega
   ·subst e1
    rw [o,(a j (by omega)).2.1] at d
    have:=h.row_lt (i:=j) (by omega)
    omega
  ·by_cases e2:j=M.NR
   ·subst e2
    rw [o,(a i (by omega)).2.1] at d
    have:=h.row_lt (i:=i) (by omega)
    omega
   ·rw [(a i (by omega)).2.1,(a j (by omega)).2.1] at d
    exact h.rowinj i j (by omega) (by omega) d
theorem RelSt.addRow (h:RelSt w0 M st w) {cs:Array Value} {ty:TypeId} {cap k sz:Nat} (hm:cap<=maxLen) (hk:k<=cap) (hs:cs.size=cap*sz) :
  RelSt w0 (M.addRow w.heap.size cap k sz (k*sz)) { st with rows:=st.rows++[.grow k sz] } (w.alloc (.cells cs ty))/\Ext w0 M w (M.addRow w.heap.size cap k sz (k*sz)) (w.alloc (.cells cs ty)) :=
 h.addRow' fun _ a=>by
  have q:(M.addRow w.heap.size cap k sz (k*sz)).fr M.NR=k/\(M.addRow w.heap.size cap k sz (k*sz)).blk M.NR=w.heap.size/\(M.addRow w.heap.size cap k sz (k*sz)).cap M.NR=cap/\(M.addRow w.heap.size cap k sz (k*sz)).rsz M.NR=sz/\(M.addRow w.heap.size cap k sz (k*sz)).top w.heap.size=k*sz:=by simp [Mem.addRow]
  obtain ⟨q1,q2,q3,b,c⟩:=q
  simp only [RowOk,q1,q2,q3,b,c]
  exact ⟨trivial,trivial,h.base_le,trivial,a,hm,hk,cs,ty,heap_alloc_new w _,hs⟩
theorem RelSt.addVec (h:RelSt w0 M st w) {cs:Array Value} {ty:TypeId} {cap sz:Nat} {xs:List AV} (hm:cap<=maxLen) (hz:0<sz) (hs:cs.size=cap*sz) (hl:xs.length<=cs.size) (h1:∀ x∈xs,x.one=true) (hR:∀ (i:Nat) (v:Value) (x:AV),cs[i]? = some v->xs[i]? = some x->R w0 M w v x) :
  RelSt w0 (M.addRow w.heap.size cap 0 sz 0) { st with rows:=st.rows++[.vec 0 sz xs] } (w.alloc (.cells cs ty))/\Ext w0 M w (M.addRow w.heap.size cap 0 sz 0) (w.alloc (.cells cs ty)) :=
 h.addRow' fun d c=>by
  have q:(M.addRow w.heap.size cap 0 sz 0).fr M.NR=0/\(M.addRow w.heap.size cap 0 sz 0).blk M.NR=w.heap.size/\(M.addRow w.heap.size cap 0 sz 0).cap M.NR=cap/\(M.addRow w.heap.size cap 0 sz 0).rsz M.NR=sz/\(M.addRow w.heap.size cap 0 sz 0).top w.heap.size=0:=by simp [Mem.addRow]
  obtain ⟨q1,q2,q3,e,f⟩:=q
  simp only [RowOk,q1,q2,q3,e,f]
  exact ⟨trivial,trivial,h.base_le,trivial,c,hm,hz,cs,ty,heap_alloc_new w _,hs,hl,h1,fun i a b=>(hR i _ _ (Array.getElem?_eq_getElem a) (List.getElem?_eq_getElem b)).mono d⟩
theorem RelSt.growRow' (h:RelSt w0 M st w) {id:Nat} {x0 x:RowA} (hid:st.rows[id]? = some x0) {w':World} {b cap k tp:Nat} (hbelow:Below w0.heap.size w w')
  (hsize:w.heap.size<=w'.heap.size) (hbw:b<w'.heap.size) (hbox:∀ l,l<M.N->M.bx l≠b/\w'.heap[M.bx l]? = w.heap[M.bx l]?) (hrow:∀ i,i<M.NR->i≠id->M.blk i≠b/\w'.heap[M.blk i]? = w.heap[M.blk i]?)
  (hnew:RowOk w0 (M.growRow id b cap k tp) w' id x) (hx:Ext w0 M w (M.growRow id b cap k tp) w') (hko:KeepsObj w w') :
  RelSt w0 (M.growRow id b cap k tp) { st with rows:=st.rows.set id x } w':=by
 have e:id<st.rows.length:=(Af.1 hid).1
 refine ⟨h.below.trans hbelow,h.N,by simp [Mem.growRow,h.NR],fun y t=>?_,h.inj,fun l c r=>?_,fun i y hi=>?_,fun i j hi o a=>?_,h.loop.mono hx rfl hko⟩
 ·have:(M.growRow id b cap k tp).top y=M.top y:=by simp [Mem.growRow];omega
  rw [this]
  exact h.top y (by omega)
 ·obtain ⟨a1,a2,z,p,a3,a4,a5,a6⟩:=h.box l c r
  have n:l<M.N:=by rw [h.N];exact (Af.1 r).1
  obtain ⟨g,f⟩:=hbox l n
  refine ⟨a1,?_,z,p,by rw [show (M.growRow id b cap k tp).bx l=M.bx l from rfl,f];exact a3,a4,a5,fun i g f=>(a6 i g f).mono hx⟩
  show (M.growRow id b cap k tp).top (M.bx l)=0
  simp [Mem.growRow,g,a2]
 ·by_cases e1:i=id
  ·subst e1
   rw [List.getElem?_set_self e] at hi
   cases hi
   exact hnew
  ·rw [List.getElem?_set_ne (Ne.symm e1)] at hi
   have m:i<M.NR:=by rw [h.NR];exact (Af.1 hi).1
   have s:=h.row i y hi
   obtain ⟨g,f⟩:=hrow i m e1
   have q:(M.growRow id b cap k tp).fr i=M.fr i/\(M.growRow id b cap k tp).blk i=M.blk i/\(M.growRow id b cap k tp).cap i=M.cap i/\(M.growRow id b cap k tp).rsz i=M.rsz i/\(M.growRow id b cap k tp).top (M.blk i)=M.top (M.blk i):=by simp [Mem.growRow,e1,g]
   obtain ⟨q1,q2,q3,C,v⟩:=q
   exact s.keep hx q1 C q2 q3 v s.ne f
 ·have d:∀ j,(M.growRow id b cap k tp).blk j=if j=id then b else M.blk j:=fun j=>rfl
  rw [d,d] at a
  have u:(M.growRow id b cap k tp).NR=M.NR:=rfl
  rw [u] at hi o
  by_cases e1:i=id
  ·by_cases e2:j=id
   ·omega
   ·rw [Ad e1,Ae e2] at a
    exact absurd a.symm (hrow j o e2).1
  ·by_cases e2:j=id
   ·rw [Ae e1,Ad e2] at a
    exact absurd a (hrow i hi e1).1
   ·rw [Ae e1,Ae e2] at a
    exact h.rowinj i j hi o a
theorem RelSt.growRow (h:RelSt w0 M st w) {id:Nat} {k0 sz:Nat} (hid:st.rows[id]? = some (.grow k0 sz)) {w':World} {b cap k:Nat} (hb0:w0.heap.size<=b) (hbelow:Below w0.heap.size w w')
  (hsize:w.heap.size<=w'.heap.size) (hbw:b<w'.heap.size) (hm:cap<=maxLen) (hk:k<=cap) (hbox:∀ l,l<M.N->M.bx l≠b/\w'.heap[M.bx l]? = w.heap[M.bx l]?) (hrow:∀ i,i<M.NR->i≠id->M.blk i≠b/\w'.heap[M.blk i]? = w.heap[M.blk i]?)
  {cs:Array Value} {ty:TypeId} (hcs:w'.heap[b]? = some (.cells cs ty (0,0))) (hs:cs.size=cap*sz) (hx:Ext w0 M w (M.growRow id b cap k (k*sz)) w') (hko:KeepsObj w w') :
  RelSt w0 (M.growRow id b cap k (k*sz)) { st with rows:=st.rows.set id (.grow k sz) } w':=by
 refine h.growRow' hid hbelow hsize hbw hbox hrow ?_ hx hko
 have q:(M.growRow id b cap k (k*sz)).fr id=k/\(M.growRow id b cap k (k*sz)).blk id=b/\(M.growRow id b cap k (k*sz)).cap id=cap/\(M.growRow id b cap k (k*sz)).rsz id=M.rsz id/\(M.growRow id b cap k (k*sz)).top b=k*sz:=by simp [Mem.growRow]
 obtain ⟨q1,q2,q3,a,c⟩:=q
 simp only [RowOk,q1,q2,q3,a,c]
 exact ⟨trivial,(h.row id _ hid).2.1,hb0,trivial,fun l d=>(hbox l d).1,hm,hk,cs,ty,hcs,hs⟩
def VY (us ux:Nat->Value) (k:Nat):Nat->Value:=fun i=>if i<k then us i else ux (i-k)
theorem X4 {us ux:Nat->Value} {xs ys:List AV} {sz:Nat} {M':Mem} {w':World} (hx:Ext w0 M w M' w') (h1:∀ i (hi:i<xs.length),(us i).cells.size=sz/\R w0 M w (us i) xs[i]) (h2:∀ i (hi:i<ys.length),(ux i).cells.size=sz/\R w0 M w (ux i) ys[i]) :
  ∀ i (hi:i<(xs++ys.map AV.pub).length),(VY us ux xs.length i).cells.size=sz/\R w0 M' w' (VY us ux xs.length i) (xs++ys.map AV.pub)[i]:=by
 intro i hi
 unfold VY
 by_cases c:i<xs.length
 ·rw [Ad c,List.getElem_append_left c]
  exact ⟨(h1 i c).1,((h1 i c).2).mono hx⟩
 ·simp at hi
  rw [Ae c,List.getElem_append_right (by omega),List.getElem_map]
  exact ⟨(h2 _ (by omega)).1,((h2 _ (by omega)).2).pub.mono hx⟩
theorem Xp {us ux:Nat->Value} {k m sz:Nat} (hs:∀ i,i<k->(us i).cells.size=sz) (hx:∀ i,i<m->(ux i).cells.size=sz) (zs:List Value) :
  ∀ i,i<k+m->∀ j,j<sz->(flat us k++flat ux m++zs)[i*sz+j]? = (VY us ux k i).cells[j]? := by
 intro i f j a
 have b:=Bg hs
 have d:=Bg hx
 rw [List.append_assoc,List.getElem?_append,b]
 unfold VY
 by_cases c:i<k
 ·have q:(i+1)*sz<=k*sz:=Nat.mul_le_mul_right _ c
  rw [Nat.succ_mul] at q
  rw [Ab,Ad c]
  exact Hl hs i c j a
 ·have q:k*sz<=i*sz:=Nat.mul_le_mul_right _ (by omega)
  have q2:(i-k+1)*sz<=m*sz:=Nat.mul_le_mul_right _ (by omega)
  rw [Nat.succ_mul] at q2
  have e:i*sz=k*sz+(i-k)*sz:=by rw [<-Nat.add_mul];congr 1;omega
  rw [Aa,Ae c,List.getElem?_append,d,Ab,show i*sz+j-k*sz=(i-k)*sz+j from by omega]
  exact Hl hx (i-k) (by omega) j a
theorem Xw (t ty el:TypeId) {sz:Nat} {ag:Bool} (ht:P.underlying t=some (.slice el)) (hty:Fv P el=some (sz,ag)) (g k cap:Nat) (cur:Array Value) (te:TypeId) (hg:w.heap[g]? = some (.cells cur te (0,0)))
  {x:Value} {m:Nat} (hlen:(Builtin.lenOf x).run P w = .ok m w) (news:List Value) (hf:(Builtin.firstCells sz m x).run P w = .ok news.toArray w) (h1:∀ u∈news,u.oneCell'=true)
  (hroom:k+m<=cap) (hfit:k*sz+news.length<=cur.size) :
  (Builtin.append_ #[t,t] ty #[.slice (some ⟨g,0,none⟩) k cap,x]).run P w =
   .ok (.slice (some ⟨g,0,none⟩) (k+m) cap) (w.setRow g (cur.toList.take (k*sz)++news++cur.toList.drop (k*sz+news.length)).toArray):=by
 have a:=run_storeCells_at P g (k*sz) te news 0 cur w hg (by simpa using hfit) h1
 simp only [Nat.add_zero] at a
 obtain ⟨i,d,c,hsz,_,_⟩:=JQ hty
 subst hsz
 have b:(⟨g,0,none⟩:Addr).add (k*i.size)=⟨g,k*i.size,none⟩:=by rw [Dx,Nat.zero_add]
 simp [Builtin.append_,run_underlying ht,sizeOf,typeInfo,c,hlen,hroom,hf,b,a]
theorem Lr {ys:List AV} {sz:Nat} (hs:∀ y∈ys,y.cells.length=sz):(ys.flatMap fun y=>y.pub.cells).length=ys.length*sz:=by
 induction ys with
 | nil=>simp
 | cons y ys ih =>
  rw [List.flatMap_cons,List.length_append,ih (fun z a=>hs z (by simp [a])),AV.pub_cells_length,hs y (by simp),List.length_cons,Nat.succ_mul]
  omega
theorem Zcq {sz:Nat}:∀ (ys:List AV),(∀ y∈ys,y.cells.length=sz)->∀ i y,ys[i]? = some y->∀ k,k<sz->(ys.flatMap fun y=>y.pub.cells)[i*sz+k]? = y.pub.cells[k]?
 | [],_,i,y,h,_,_=>by simp at h
 | x::ys,hs,0,y,h,k,hk=>by
  simp only [List.getElem?_cons_zero,Option.some.injEq] at h
  subst h
  rw [List.flatMap_cons,Nat.zero_mul,Nat.zero_add,List.getElem?_append_left (by rw [AV.pub_cells_length,hs x (by simp)];exact hk)]
 | x::ys,hs,i+1,y,h,k,hk=>by
  have a:x.pub.cells.length=sz:=by rw [AV.pub_cells_length];exact hs x (by simp)
  rw [List.flatMap_cons,List.getElem?_append_right (by rw [a,Nat.succ_mul];omega),a,show (i+1)*sz+k-sz=i*sz+k from by rw [Nat.succ_mul];omega]
  exact Zcq ys (fun z b=>hs z (by simp [b])) i y (by simpa using h) k hk
theorem Wu {ux:Nat->Value} {ys:List AV} (hu:∀ i (hi:i<ys.length),R w0 M w (ux i) ys[i]) (hn:∀ y∈ys,A9 y=true):∀ x∈ys.flatMap (fun y=>y.pub.cells),x.one=true:=by
 intro x c
 obtain ⟨y,b,a⟩:=List.mem_flatMap.1 c
 obtain ⟨i,hi,rfl⟩:=List.mem_iff_getElem.1 b
 refine ((hu i hi).pub).cellsOne (fun vs e=>?_) x a
 have:=hn _ b
 cases h:ys[i]<;>rw [h] at e this<;>first | (cases this;done) | (cases e;done)
theorem Zff {ux:Nat->Value} {ys:List AV} {sz:Nat} (hz:0<sz) (hu:∀ i (hi:i<ys.length),(ux i).cells.size=sz/\R w0 M w (ux i) ys[i]) (hs:∀ y∈ys,y.cells.length=sz) {j:Nat} {v:Value} {x:AV} (hv:(flat ux ys.length)[j]? = some v) (hx:(ys.flatMap fun y=>y.pub.cells)[j]? = some x):R w0 M w v x:=by
 have f:j<ys.length*sz:=by rw [<-Lr hs];exact (Af.1 hx).1
 have hi:j / sz<ys.length:=(Nat.div_lt_iff_lt_mul hz).2 f
 have c:=Nat.mod_lt j hz
 have e:j / sz*sz+j % sz=j:=by rw [Nat.mul_comm];exact Nat.div_add_mod j sz
 have b:=Hl (us:=ux) (sz:=sz) (fun i hi=>(hu i hi).1) (j / sz) hi (j % sz) c
 have a:=Zcq ys hs (j / sz) _ (List.getElem?_eq_getElem hi) (j % sz) c
 rw [e] at b a
 rw [hv] at b
 rw [hx] at a
 obtain ⟨_,d⟩:=((hu _ hi).2).pub.cells
 obtain ⟨q1,q2⟩:=Array.getElem?_eq_some_iff.1 b.symm
 obtain ⟨q3,g⟩:=Af.1 a.symm
 rw [<-q2,<-g]
 exact d _ q1 q3
theorem UO (h:Rel w0 n M e st a w) (s x:Operand) (t ty:TypeId) (hs:A4 e true s) (hx:A4 e true x) (hob:(BE P st t (Au e s) (Au e x)).1) :
  Yields' P w0 M (BE P st t (Au e s) (Au e x)).2.2 (BE P st t (Au e s) (Au e x)).2.1 w (do pure (.value (<- Builtin.append_ #[t,t] ty #[a.eval s,a.eval x]))):=by
 have hRs:=Bi h hs
 have hRx:=Bi h hx
 generalize Au e s=S at hRs hob ⊢
 generalize Au e x=X at hRx hob ⊢
 generalize a.eval s=vs at hRs ⊢
 generalize a.eval x=vx at hRx ⊢
 unfold BE at hob ⊢
 cases he:GN P t with
 | none=>simp [he] at hob
 | some p =>
  obtain ⟨el,sz,ag,bn⟩:=p
  simp only [he] at hob ⊢
  obtain ⟨f,hu,m,a3,a7⟩:=E3 he
  have r:f.size=sz:=by
   obtain ⟨i',d,h1,h2,_⟩:=JQ a7
   rw [m] at h1;cases h1;exact h2
  cases S with
  | list xs o =>
   have a0:(Be X).length=0->BG X=true->Yields' P w0 M st (.list xs o) w (do pure (.value (<- Builtin.append_ #[t,t] ty #[vs,vx]))):=by
    intro ah lx
    obtain ⟨ys,o',rfl⟩:=GF lx
    simp only [Be] at ah
    have:ys=[]:=List.length_eq_zero_iff.1 ah
    subst this
    refine .here h.st (v:=vs) ?_ hRs
    have bj:(Builtin.lenOf vx).run P w = .ok 0 w/\(Builtin.firstCells sz 0 vx).run P w = .ok #[] w:=by
     cases hRx with
     | nil _=>exact ⟨rfl,rfl⟩
     | emp _=>exact ⟨rfl,by simp [Builtin.firstCells,loadCells,loadCellsFrom]⟩
     | list=>exact ⟨rfl,by simp [Builtin.firstCells,loadCells,loadCellsFrom]⟩
    obtain ⟨bf,be⟩:=bj
    have a9:∀ (ad:Option Addr) (ln cap:Nat),ln<=cap->(Builtin.append_ #[t,t] ty #[.slice ad ln cap,vx]).run P w = .ok (.slice ad ln cap) w:=fun ad ln cap Z=>by
     cases ad with
     | none=>simp [Builtin.append_,run_underlying hu,sizeOf,typeInfo,m,r,bf,be,Z]
     | some ad=>simp [Builtin.append_,run_underlying hu,sizeOf,typeInfo,m,r,bf,be,Z,storeCells]
    cases hRs with
    | nil _=>exact a9 none 0 0 (Nat.le_refl _)
    | emp _=>exact a9 _ 0 0 (Nat.le_refl _)
    | list sz us hc=>exact a9 _ _ _ hc
   cases o with
   | none=>exact hob.elim
   | full =>
   simp only at hob ⊢
   by_cases ah:(Be X).length=0
   ·rw [Ad ah] at hob ⊢
    exact a0 ah hob.1
   rw [Ae ah] at hob ⊢
   obtain ⟨lx,⟨O,hz,H,az,cx⟩,cs⟩:=hob
   obtain ⟨ys,o',rfl⟩:=GF lx
   simp only [Be] at *
   have hpos:0<ys.length:=by omega
   obtain ⟨z,ar⟩:=Option.isSome_iff_exists.1 hz
   obtain ⟨i',v,hi',hv,hc,aa,rfl⟩:=Du ar
   rw [m] at hi';cases hi'
   obtain ⟨us,u1,u2⟩:=hRs.list_open cs
   obtain ⟨ux,x1,x2⟩:=hRx.list_open (fun y hy=>(cx y hy).1)
   have am:∀ i,i<xs.length->(us i).cells.size=sz:=fun i m=>(u1 i m).1
   have g:∀ i,i<ys.length->(ux i).cells.size=sz:=fun i m=>(x1 i m).1
   rcases x2 with ⟨_,q,_⟩ | ⟨bx,ox,cx',_,rfl,_,_,_,hcx⟩
   ·subst q;exact absurd hpos (by simp)
   have K:=EB (w:=w) g O hcx
   have Q:xs.length+ys.length<=maxLen:=by simp [maxLen];omega
   have J:∀ (U:Nat) (zs:List Value) (cells:Array Value),cells.toList=flat us xs.length++flat ux ys.length++zs->zs.length=(grownCap w (xs.length+ys.length) U el-(xs.length+ys.length))*sz ->
     (Builtin.append_ #[t,t] ty #[vs,.slice (some ⟨bx,ox,none⟩) ys.length cx']).run P w = .ok (.slice (some ⟨w.heap.size,0,none⟩) (xs.length+ys.length) (grownCap w (xs.length+ys.length) U el)) (w.drew.alloc (.cells cells el)) ->
     Yields' P w0 M { st with rows:=st.rows++[.grow (xs.length+ys.length) sz] } (.list (xs++ys.map AV.pub) (.row st.rows.length)) w (do pure (.value (<- Builtin.append_ #[t,t] ty #[vs,.slice (some ⟨bx,ox,none⟩) ys.length cx']))):=by
    intro U zs cells E bb hrun
    obtain ⟨d1,d2⟩:=h.st.drew
    have af:=grownCap_ge w (xs.length+ys.length) U el
    have Z:=grownCap_le_maxLen w (xs.length+ys.length) U el Q
    have G:cells.size=grownCap w (xs.length+ys.length) U el*sz:=by
     have:cells.size=cells.toList.length:=by simp
     rw [this,E]
     simp only [List.length_append,Bg am,Bg g,bb]
     rw [<-Nat.add_mul,<-Nat.add_mul]
     congr 1
     omega
    obtain ⟨r1,r2⟩:=d1.addRow (cs:=cells) (ty:=el) (sz:=sz) Z af G
    have ai:=X4 (w0:=w0) d2 u1 x1
    have D:(xs++ys.map AV.pub).length=xs.length+ys.length:=by simp
    have Y:=R.row (w0:=w0) (M:=M) (w:=w.drew) (us:=VY us ux xs.length) (xs:=xs++ys.map AV.pub) (cs:=cells) (ty:=el) (sz:=sz) (k:=(xs.length+ys.length)*sz) (cap:=grownCap w (xs.length+ys.length) U el) (o := .row st.rows.length) ai
     (fun i m j hj=>by
      rw [D] at m
      rw [<-Array.getElem?_toList,E]
      exact Xp am g zs i m j hj) (by rw [D];exact af) Z (by rw [D];exact Nat.le_refl _) (M.addRow w.drew.heap.size (grownCap w (xs.length+ys.length) U el) (xs.length+ys.length) sz ((xs.length+ys.length)*sz)) (by simp [Mem.addRow]) r2
     (by
      have hN:=h.st.NR
      refine ⟨by simp [Mem.addRow,hN],by rw [D];simp [Mem.addRow,hN],fun _=>by simp [Mem.addRow,hN]⟩)
    rw [D] at Y
    exact .value ⟨_,_,_,hrun,d2.trans r2,r1,Y⟩
   have ab:(flat ux ys.length).length=ys.length*f.size:=by rw [Bg g,r]
   have ao:(xs.length+ys.length)*f.bytes<=140737488355328:=by rw [a3];exact H
   rcases u2 with ⟨rfl | ⟨ad,rfl⟩,q,_⟩ | ⟨bs,os,cps,sz',rfl,_,_,ho,hcs'⟩
   ·subst q
    simp only [List.length_nil,Nat.zero_add] at *
    have hrun:=run_append_nil (P:=P) w t ty el f v hu m hv ⟨bx,ox,none⟩ ys.length cx' (flat ux ys.length) ab K hpos (by omega) (by omega)
    refine J 0 (Builtin.zeroCells v.cells (grownCap w ys.length 0 el-ys.length)).toList _ ?_ ?_ hrun
    ·simp [flat]
    ·simp only [Array.length_toList,size_zeroCells,aa,r]
   ·subst q
    simp only [List.length_nil,Nat.zero_add] at *
    have hrun:=run_append_grow (P:=P) w t ty el f v hu m hv ad 0 0 [] (by simp) (fun j u hu=>by simp at hu) ⟨bx,ox,none⟩ ys.length cx' (flat ux ys.length) ab K (by omega) (by rw [Nat.zero_add];omega) (growslice_fits (by omega) (by rw [Nat.zero_add];exact ao))
    simp only [Nat.zero_add] at hrun
    refine J 0 (Builtin.zeroCells v.cells (grownCap w ys.length 0 el-ys.length)).toList _ ?_ ?_ hrun
    ·simp [flat]
    ·simp only [Array.length_toList,size_zeroCells,aa,r]
   ·have hcap:xs.length=cps:=ho
    have ap:=EB (w:=w) am O hcs'
    have aw:(flat us xs.length).length=xs.length*f.size:=by rw [Bg am,r]
    have hrun:=run_append_grow (P:=P) w t ty el f v hu m hv ⟨bs,os,none⟩ xs.length cps (flat us xs.length) aw ap ⟨bx,ox,none⟩ ys.length cx' (flat ux ys.length) ab K (by omega) (by omega) (growslice_fits (by omega) ao)
    refine J cps (Builtin.zeroCells v.cells (grownCap w (xs.length+ys.length) cps el-(xs.length+ys.length))).toList _ ?_ ?_ hrun
    ·simp
    ·simp only [Array.length_toList,size_zeroCells,aa,r]
   | seed =>
   simp only at hob ⊢
   by_cases ah:(Be X).length=0
   ·rw [Ad ah] at hob ⊢
    exact a0 ah hob.1
   rw [Ae ah] at hob ⊢
   obtain ⟨lx,⟨O,hz,H,az,cx⟩,bh,hpos⟩:=hob
   obtain ⟨ys,o',rfl⟩:=GF lx
   have:xs=[]:=List.length_eq_zero_iff.1 bh
   subst this
   simp only [Be,Nat.zero_add] at *
   obtain ⟨z,ar⟩:=Option.isSome_iff_exists.1 hz
   obtain ⟨i',v,hi',hv,hc,aa,rfl⟩:=Du ar
   rw [m] at hi';cases hi'
   obtain ⟨ux,x1,x2⟩:=hRx.list_open (fun y hy=>(cx y hy).1)
   have g:∀ i,i<ys.length->(ux i).cells.size=sz:=fun i m=>(x1 i m).1
   rcases x2 with ⟨_,q,_⟩ | ⟨bx,ox,cx',_,rfl,_,_,_,hcx⟩
   ·subst q;exact absurd hpos (by simp)
   have K:=EB (w:=w) g O hcx
   have Q:ys.length<=maxLen:=by simp [maxLen];omega
   have ab:(flat ux ys.length).length=ys.length*f.size:=by rw [Bg g,r]
   have ao:ys.length*f.bytes<=140737488355328:=by rw [a3];exact H
   have J:∀ (U:Nat) (zs:List Value) (cells:Array Value),cells.toList=flat ux ys.length++zs->zs.length=(grownCap w ys.length U el-ys.length)*sz ->
     (Builtin.append_ #[t,t] ty #[vs,.slice (some ⟨bx,ox,none⟩) ys.length cx']).run P w = .ok (.slice (some ⟨w.heap.size,0,none⟩) ys.length (grownCap w ys.length U el)) (w.drew.alloc (.cells cells el)) ->
     Yields' P w0 M { st with rows:=st.rows++[.vec 0 sz (ys.flatMap fun y=>y.pub.cells)] } (.vec st.rows.length 0 0 ys.length) w (do pure (.value (<- Builtin.append_ #[t,t] ty #[vs,.slice (some ⟨bx,ox,none⟩) ys.length cx']))):=by
    intro U zs cells E bb hrun
    obtain ⟨d1,d2⟩:=h.st.drew
    have af:=grownCap_ge w ys.length U el
    have Z:=grownCap_le_maxLen w ys.length U el Q
    have G:cells.size=grownCap w ys.length U el*sz:=by
     have:cells.size=cells.toList.length:=by simp
     rw [this,E]
     simp only [List.length_append,Bg g,bb]
     rw [<-Nat.add_mul]
     congr 1
     omega
    have a4:=Lr (fun y hy=>(cx y hy).1)
    obtain ⟨r1,r2⟩:=d1.addVec (cs:=cells) (ty:=el) (sz:=sz) (xs:=ys.flatMap fun y=>y.pub.cells) Z O G (by rw [G,a4];exact Nat.mul_le_mul_right _ af) (Wu (fun i m=>((x1 i m).2).mono d2) (fun y hy=>(cx y hy).2))
     (fun i v x aq ak=>by
      have ba:i<ys.length*sz:=by rw [<-a4];exact (Af.1 ak).1
      rw [<-Array.getElem?_toList,E,List.getElem?_append_left (by rw [Bg g];exact ba)] at aq
      exact (Zff O x1 (fun y hy=>(cx y hy).1) aq ak).mono d2)
    refine .value ⟨_,_,_,hrun,d2.trans r2,r1,?_⟩
    have hN:=h.st.NR
    refine .vec (by simp [Mem.addRow,hN]) (Nat.zero_le _) fun _=>⟨by simp [Mem.addRow,hN],by simp [Mem.addRow,hN],af⟩
   (cases hRs with
   | nil ho =>
    have hrun:=run_append_nil (P:=P) w t ty el f v hu m hv ⟨bx,ox,none⟩ ys.length cx' (flat ux ys.length) ab K hpos (by omega) (by omega)
    refine J 0 (Builtin.zeroCells v.cells (grownCap w ys.length 0 el-ys.length)).toList _ ?_ ?_ hrun
    ·simp
    ·simp only [Array.length_toList,size_zeroCells,aa,r]
   | @emp ad _ ho =>
    have hrun:=run_append_grow (P:=P) w t ty el f v hu m hv ad 0 0 [] (by simp) (fun j u hu=>by simp at hu) ⟨bx,ox,none⟩ ys.length cx' (flat ux ys.length) ab K (by omega) (by rw [Nat.zero_add];omega) (growslice_fits (by omega) (by rw [Nat.zero_add];exact ao))
    simp only [Nat.zero_add] at hrun
    refine J 0 (Builtin.zeroCells v.cells (grownCap w ys.length 0 el-ys.length)).toList _ ?_ ?_ hrun
    ·simp
    ·simp only [Array.length_toList,size_zeroCells,aa,r]
   | @list b off cap _ _ sz' us hc' hm' hcell hu' ho =>
    have hcap:(0:Nat)=cap:=ho
    subst hcap
    have hrun:=run_append_grow (P:=P) w t ty el f v hu m hv ⟨b,off,none⟩ 0 0 [] (by simp) (fun j u hu=>by simp at hu) ⟨bx,ox,none⟩ ys.length cx' (flat ux ys.length) ab K (by omega) (by rw [Nat.zero_add];omega) (growslice_fits (by omega) (by rw [Nat.zero_add];exact ao))
    simp only [Nat.zero_add] at hrun
    refine J 0 (Builtin.zeroCells v.cells (grownCap w ys.length 0 el-ys.length)).toList _ ?_ ?_ hrun
    ·simp
    ·simp only [Array.length_toList,size_zeroCells,aa,r])
   | row id =>
   simp only at hob ⊢
   obtain ⟨lx,⟨O,hz,H,az,cx⟩,cs,aj⟩:=hob
   obtain ⟨ys,o',rfl⟩:=GF lx
   simp only [Be] at *
   obtain ⟨z,ar⟩:=Option.isSome_iff_exists.1 hz
   obtain ⟨i',v,hi',hv,hc,aa,rfl⟩:=Du ar
   rw [m] at hi';cases hi'
   obtain ⟨us,u1,u2⟩:=hRs.list_open cs
   obtain ⟨ux,x1,x2⟩:=hRx.list_open (fun y hy=>(cx y hy).1)
   have am:∀ i,i<xs.length->(us i).cells.size=sz:=fun i m=>(u1 i m).1
   have g:∀ i,i<ys.length->(ux i).cells.size=sz:=fun i m=>(x1 i m).1
   have F:id<M.NR:=by rw [h.st.NR];exact (Af.1 aj).1
   obtain ⟨f1,f2,f3,f4,f5,f6,f7,cur,te,f8,f9⟩:=h.st.row id _ aj
   rcases u2 with ⟨_,_,q⟩ | ⟨bs,os,cps,sz',rfl,_,_,ho,hcs'⟩
   ·exact absurd rfl (q id)
   obtain ⟨_,_,bg⟩:=ho
   obtain ⟨e1,e2,e3,_⟩:=bg f1.symm
   subst e1;subst e2;subst e3
   have D:(xs++ys.map AV.pub).length=xs.length+ys.length:=by simp
   have bd:(Builtin.lenOf vx).run P w = .ok ys.length w:=by
    rcases x2 with ⟨rfl | ⟨_,rfl⟩,q,_⟩ | ⟨bx,ox,cx',_,rfl,_⟩
    ·subst q;rfl
    ·subst q;rfl
    ·rfl
   have ab:(flat ux ys.length).length=ys.length*f.size:=by rw [Bg g,r]
   have au:(Builtin.firstCells sz ys.length vx).run P w = .ok (flat ux ys.length).toArray w:=by
    rcases x2 with ⟨rfl | ⟨_,rfl⟩,q,_⟩ | ⟨bx,ox,cx',_,rfl,_,_,_,hcx⟩
    ·subst q;rfl
    ·subst q;simp [Builtin.firstCells,loadCells,loadCellsFrom,flat]
    ·exact run_firstCells_some w sz ys.length ⟨bx,ox,none⟩ ys.length cx' (flat ux ys.length) (Bg g) (EB (w:=w) g O hcx)
   by_cases hroom:xs.length+ys.length<=M.cap id
   ·-- there is room
    have ay:xs.length*sz+(flat ux ys.length).length<=cur.size:=by rw [Bg g,f9,<-Nat.add_mul];exact Nat.mul_le_mul_right _ hroom
    have hrun:=Xw (P:=P) (w:=w) t ty el hu a7 (M.blk id) xs.length (M.cap id) cur te f8 bd (flat ux ys.length) au (Sr x1 (fun y hy=>(cx y hy).2)) hroom ay
    generalize hc':(cur.toList.take (xs.length*sz)++flat ux ys.length++cur.toList.drop (xs.length*sz+(flat ux ys.length).length)).toArray=cur' at hrun
    have av:cur'.size=cur.size:=by rw [<-hc'];simp;omega
    have a1:∀ j,j<xs.length*sz->cur'[j]? = cur[j]? := by
     intro j hj
     rw [<-hc',List.getElem?_toArray,List.append_assoc,List.getElem?_append_left (by simp;omega),List.getElem?_take,Ad hj,Array.getElem?_toList]
    have a8:∀ j,j<ys.length*sz->cur'[xs.length*sz+j]? = (flat ux ys.length)[j]? := by
     intro j hj
     have l2:=Bg g
     rw [<-hc',List.getElem?_toArray,List.append_assoc,List.getElem?_append_right (by simp;omega)]
     simp only [List.length_take,Array.length_toList]
     have e:min (xs.length*sz) cur.size=xs.length*sz:=by omega
     rw [e,show xs.length*sz+j-xs.length*sz=j from by omega,List.getElem?_append_left (by rw [l2];exact hj)]
    have C:Ext w0 M w (M.growRow id (M.blk id) (M.cap id) (xs.length+ys.length) ((xs.length+ys.length)*sz)) (w.setRow (M.blk id) cur'):=by
     refine GA (M:=M) (M.growRow id (M.blk id) (M.cap id) (xs.length+ys.length) ((xs.length+ys.length)*sz)) rfl (fun _ _=>rfl) rfl (fun i m=>?_) (fun b=>?_) f8 f3 (fun j hj=>a1 j (by rw [f4] at hj;exact hj)) (Mem.own_row F) (fun b=>I6 F)
     ·by_cases c:i=id
      ·subst c
       simp only [Mem.growRow,if_true,f1]
       exact ⟨by omega,fun _=>⟨trivial,trivial,trivial⟩⟩
      ·simp only [Mem.growRow,Ae c]
       exact ⟨Nat.le_refl _,fun _=>⟨trivial,trivial,trivial⟩⟩
     ·simp only [Mem.growRow]
      split
      ·rename_i c
       rw [c,f4]
       exact Nat.mul_le_mul_right _ (by omega)
      ·exact Nat.le_refl _
    have ax:=h.st.row_lt F
    have ae:=h.st.growRow aj (w':=w.setRow (M.blk id) cur') (b:=M.blk id) (cap:=M.cap id) (k:=xs.length+ys.length) f3 (Below.setRow (Below.refl _ _) f3 _) (by simp) (by simpa using ax) f6 hroom
     (fun l hl=>⟨f5 l hl,setRow_other w _ _ _ (f5 l hl)⟩) (fun i m a2=>by
      have:M.blk i≠M.blk id:=fun q=>a2 (h.st.rowinj i id m F q)
      exact ⟨this,setRow_other w _ _ _ this⟩) (setRow_heap w _ cur cur' te _ f8) (by rw [av];exact f9) C (KeepsObj.setRow f8 _)
    have ai:=X4 (w0:=w0) C u1 x1
    have Y:=R.list (w0:=w0) (M:=M.growRow id (M.blk id) (M.cap id) (xs.length+ys.length) ((xs.length+ys.length)*sz)) (w:=w.setRow (M.blk id) cur') (b:=M.blk id) (off:=0) (cap:=M.cap id) (xs:=xs++ys.map AV.pub) (o := .row id) sz (VY us ux xs.length) (by rw [D];exact hroom) f6
     (fun i m=>⟨(ai i m).1,fun j hj=>by
      rw [D] at m
      have q1:(i+1)*sz<=(xs.length+ys.length)*sz:=Nat.mul_le_mul_right _ m
      rw [Nat.succ_mul] at q1
      refine ⟨.inr ?_,?_⟩
      ·simp only [Mem.growRow,if_true]
       omega
      ·rw [Nat.zero_add,cell_of_row _ _ _ cur' te _ (setRow_heap w _ cur cur' te _ f8)]
       unfold VY
       by_cases c:i<xs.length
       ·have q:(i+1)*sz<=xs.length*sz:=Nat.mul_le_mul_right _ c
        rw [Nat.succ_mul] at q
        have:=hcs' i c j hj
        rw [Nat.zero_add,cell_of_row _ _ _ cur te _ f8] at this
        rw [Ad c,a1 _ (by omega),this]
       ·have q:(i-xs.length+1)*sz<=ys.length*sz:=Nat.mul_le_mul_right _ (by omega)
        rw [Nat.succ_mul] at q
        have e:i*sz=xs.length*sz+(i-xs.length)*sz:=by rw [<-Nat.add_mul];congr 1;omega
        rw [Ae c,show i*sz+j=xs.length*sz+((i-xs.length)*sz+j) from by omega,a8 _ (by omega)]
        exact Hl g _ (by omega) j hj⟩) (fun i m=>(ai i m).2)
     (by
      rw [D]
      refine ⟨F,by simp [Mem.growRow],fun _=>⟨by simp [Mem.growRow],rfl,by simp [Mem.growRow],?_⟩⟩
      simp [Mem.growRow,f2])
    rw [D] at Y
    exact .value ⟨_,_,_,hrun,C,ae,Y⟩
   ·-- a new row
    have hypos:0<ys.length:=by omega
    rcases x2 with ⟨_,q,_⟩ | ⟨bx,ox,cx',_,rfl,_,_,_,hcx⟩
    ·subst q;simp at hypos
    have K:=EB (w:=w) g O hcx
    have ap:=EB (w:=w) am O hcs'
    have aw:(flat us xs.length).length=xs.length*f.size:=by rw [Bg am,r]
    have ao:(xs.length+ys.length)*f.bytes<=140737488355328:=by rw [a3];exact H
    have hrun:=run_append_grow (P:=P) w t ty el f v hu m hv ⟨M.blk id,0,none⟩ xs.length (M.cap id) (flat us xs.length) aw ap ⟨bx,ox,none⟩ ys.length cx' (flat ux ys.length) ab K (by omega) (by omega) (growslice_fits (by omega) ao)
    have Q:xs.length+ys.length<=maxLen:=by simp [maxLen];omega
    have af:=grownCap_ge w (xs.length+ys.length) (M.cap id) el
    have Z:=grownCap_le_maxLen w (xs.length+ys.length) (M.cap id) el Q
    generalize hcl:((flat us xs.length).toArray++(flat ux ys.length).toArray++Builtin.zeroCells v.cells (grownCap w (xs.length+ys.length) (M.cap id) el-(xs.length+ys.length)))=cells at hrun
    have V:cells.toList=flat us xs.length++flat ux ys.length++(Builtin.zeroCells v.cells (grownCap w (xs.length+ys.length) (M.cap id) el-(xs.length+ys.length))).toList:=by rw [<-hcl];simp
    generalize grownCap w (xs.length+ys.length) (M.cap id) el=gc at *
    have G:cells.size=gc*sz:=by
     have:cells.size=cells.toList.length:=by simp
     rw [this,V]
     simp only [List.length_append,Bg am,Bg g,Array.length_toList,size_zeroCells,aa,r]
     rw [<-Nat.add_mul,<-Nat.add_mul]
     congr 1
     omega
    obtain ⟨d1,d2⟩:=h.st.drew
    have C:Ext w0 M w.drew (M.growRow id w.drew.heap.size gc (xs.length+ys.length) ((xs.length+ys.length)*sz)) (w.drew.alloc (.cells cells el)):=by
     refine On _ _ (.inl rfl) (fun _ _=>rfl) (Nat.le_refl _) (fun i m=>?_) (fun b hb=>?_) (fun b hb=>Ld hb)
     ·by_cases c:i=id
      ·subst c
       simp only [Mem.growRow,if_true,f1]
       exact ⟨by omega,fun q=>absurd q (by omega)⟩
      ·simp only [Mem.growRow,Ae c]
       exact ⟨Nat.le_refl _,fun _=>⟨trivial,trivial,trivial⟩⟩
     ·simp only [Mem.growRow]
      rw [Aa]
    have ae:=d1.growRow aj (w':=w.drew.alloc (.cells cells el)) (b:=w.drew.heap.size) (cap:=gc) (k:=xs.length+ys.length) h.st.base_le ((Below.refl _ w.drew).alloc h.st.base_le _) (by simp) (by simp) Z af
     (fun l hl=>by have:=h.st.box_lt hl;exact ⟨fun q=>by simp at q;omega,Bh _ _ this⟩) (fun i m a2=>by have:=h.st.row_lt m;exact ⟨fun q=>by simp at q;omega,Bh _ _ this⟩) (heap_alloc_new w.drew _) G C (KeepsObj.alloc _ _)
    have ai:=X4 (w0:=w0) d2 u1 x1
    have Y:=R.row (w0:=w0) (M:=M) (w:=w.drew) (us:=VY us ux xs.length) (xs:=xs++ys.map AV.pub) (cs:=cells) (ty:=el) (sz:=sz) (k:=(xs.length+ys.length)*sz) (cap:=gc) (o := .row id) ai
     (fun i m j hj=>by
      rw [D] at m
      rw [<-Array.getElem?_toList,V]
      exact Xp am g _ i m j hj) (by rw [D];exact af) Z (by rw [D];exact Nat.le_refl _) (M.growRow id w.drew.heap.size gc (xs.length+ys.length) ((xs.length+ys.length)*sz)) (by simp [Mem.growRow]) C
     (by
      refine ⟨F,by rw [D];simp [Mem.growRow],fun _=>⟨by simp [Mem.growRow],rfl,by simp [Mem.growRow],?_⟩⟩
      simp [Mem.growRow,f2])
    rw [D] at Y
    exact .value ⟨_,_,_,hrun,d2.trans C,ae,Y⟩
  | vec id ver o n' =>
   simp only at hob ⊢
   cases hvr:Df st.rows id ver with
   | none=>simp [hvr] at hob
   | some q =>
   obtain ⟨sz',cs⟩:=q
   simp only [hvr] at hob ⊢
   obtain ⟨lx,⟨O,hz,H,az,cx⟩,rfl,rfl,bm⟩:=hob
   obtain ⟨ys,o',rfl⟩:=GF lx
   simp only [Be] at *
   obtain ⟨z,ar⟩:=Option.isSome_iff_exists.1 hz
   obtain ⟨i',v,hi',hv,hc,aa,rfl⟩:=Du ar
   rw [m] at hi';cases hi'
   have aj:=DY hvr
   have F:id<M.NR:=by rw [h.st.NR];exact (Af.1 aj).1
   obtain ⟨f1,f2,f3,f4,f5,f6,f7,cur,te,f8,f9,bp,bl,bi⟩:=h.st.row id _ aj
   cases hRs with
   | @vec _ _ _ _ p cap hid' hver hh =>
   obtain ⟨rfl,hcap,bo⟩:=hh f1.symm
   simp only [Nat.add_zero,Nat.zero_mul] at hcap ⊢
   subst hcap
   obtain ⟨ux,x1,x2⟩:=hRx.list_open (fun y hy=>(cx y hy).1)
   have g:∀ i,i<ys.length->(ux i).cells.size=sz':=fun i m=>(x1 i m).1
   have bd:(Builtin.lenOf vx).run P w = .ok ys.length w:=by
    rcases x2 with ⟨rfl | ⟨_,rfl⟩,q,_⟩ | ⟨bx,ox,cx',_,rfl,_⟩
    ·subst q;rfl
    ·subst q;rfl
    ·rfl
   have ab:(flat ux ys.length).length=ys.length*f.size:=by rw [Bg g,r]
   have au:(Builtin.firstCells sz' ys.length vx).run P w = .ok (flat ux ys.length).toArray w:=by
    rcases x2 with ⟨rfl | ⟨_,rfl⟩,q,_⟩ | ⟨bx,ox,cx',_,rfl,_,_,_,hcx⟩
    ·subst q;rfl
    ·subst q;simp [Builtin.firstCells,loadCells,loadCellsFrom,flat]
    ·exact run_firstCells_some w sz' ys.length ⟨bx,ox,none⟩ ys.length cx' (flat ux ys.length) (Bg g) (EB (w:=w) g O hcx)
   have a4:=Lr (fun y hy=>(cx y hy).1)
   have bc:=Wu (fun i m=>(x1 i m).2) (fun y hy=>(cx y hy).2)
   have hcl:(cs.take (n'*sz')++ys.flatMap fun y=>y.pub.cells).length=(n'+ys.length)*sz':=by
    rw [List.length_append,a4,List.length_take,Nat.add_mul];omega
   have a6:∀ x∈cs.take (n'*sz')++ys.flatMap (fun y=>y.pub.cells),x.one=true:=by
    intro x hx
    rcases List.mem_append.1 hx with hx | hx
    ·exact bl x (List.mem_of_mem_take hx)
    ·exact bc x hx
   -- what the new cells stand for,in whatever block they lie
   have E:∀ (cells:Array Value) (zs:List Value),cells.toList=cur.toList.take (n'*sz')++flat ux ys.length++zs->∀ (i:Nat) (v:Value) (x:AV),cells[i]? = some v->(cs.take (n'*sz')++ys.flatMap fun y=>y.pub.cells)[i]? = some x->R w0 M w v x:=by
    intro cells zs hcl' i v x aq ak
    have ba:i<(n'+ys.length)*sz':=by rw [<-hcl];exact (Af.1 ak).1
    rw [Nat.add_mul] at ba
    have bk:(cur.toList.take (n'*sz')).length=n'*sz':=by simp;omega
    rw [<-Array.getElem?_toList,hcl',List.append_assoc] at aq
    by_cases q:i<n'*sz'
    ·rw [List.getElem?_append_left (by omega),List.getElem?_take,Ad q,Array.getElem?_toList] at aq
     rw [List.getElem?_append_left (by simp;omega),List.getElem?_take,Ad q] at ak
     obtain ⟨q1,rfl⟩:=Array.getElem?_eq_some_iff.1 aq
     obtain ⟨q2,rfl⟩:=Af.1 ak
     exact bi i q1 q2
    ·rw [List.getElem?_append_right (by omega),bk,List.getElem?_append_left (by rw [Bg g];omega)] at aq
     rw [List.getElem?_append_right (by simp;omega)] at ak
     have e:(cs.take (n'*sz')).length=n'*sz':=by simp;omega
     rw [e] at ak
     exact Zff O x1 (fun y hy=>(cx y hy).1) aq ak
   by_cases hroom:n'+ys.length<=M.cap id
   ·-- there is room
    have ay:n'*sz'+(flat ux ys.length).length<=cur.size:=by rw [Bg g,f9,<-Nat.add_mul];exact Nat.mul_le_mul_right _ hroom
    have hrun:=Xw (P:=P) (w:=w) t ty el hu a7 (M.blk id) n' (M.cap id) cur te f8 bd (flat ux ys.length) au (Sr x1 (fun y hy=>(cx y hy).2)) hroom ay
    generalize hc':(cur.toList.take (n'*sz')++flat ux ys.length++cur.toList.drop (n'*sz'+(flat ux ys.length).length)).toArray=cur' at hrun
    have av:cur'.size=cur.size:=by rw [<-hc'];simp;omega
    have C:Ext w0 M w (M.growRow id (M.blk id) (M.cap id) (ver+1) 0) (w.setRow (M.blk id) cur'):=by
     refine GA (M:=M) (M.growRow id (M.blk id) (M.cap id) (ver+1) 0) rfl (fun _ _=>rfl) rfl (fun i m=>?_) (fun b=>?_) f8 f3 (fun j hj=>by rw [f4] at hj;omega) (Mem.own_row F) (fun b=>I6 F)
     ·by_cases c:i=id
      ·subst c
       simp only [Mem.growRow,if_true,f1]
       exact ⟨by omega,fun q=>absurd q (by omega)⟩
      ·simp only [Mem.growRow,Ae c]
       exact ⟨Nat.le_refl _,fun _=>⟨trivial,trivial,trivial⟩⟩
     ·simp only [Mem.growRow]
      split
      ·rename_i c
       rw [c,f4]
       exact Nat.le_refl _
      ·exact Nat.le_refl _
    have ax:=h.st.row_lt F
    have q:(M.growRow id (M.blk id) (M.cap id) (ver+1) 0).fr id=ver+1/\(M.growRow id (M.blk id) (M.cap id) (ver+1) 0).blk id=M.blk id/\(M.growRow id (M.blk id) (M.cap id) (ver+1) 0).cap id=M.cap id/\(M.growRow id (M.blk id) (M.cap id) (ver+1) 0).rsz id=M.rsz id/\(M.growRow id (M.blk id) (M.cap id) (ver+1) 0).top (M.blk id)=0:=by simp [Mem.growRow]
    obtain ⟨q1,q2,q3,q4,q5⟩:=q
    have ae:=h.st.growRow' aj (x := .vec (ver+1) sz' (cs.take (n'*sz')++ys.flatMap fun y=>y.pub.cells)) (w':=w.setRow (M.blk id) cur') (b:=M.blk id) (cap:=M.cap id) (k:=ver+1) (tp:=0) (Below.setRow (Below.refl _ _) f3 _) (by simp) (by simpa using ax)
     (fun l hl=>⟨f5 l hl,setRow_other w _ _ _ (f5 l hl)⟩) (fun i m a2=>by
      have:M.blk i≠M.blk id:=fun q=>a2 (h.st.rowinj i id m F q)
      exact ⟨this,setRow_other w _ _ _ this⟩) (by
      simp only [RowOk,q1,q2,q3,q4,q5]
      exact ⟨trivial,f2,f3,trivial,f5,f6,O,cur',te,setRow_heap w _ cur cur' te _ f8,av.trans f9,by rw [hcl,av,f9];exact Nat.mul_le_mul_right _ hroom,a6,
       fun i a b=>(E cur' _ (by rw [<-hc']) i _ _ (Array.getElem?_eq_getElem a) (List.getElem?_eq_getElem b)).mono C⟩) C (KeepsObj.setRow f8 _)
    exact .value ⟨_,_,_,hrun,C,ae,.vec F (by rw [q1];exact Nat.le_refl _) fun _=>⟨by rw [q2];simp,by rw [q3];rfl,hroom⟩⟩
   ·-- a new block
    have hypos:0<ys.length:=by omega
    rcases x2 with ⟨_,q,_⟩ | ⟨bx,ox,cx',_,rfl,_,_,_,hcx⟩
    ·subst q;simp at hypos
    have K:=EB (w:=w) g O hcx
    have ao:(n'+ys.length)*f.bytes<=140737488355328:=by rw [a3];exact H
    have ap:∀ (j:Nat) (u:Value),(cur.toList.take (n'*sz'))[j]? = some u->w.cell? ((⟨M.blk id,0,none⟩:Addr).add j)=some u:=by
     intro j u hj
     rw [List.getElem?_take] at hj
     split at hj
     ·rw [Dx,Nat.zero_add,cell_of_row w _ j cur te _ f8,<-Array.getElem?_toList];exact hj
     ·cases hj
    have aw:(cur.toList.take (n'*sz')).length=n'*f.size:=by simp;rw [r];omega
    have hrun:=run_append_grow (P:=P) w t ty el f v hu m hv ⟨M.blk id,0,none⟩ n' (M.cap id) (cur.toList.take (n'*sz')) aw ap ⟨bx,ox,none⟩ ys.length cx' (flat ux ys.length) ab K (by omega) (by omega) (growslice_fits (by omega) ao)
    have Q:n'+ys.length<=maxLen:=by simp [maxLen];omega
    have af:=grownCap_ge w (n'+ys.length) (M.cap id) el
    have Z:=grownCap_le_maxLen w (n'+ys.length) (M.cap id) el Q
    generalize hcl':((cur.toList.take (n'*sz')).toArray++(flat ux ys.length).toArray++Builtin.zeroCells v.cells (grownCap w (n'+ys.length) (M.cap id) el-(n'+ys.length)))=cells at hrun
    have V:cells.toList=cur.toList.take (n'*sz')++flat ux ys.length++(Builtin.zeroCells v.cells (grownCap w (n'+ys.length) (M.cap id) el-(n'+ys.length))).toList:=by rw [<-hcl'];simp
    generalize grownCap w (n'+ys.length) (M.cap id) el=gc at *
    have G:cells.size=gc*sz':=by
     have:cells.size=cells.toList.length:=by simp
     rw [this,V]
     simp only [List.length_append,aw,Bg g,Array.length_toList,size_zeroCells,aa,r]
     rw [<-Nat.add_mul,<-Nat.add_mul]
     congr 1
     omega
    obtain ⟨d1,d2⟩:=h.st.drew
    have C:Ext w0 M w.drew (M.growRow id w.drew.heap.size gc (ver+1) 0) (w.drew.alloc (.cells cells el)):=by
     refine On _ _ (.inl rfl) (fun _ _=>rfl) (Nat.le_refl _) (fun i m=>?_) (fun b hb=>?_) (fun b hb=>Ld hb)
     ·by_cases c:i=id
      ·subst c
       simp only [Mem.growRow,if_true,f1]
       exact ⟨by omega,fun q=>absurd q (by omega)⟩
      ·simp only [Mem.growRow,Ae c]
       exact ⟨Nat.le_refl _,fun _=>⟨trivial,trivial,trivial⟩⟩
     ·simp only [Mem.growRow]
      rw [Aa]
    have q:(M.growRow id w.drew.heap.size gc (ver+1) 0).fr id=ver+1/\(M.growRow id w.drew.heap.size gc (ver+1) 0).blk id=w.drew.heap.size/\(M.growRow id w.drew.heap.size gc (ver+1) 0).cap id=gc/\(M.growRow id w.drew.heap.size gc (ver+1) 0).rsz id=M.rsz id/\(M.growRow id w.drew.heap.size gc (ver+1) 0).top w.drew.heap.size=0:=by simp [Mem.growRow]
    obtain ⟨q1,q2,q3,q4,q5⟩:=q
    have a5:∀ l,l<M.N->M.bx l≠w.drew.heap.size:=fun l hl=>by have:=h.st.box_lt hl;intro q;simp at q;omega
    have ae:=d1.growRow' aj (x := .vec (ver+1) sz' (cs.take (n'*sz')++ys.flatMap fun y=>y.pub.cells)) (w':=w.drew.alloc (.cells cells el)) (b:=w.drew.heap.size) (cap:=gc) (k:=ver+1) (tp:=0) ((Below.refl _ w.drew).alloc h.st.base_le _) (by simp) (by simp)
     (fun l hl=>by have:=h.st.box_lt hl;exact ⟨a5 l hl,Bh _ _ this⟩) (fun i m a2=>by have:=h.st.row_lt m;exact ⟨fun q=>by simp at q;omega,Bh _ _ this⟩) (by
      simp only [RowOk,q1,q2,q3,q4,q5]
      exact ⟨trivial,f2,h.st.base_le,trivial,a5,Z,O,cells,el,heap_alloc_new w.drew _,G,by rw [hcl,G];exact Nat.mul_le_mul_right _ af,a6,
       fun i a b=>((E cells _ V i _ _ (Array.getElem?_eq_getElem a) (List.getElem?_eq_getElem b)).mono d2).mono C⟩) C (KeepsObj.alloc _ _)
    exact .value ⟨_,_,_,hrun,d2.trans C,ae,.vec F (by rw [q1];exact Nat.le_refl _) fun _=>⟨by rw [q2];simp,by rw [q3];rfl,af⟩⟩
  | _=>exact hob.elim
theorem Yields'.congr {s s':Sem Next} {st':St} {r:AV} (h:Yields' P w0 M st' r w s) (e:s'.run P w=s.run P w):Yields' P w0 M st' r w s':=by
 obtain ⟨v,a,M',c,b⟩:=h
 exact ⟨v,a,M',by rw [e];exact c,b⟩
theorem II (b:Builtin) (args:Array Operand) (ts:Array TypeId) (dst:Option Tmp) (type:TypeId) (pos:String) (after:Array Edge) (guard:Option (Nat × Bool)) (s:Sem Value)
  (hb:∀ cs,builtin b ts type cs (args.map a.eval)=(do pure (.value (<- s)):Sem Next)) :
  (execOp a.eval ⟨dst,.call ⟨.builtin b,args,ts⟩,type,pos,after,guard⟩).run P w=((do pure (.value (<- s)):Sem Next)).run P w:=by
 simp only [execOp,resolve,invoke,Sem.run_bind,Sem.run_pure,Result.andThen_ok]
 rw [hb]
 simp
theorem Q4 {t:TypeId} (h:HG P t=true):∃ el,P.underlying t=some (.slice el)/\P.underlying el=some (.int .u8)/\Fv P el=some (1,false):=by
 unfold HG at h
 split at h
 ·rename_i el h1
  simp only [Bool.and_eq_true] at h
  obtain ⟨h2,h3⟩:=h
  refine ⟨el,h1,?_,?_⟩
  ·split at h2
   ·assumption
   ·cases h2
  ·split at h3
   ·assumption
   ·cases h3
 ·cases h
theorem XA (r:Int):(Utf8.encode r).size<=4:=by
 unfold Utf8.encode
 dsimp only
 (repeat' split)<;>simp [ByteArray.size]
theorem X8 (h:Rel w0 n M e st a w) (s d:TypeId) (x:Operand) (hob:(Bj P e true st (.convert s d x)).1) :
  Yields' P w0 M (Bj P e true st (.convert s d x)).2.2 (Bj P e true st (.convert s d x)).2.1 w (do pure (.value (<- convert s d (a.eval x)))):=by
 unfold Bj at hob ⊢
 cases hs:LV P s with
 | some k1 =>
  cases hd:LV P d with
  | some k =>
   simp only [hs,hd] at hob ⊢
   obtain ⟨t,hi,hk⟩:=hob
   obtain ⟨ex,_⟩:=(Bi h t).int hi
   rw [ex]
   refine .here h.st (v := .int k (Ba (Au e x))) ?_ (.flat rfl)
   simp [convert,run_underlying (Qj hs),run_underlying (Qj hd),Conv.intToInt,Lp hk]
  | none =>
   simp only [hs,hd] at hob ⊢
   obtain ⟨t,hi,J⟩:=hob
   obtain ⟨ex,_⟩:=(Bi h t).int hi
   rw [ex]
   exact .here h.st (run_convert_int_string w s d _ _ (by rw [Qj hs];rfl) (EI J)) (.flat (decide_eq_true (Nat.le_trans (XA _) (by decide))))
 | none =>
  simp only [hs] at hob ⊢
  by_cases z:(CL P s&&CL P d)=true
  ·simp only [z,if_true] at hob ⊢
   simp only [Bool.and_eq_true] at z
   obtain ⟨t,hi⟩:=hob
   have hR:=Bi h t
   refine .here h.st (v:=a.eval x) ?_ hR
   obtain ⟨q,hq⟩:∃ q,Au e x = .val (.string q):=by
    cases hv:Au e x<;>rw [hv] at hi<;>try cases hi
    rename_i v
    cases v<;>first | exact ⟨_,rfl⟩ | cases hi
   rw [hq] at hR
   obtain ⟨ev,_⟩:=hR.val_inv
   rw [ev]
   simp [convert,run_underlying (EI z.1),run_underlying (EI z.2)]
  ·simp only [z,if_false,Bool.false_eq_true] at hob ⊢
   by_cases hc2:(HG P s&&CL P d)=true
   ·simp only [hc2,if_true] at hob ⊢
    simp only [Bool.and_eq_true] at hc2
    obtain ⟨m,G,H,V⟩:=Q4 hc2.1
    split at hob
    ·rename_i id ver o n' hx0
     cases hvr:Df st.rows id ver with
     | none=>simp [hvr] at hob
     | some q =>
     obtain ⟨Z,cs⟩:=q
     simp only [hvr] at hob ⊢
     obtain ⟨t,rfl,ai,c,g⟩:=hob
     have hR:=Bi h t
     rw [hx0] at hR
     obtain ⟨f1,f2,f3,f4,f5,f6,f7,O,te,f8,f9,ag,ah,aa⟩:=h.st.row id _ (DY hvr)
     obtain ⟨v,hev⟩:∃ v,a.eval x=v:=⟨_,rfl⟩
     rw [hev] at hR ⊢
     cases hR with
     | @vec _ _ _ _ p cap hid hver hh =>
     obtain ⟨rfl,C,af⟩:=hh f1.symm
     have hl:((cs.drop o).take n').length=n':=by simp;omega
     have f:(E4 ((cs.drop o).take n')).size=n':=by simp [E4,ByteArray.size];omega
     have r:HF (.string (E4 ((cs.drop o).take n')))=true:=by simp [HF,maxLen,f];exact c
     have:=run_convert_bytes_back (P:=P) w s d m ⟨M.blk id,o*M.rsz id,none⟩ cap (((cs.drop o).take n').map fun x=>UInt8.ofNat (Ba x).toNat) G H (EI hc2.2) (fun j F=>by
      have E:j<n':=by rw [List.length_map,hl] at F;exact F
      have Q:((cs.drop o).take n')[j]'(by omega)=cs[o+j]'(by omega):=by simp
      have hq:=g _ (List.getElem_mem (l:=(cs.drop o).take n') (n:=j) (by omega))
      rw [Q] at hq
      have hr:=aa (o+j) (by omega) (by omega)
      rw [Dx,f2,Nat.mul_one,cell_of_row w _ (o+j) O te _ f8,Array.getElem?_eq_getElem (show o+j<O.size by omega)]
      simp only [List.getElem_map,Q]
      generalize cs[o+j]'(by omega)=y at hq hr
      cases y with
      | val u =>
       cases u<;>try exact hq.elim
       rename_i k n
       cases k<;>try exact hq.elim
       obtain ⟨n0,n1⟩:0<=n/\n<=255:=hq
       rw [hr.val_inv.1]
       simp only [Ba]
       have:(UInt8.ofNat n.toNat).toNat=n.toNat:=by simp;omega
       rw [this]
       simp
       omega
      | _=>exact hq.elim)
     rw [List.length_map,hl] at this
     exact .here h.st (v := .string (E4 ((cs.drop o).take n'))) this (.flat r)
    rename_i hx0
    obtain ⟨t,hi,c,g⟩:=hob
    have hR:=Bi h t
    obtain ⟨xs,o,ae⟩:=GF hi
    rw [ae] at hR c g ⊢
    simp only [Be] at c g ⊢
    have ab:∀ y∈xs,y.cells.length=1:=fun y hy=>by
     have:=g y hy
     cases y<;>first | rfl | exact this.elim
    obtain ⟨us,h1,h2⟩:=hR.list_open ab
    have f:(E4 xs).size=xs.length:=by simp [E4,ByteArray.size]
    have r:HF (.string (E4 xs))=true:=by simp [HF,maxLen,f];exact c
    rcases h2 with ⟨ev | ⟨ad,ev⟩,rfl,_⟩ | ⟨b,off,cap,Z,ev,_,_,_,hcell⟩
    ·rw [ev]
     have:=run_convert_bytes_nil (P:=P) w s m G H 0 0 d (EI hc2.2)
     exact .here h.st (v := .string ByteArray.empty) this (.flat rfl)
    ·rw [ev]
     have:=run_convert_bytes_back (P:=P) w s d m ad 0 [] G H (EI hc2.2) (fun j F=>absurd F (by simp))
     exact .here h.st (v := .string ByteArray.empty) this (.flat rfl)
    ·rw [ev]
     have hb:∀ i (hi:i<xs.length),∃ n:Int,0<=n/\n<=255/\xs[i] = .val (.int .u8 n)/\us i = .int .u8 n:=fun i hi=>by
      have hq:=g _ (List.getElem_mem hi)
      have hr:=(h1 i hi).2
      cases hv:xs[i] with
      | val u =>
       rw [hv] at hq hr
       cases u<;>try exact hq.elim
       rename_i k n
       cases k<;>try exact hq.elim
       exact ⟨n,hq.1,hq.2,rfl,hr.val_inv.1⟩
      | _=>rw [hv] at hq;exact hq.elim
     have:=run_convert_bytes_back (P:=P) w s d m ⟨b,off,none⟩ cap (xs.map fun x=>UInt8.ofNat (Ba x).toNat) G H (EI hc2.2) (fun j F=>by
      have E:j<xs.length:=by simpa using F
      obtain ⟨n,n0,n1,Q,e2⟩:=hb j E
      have z:=hcell j E 0 (by omega)
      rw [e2] at z
      simp only [Nat.mul_one,Nat.add_zero] at z
      rw [Dx,z]
      simp only [List.getElem_map,Q,Ba,Value.cells]
      have:(UInt8.ofNat n.toNat).toNat=n.toNat:=by simp;omega
      rw [this]
      simp
      omega)
     simp only [List.length_map] at this
     exact .here h.st (v := .string (E4 xs)) this (.flat r)
   ·simp only [hc2,if_false,Bool.false_eq_true] at hob ⊢
    by_cases hc3:(CL P s&&HG P d)=true
    ·simp only [hc3,if_true] at hob ⊢
     simp only [Bool.and_eq_true] at hc3
     obtain ⟨m,G,H,V⟩:=Q4 hc3.2
     obtain ⟨_,t,hi⟩:=hob
     have hR:=Bi h t
     obtain ⟨q,hq⟩:∃ q,Au e x = .val (.string q):=by
      cases hv:Au e x<;>rw [hv] at hi<;>try cases hi
      rename_i v
      cases v<;>first | exact ⟨_,rfl⟩ | cases hi
     rw [hq] at hR ⊢
     obtain ⟨ev,r⟩:=hR.val_inv
     rw [ev]
     simp only [Zb8]
     have U:q.size<=maxLen:=by simpa [HF] using r
     have N:=Lib.run_convert_string_bytes (P:=P) w s d m q (EI hc3.1) G H
     have K:Below w.heap.size w (Lib.bytesWorld w m q):=⟨rfl,rfl,rfl,by rw [Lib.bytesWorld_size];omega,fun k hk=>Lib.bytesWorld_at_old w m q k hk⟩
     obtain ⟨r1,r2⟩:=h.st.later K w.heap.size q.size (Nat.le_refl _) (.inl (by rw [Lib.bytesWorld_size];omega))
     have C:=grownCap_ge w q.size 0 m
     have D:=grownCap_le_maxLen w q.size 0 m U
     have c:(FO q.data.toList).length=q.size:=by simp [FO]
     refine .value ⟨_,_,_,N,r2,r1,?_⟩
     have:=R.list (w0:=w0) (M:=M.newTop w.heap.size q.size) (w:=Lib.bytesWorld w m q) (b:=w.heap.size) (off:=0) (cap:=grownCap w q.size 0 m) (xs:=FO q.data.toList) (o := .none) 1 (fun i => .int .u8 (q.data.toList.getD i 0).toNat)
      (by rw [c];exact C) D (fun i hi=>⟨rfl,fun j F=>⟨.inr (by rw [c] at hi;simp [Mem.newTop];omega),by
       rw [c] at hi
       have hj0:j=0:=by omega
       subst hj0
       simp only [Nat.mul_one,Nat.zero_add,Nat.add_zero]
       rw [Lib.bytesWorld_cell w m q i hi]
       rfl⟩⟩) (fun i hi=>by
       have Y:i<q.data.toList.length:=by rw [c] at hi;exact hi
       simp only [FO,List.getElem_map]
       rw [show q.data.toList.getD i 0=q.data.toList[i] from by simp [List.getD,List.getElem?_eq_getElem Y]]
       exact .flat rfl) trivial
     rw [c] at this
     exact this
    ·simp only [hc3] at hob
     exact hob.elim
theorem HE {z:List AV} {sz:Nat} (hz:z.length=sz):∀ (m j:Nat) (x:AV),((List.replicate m z).flatten)[j]? = some x->0<sz/\z[j % sz]? = some x
 | 0,j,x,h=>by simp at h
 | m+1,j,x,h=>by
  rw [List.replicate_succ,List.flatten_cons] at h
  by_cases c:j<z.length
  ·rw [List.getElem?_append_left c] at h
   exact ⟨by omega,by rw [Nat.mod_eq_of_lt (by omega)];exact h⟩
  ·rw [List.getElem?_append_right (by omega)] at h
   obtain ⟨b,a⟩:=HE hz m _ x h
   refine ⟨b,?_⟩
   rw [hz] at a
   rw [<-a]
   congr 1
   rw [<-Nat.mod_eq_sub_mod (by omega)]
theorem Vh (h:Rel w0 n M e st a w) (t:TypeId) (len cap:Operand) (hob:(Bj P e true st (.makeSlice t len cap)).1) :
  Yields' P w0 M (Bj P e true st (.makeSlice t len cap)).2.2 (Bj P e true st (.makeSlice t len cap)).2.1 w (do pure (.value (<- Instr.makeSlice t (a.eval len) (a.eval cap)))):=by
 unfold Bj at hob ⊢
 cases he:GN P t with
 | none=>simp [he] at hob
 | some p =>
 obtain ⟨el,sz,ag,am⟩:=p
 cases hz:Bv P el with
 | none=>simp [he,hz] at hob
 | some z =>
 simp only [he,hz] at hob ⊢
 obtain ⟨_,hl,hc,il,ic,h0,h1,ab,ak,Y,F,aj⟩:=hob
 obtain ⟨H,hu,r,af,ae⟩:=E3 he
 have aa:H.size=sz:=by
  obtain ⟨i',d,h1,h2,_⟩:=JQ ae
  rw [r] at h1;cases h1;exact h2
 obtain ⟨i',v,hi',hv,s,ao,rfl⟩:=Du hz
 rw [r] at hi';cases hi'
 obtain ⟨ah,_⟩:=(Bi h hl).int il
 obtain ⟨ai,_⟩:=(Bi h hc).int ic
 generalize Ba (Au e len)=l at *
 generalize Ba (Au e cap)=c at *
 obtain ⟨C,rfl⟩:=Int.eq_ofNat_of_zero_le h0
 obtain ⟨g,rfl⟩:=Int.eq_ofNat_of_zero_le (Int.le_trans h0 h1)
 have b:=run_make (P:=P) w t el H v hu r hv (Jb (Au e len)) (Jb (Au e cap)) C g h0 h1 (by rw [af,Int.mul_comm];omega) (by omega)
 rw [<-ah,<-ai] at b
 simp only [Int.toNat_natCast,aa] at b
 have D:g<=maxLen:=by unfold maxLen;omega
 have N:=size_madeCells v.cells (g*sz)
 have m:RowR w0 M w v.cells (HB v).cells:=(LS s).cells
 have G:=(LS (w0:=w0) (M:=M) (w:=w) s).cellsOne (fun vs e=>by have:=Jg s;rw [e] at this;cases this)
 by_cases hmk0:Ht e t=true
 case neg =>
  rw [Ae hmk0,Ae hmk0]
  by_cases hl0:(C:Int)=0
  ·rw [Ad hl0,Ad hl0]
   have:C=0:=by omega
   subst this
   obtain ⟨r1,r2⟩:=h.st.addRow (cs:=madeCells v.cells (g*sz)) (ty:=el) (k:=0) (sz:=sz) D (Nat.zero_le _) N
   refine .value ⟨_,_,_,b,r2,r1,?_⟩
   have O:=h.st.NR
   exact R.list (xs:=[]) sz (fun _=>undef) (Nat.zero_le _) D (fun i r=>absurd r (by simp)) (fun i r=>absurd r (by simp)) ⟨by simp [Mem.addRow,O],by simp [Mem.addRow,O],fun _=>by simp [Mem.addRow,O]⟩
  rw [Ae hl0,Ae hl0]
  obtain rfl:sz=1:=by
   rcases aj with q | q | q
   ·exact absurd q hl0
   ·exact absurd q hmk0
   ·exact q
  have y:v.cells.size=1:=by rw [m.1,F]
  obtain ⟨u,hu0⟩:∃ u,v.cells[0]? = some u:=⟨_,Array.getElem?_eq_getElem (by omega)⟩
  have U:(HB v).cells[0]? = some (WC (HB v).cells 0):=by
   rw [List.getElem?_eq_getElem (by omega)]
   simp [WC,List.getD,List.getElem?_eq_getElem (show 0<(HB v).cells.length by omega)]
  have V:R w0 M w u (WC (HB v).cells 0):=m.get hu0 U
  have K:(WC (HB v).cells 0).one=true:=G _ (List.mem_of_getElem? U)
  have J:u.cells = #[u]:=(V.cells_one K).1
  obtain ⟨Q,E⟩:=h.st.newTop (madeCells v.cells (g*1)) el (g*1)
  have f:(List.replicate C (WC (HB v).cells 0)).length=C:=List.length_replicate
  have hR:=R.row (us:=fun _=>u) (xs:=List.replicate C (WC (HB v).cells 0)) (cs:=madeCells v.cells (g*1)) (ty:=el) (sz:=1) (k:=g*1) (cap:=g) (o := .none)
   (fun i r=>⟨by rw [J];rfl,by rw [List.getElem_replicate];exact V⟩)
   (fun i r j hj=>by
    have hi':i<C:=by rw [f] at r;exact r
    have:i*1+j<g*1:=by omega
    have h3:(madeCells v.cells (g*1))[i*1+j]? = some v.cells[(i*1+j) % v.cells.size]! := by
     simp only [madeCells,Array.getElem?_map,Array.getElem?_range,Ad this,Option.map_some]
    obtain rfl:j=0:=by omega
    rw [h3,y,Nat.mod_one,J,getElem!_pos v.cells 0 (by omega)]
    rw [Array.getElem?_eq_getElem (by omega)] at hu0
    simpa using hu0)
   (by rw [f];omega) D (by rw [f];omega) (M.newTop w.heap.size (g*1)) (by simp [Mem.newTop]) E trivial
  rw [f] at hR
  exact .value ⟨_,_,_,b,E,Q,hR⟩
 rw [Ad hmk0,Ad hmk0]
 obtain ⟨r1,r2⟩:=h.st.addVec (cs:=madeCells v.cells (g*sz)) (ty:=el) (cap:=g) (sz:=sz) (xs:=(List.replicate C (HB v).cells).flatten) D Y N
  (by rw [N];simp only [List.length_flatten,List.map_replicate,List.sum_replicate_nat,F];exact Nat.mul_le_mul_right _ (by omega))
  (fun x E=>by
   obtain ⟨q,hq,E⟩:=List.mem_flatten.1 E
   rw [List.eq_of_mem_replicate hq] at E
   exact G x E)
  (fun i u x ad E=>by
   obtain ⟨_,h2⟩:=HE F C i x E
   have h3:u=v.cells[i % v.cells.size]! := by
    obtain ⟨q1,q2⟩:=Array.getElem?_eq_some_iff.1 ad
    rw [<-q2];simp [madeCells]
   have y:v.cells.size=sz:=by rw [m.1,F]
   have h4:v.cells[i % sz]? = some u:=by
    have Z:i % sz<v.cells.size:=by rw [y];exact Nat.mod_lt _ Y
    rw [h3,y,getElem!_pos v.cells (i % sz) Z,Array.getElem?_eq_getElem Z]
   exact m.get h4 h2)
 refine .value ⟨_,_,_,b,r2,r1,?_⟩
 have O:=h.st.NR
 exact .vec (by simp [Mem.addRow,O]) (Nat.zero_le _) fun _=>⟨by simp [Mem.addRow,O],by simp [Mem.addRow,O],by omega⟩
theorem WN (h:Rel w0 n M e st a w) (t:TypeId) (m:Nat) (ps:Array (Nat × Operand)) (hmk:Ht e t=true) (hob:(Bj P e true st (.buildSlice t m ps)).1) :
  Yields' P w0 M (Bj P e true st (.buildSlice t m ps)).2.2 (Bj P e true st (.buildSlice t m ps)).2.1 w (do pure (.value (<- Instr.buildSlice t m (ps.map fun (i,x)=>(i,a.eval x))))):=by
 unfold Bj at hob ⊢
 cases he:GN P t with
 | none=>simp [he] at hob
 | some p =>
  obtain ⟨el,sz,ag,ab⟩:=p
  simp only [he,hmk] at hob ⊢
  obtain ⟨_,D,hr,aa,b,hz,s,U⟩:=hob
  obtain ⟨i,J,g,_,F⟩:=E3 he
  obtain ⟨z,Z⟩:=Option.isSome_iff_exists.1 hz
  obtain ⟨i',v,q,hv,hc,hs,rfl⟩:=Du Z
  have hl:ps.toList.length=m:=by simpa using congrArg List.length hr
  have c:∀ p∈ps.toList,(a.eval p.2).cells.size=sz:=fun p K=>by
   rw [(Bi h (D p K)).cells.1]
   exact s _ (List.mem_map.2 ⟨p,K,rfl⟩)
  obtain ⟨zc,hzc⟩:∃ zc:Array Value,if m*sz=0 then zc = #[] else zc=v.cells:=by
   by_cases h0:m*sz=0
   ·exact ⟨#[],by rw [Ad h0]⟩
   ·exact ⟨v.cells,by rw [Ae h0]⟩
  obtain ⟨cs',a1,a2,a3,a4⟩:=TA sz (ps.toList.map fun p=>a.eval p.2) 0 ((Array.range (m*sz)).map (zc[· % zc.size]!)) (fun u J=>by obtain ⟨p,K,rfl⟩:=List.mem_map.1 J;exact c p K) (by simp [hl])
  have hm:m<=maxLen:=by
   have:m*1<=m*sz:=Nat.mul_le_mul_left _ b
   simp [maxLen];omega
  let us:Nat->Value:=fun i=>(ps.toList.map fun p=>a.eval p.2).getD i undef
  have l:∀ i (g:i<(ps.toList.map fun p=>Au e p.2).length),(us i).cells.size=sz/\R w0 M w (us i) (ps.toList.map fun p=>Au e p.2)[i]:=fun i g=>by
   have q:i<ps.toList.length:=by simpa using g
   have O:i<ps.size:=by simpa using q
   have e1:us i=a.eval (ps.toList[i]).2:=by simp [us,List.getD,Array.getElem?_eq_getElem O]
   rw [e1]
   refine ⟨c _ (List.getElem_mem _),?_⟩
   simp only [List.getElem_map]
   exact Bi h (D _ (List.getElem_mem _))
  have o:(ps.toList.map fun p=>Au e p.2).length=m:=by simp [<-hl]
  have G:=Lr (ys:=ps.toList.map fun p=>Au e p.2) (sz:=sz) s
  rw [o] at G
  have d:cs'.size=m*sz:=by rw [a2];simp
  have r:∀ j,j<m*sz->(flat us m)[j]? = cs'[j]? := fun j hj=>by
   have hk:j / sz<m:=(Nat.div_lt_iff_lt_mul b).2 hj
   have H:=Nat.mod_lt j b
   have ej:j / sz*sz+j % sz=j:=by rw [Nat.mul_comm];exact Nat.div_add_mod j sz
   have f:=Hl (us:=us) (m:=m) (sz:=sz) (fun i g=>(l i (by rw [o];exact g)).1) (j / sz) hk (j % sz) H
   rw [ej] at f
   have N:j / sz<ps.toList.length:=by omega
   have Q:j / sz<ps.size:=by simpa using N
   have f2:=a4 (j / sz) (us (j / sz)) (by simp [us,List.getD,Array.getElem?_eq_getElem Q]) (j % sz) H
   rw [Nat.zero_add,ej] at f2
   rw [f,f2]
  obtain ⟨E,hx⟩:=h.st.addVec (cs:=cs') (ty:=el) (cap:=m) (sz:=sz) (xs:=(ps.toList.map fun p=>Au e p.2).flatMap fun y=>y.pub.cells) hm b d (by rw [G,d];exact Nat.le_refl _) (Wu (fun i g=>(l i g).2) U)
   (fun i v x k Y=>by
    have g:i<m*sz:=by rw [<-d];exact (Array.getElem?_eq_some_iff.1 k).1
    rw [<-r i g] at k
    rw [<-o] at k
    exact Zff b l s k Y)
  have V:=h.st.NR
  refine .value ⟨.slice (some ⟨w.heap.size,0,none⟩) m m,_,_,?_,hx,E,.vec (by simp [Mem.addRow,V]) (Nat.zero_le _) fun _=>⟨by simp [Mem.addRow,V],by simp [Mem.addRow,V],Nat.le_refl _⟩⟩
  have e0:¬ (m*sz > 2 ^ 24):=by omega
  have C:(ps.map fun (i,x)=>(i,a.eval x)).toList=((ps.toList.map fun p=>a.eval p.2).zipIdx 0).map fun x=>(x.2,x.1):=by
   rw [Array.toList_map]
   exact U2 hr a.eval
  by_cases h0:m*sz=0
  ·rw [Ad h0] at hzc
   subst hzc
   simp only [Instr.buildSlice,Sem.run_bind,run_underlying J,Result.andThen_ok,BL F,Ae e0,Ad h0,Sem.run_pure,C,a1,newRow,run_newObj]
   rfl
  ·rw [Ae h0] at hzc
   subst hzc
   simp only [Instr.buildSlice,Sem.run_bind,run_underlying J,Result.andThen_ok,BL F,Ae e0,Ae h0,Sem.run_pure,zeroValue,typeInfo,run_program,q,hv,C,a1,newRow,run_newObj]
   rfl
theorem Zb0 (h:Rel w0 n M e st a w) (o:Oper) (hob:(Bj P e true st o.op).1) :
  Yields' P w0 M (Bj P e true st o.op).2.2 (Bj P e true st o.op).2.1 w (execOp a.eval o):=by
 obtain ⟨q,op,g,z,l,j⟩:=o
 cases op with
 | move x=>exact J0 h.st rfl (Bi h hob)
 | assign x=>exact J0 h.st rfl (Bi h hob)
 | pick c x y=>exact Ze4 h c x y hob
 | alloc t=>exact ZbD h t hob
 | box t x=>exact Zgk h t x hob
 | build t ps=>exact ZbT h t ps hob
 | buildSlice t m ps =>
  cases hmk:Ht e t with
  | false=>exact Uy h t m ps hmk hob
  | true=>exact WN h t m ps hmk hob
 | load t x =>
  have:=Ze7 h t x hob
  have e:(Bj P e true st (.load t x)).2.2=st:=by simp only [Bj];split<;>rfl
  simp only [e]
  exact this
 | store t x v=>exact Zcr h t x v hob
 | nilCheck x=>exact WP h ⟨q,.nilCheck x,g,z,l,j⟩ x rfl hob
 | binOp op t x y u=>exact Za9 h op t x y u hob
 | unOp op t x=>exact ZdU h op t x hob
 | convert s d x=>exact X8 h s d x hob
 | makeFunc f fi cap =>
  cases f with
  | func f=>exact WG h f fi cap hob
  | _=>exact hob.elim
 | slice t x lo hi mx=>exact ZaM h t x lo hi mx hob
 | makeSlice t len cap=>exact Vh h t len cap hob
 | fieldAddr t x f=>exact Vo h t x f hob
 | field t x f=>exact ZbS h t x f hob
 | indexAddr t x i=>exact VW h t x i hob
 | index t x i=>exact ZaF h t x i hob
 | extract x i=>exact XM h x i hob
 | makeMap t r=>exact X1 h t r hob
 | lookup t m k ok=>exact ZY h t m k ok hob
 | mapUpdate t m k v=>exact VI h t m k v hob
 | call c =>
  obtain ⟨callee,args,ts⟩:=c
  cases callee with
  | builtin b =>
   cases b with
   | len =>
    simp only [Bj] at hob ⊢
    split at hob
    ·rename_i x t hx ht
     obtain ⟨D,C⟩:=hob
     have ea:args = #[x]:=Array.toList_inj.1 (by simpa using hx)
     have et:ts = #[t]:=Array.toList_inj.1 (by simpa using ht)
     subst ea;subst et
     exact (Zha h x t g D C).congr (II .len #[x] #[t] q g z l j _ (fun _=>by simp [builtin]))
    ·exact hob.elim
   | append =>
    simp only [Bj] at hob ⊢
    split at hob
    ·rename_i s x t t' hx ht
     obtain ⟨_,D,C,rfl,E⟩:=hob
     have ea:args = #[s,x]:=Array.toList_inj.1 (by simpa using hx)
     have et:ts = #[t,t]:=Array.toList_inj.1 (by simpa using ht)
     subst ea;subst et
     exact (UO h s x t g D C E).congr (II .append #[s,x] #[t,t] q g z l j _ (fun _=>by simp [builtin]))
    ·exact hob.elim
   | clear =>
    simp only [Bj] at hob ⊢
    split at hob
    ·rename_i x t hx ht
     have ea:args = #[x]:=Array.toList_inj.1 (by simpa using hx)
     have et:ts = #[t]:=Array.toList_inj.1 (by simpa using ht)
     subst ea;subst et
     split at hob
     ·rename_i id ver o n' el sz ag by8 ex he
      cases hvr:Df st.rows id ver with
      | none=>simp only [hvr] at hob
      | some p =>
       obtain ⟨G,cs⟩:=p
       simp only [hvr] at hob ⊢
       obtain ⟨_,D,C,E,F⟩:=hob
       exact (Zca h x t g he ex hvr D C E F).congr (II .clear #[x] #[t] q g z l j _ (fun _=>by simp [builtin]))
     ·exact hob.elim
    ·exact hob.elim
   | min =>
    simp only [Bj] at hob ⊢
    split at hob
    ·rename_i x y hx
     obtain ⟨D,C,E,F,_⟩:=hob
     have ea:args = #[x,y]:=Array.toList_inj.1 (by simpa using hx)
     subst ea
     exact (Zhe h x y ts g D C E F).congr (II .min #[x,y] ts q g z l j _ (fun _=>by simp [builtin]))
    ·exact hob.elim
   | max =>
    simp only [Bj] at hob ⊢
    split at hob
    ·rename_i x y hx
     obtain ⟨D,C,E,F⟩:=hob
     have ea:args = #[x,y]:=Array.toList_inj.1 (by simpa using hx)
     subst ea
     exact (ZgN h x y ts g D C E F).congr (II .max #[x,y] ts q g z l j _ (fun _=>by simp [builtin]))
    ·exact hob.elim
   | _=>exact hob.elim
  | _=>exact hob.elim
 | _=>exact hob.elim
end
def FW (ro:Option Nat):Fence:={ Fence.wide with round:=ro }
theorem OI (ro:Option Nat) (f:FuncId):(FW ro).fn f:=trivial
theorem P9 (ro:Option Nat):(FW ro).depth.isSome=true->∀ n,1<=n:=fun h=>by cases h
theorem O4 {ro:Option Nat} {n:Nat} {P:Program} {f:FuncId} {args:Array Value} {w:World} {Q:Ending->World->Prop} (h:Calls P f args w Q):CallsIn (FW ro) n P f args w Q:=by
 cases ro with
 | none=>exact callsIn_wide.2 h
 | some l=>exact CallsIn.inRound (F:=Fence.wide) l (callsIn_wide.2 h)
theorem Rk {n:Nat} {P:Program} {f:FuncId} {args:Array Value} {w:World} {Q:Ending->World->Prop} (h:CallsIn (FW none) n P f args w Q):Calls P f args w Q:=callsIn_wide.1 h
def HW (P:Program) (f:FuncId):Prop:=∀ args w,(callFunc f args).run P w = .ok (.enter f args) w
def Comes' (w0:World) (M:Mem) (w:World) (Post:AV->St->Prop) (en:Ending) (w':World):Prop :=
 ∃ v M' r st',en = .returned v/\Post r st'/\Ext w0 M w M' w'/\RelSt w0 M' st' w'/\R w0 M' w' v r
def ACalls (P:Program) (w0:World) (f:FuncId) (args:List AV) (st:St) (Post:AV->St->Prop):Prop :=
 HW P f/\∀ (M:Mem) (w:World) (vals:Array Value),RelSt w0 M st w->RowR w0 M w vals args->Calls P f vals w (Comes' w0 M w Post)
theorem Comes'.mono {w0:World} {M:Mem} {w:World} {Post Post':AV->St->Prop} (hp:∀ r s,Post r s->Post' r s) {en:Ending} {w':World} (h:Comes' w0 M w Post en w'):Comes' w0 M w Post' en w' :=
 let ⟨v,M',r,st',a1,a2,a3,a4,a5⟩:=h;⟨v,M',r,st',a1,hp _ _ a2,a3,a4,a5⟩
theorem ACalls.mono {P:Program} {w0:World} {f:FuncId} {args:List AV} {st:St} {Post Post':AV->St->Prop} (h:ACalls P w0 f args st Post) (hp:∀ r s,Post r s->Post' r s):ACalls P w0 f args st Post' :=
 ⟨h.1,fun M w a c b=>(h.2 M w a c b).mono fun _ _ h=>h.mono hp⟩
def SQ (P:Program) (w0:World) (k:Nat) (args:List AV) (st:St) (Post:AV->St->Prop):Prop :=
 ∀ (M:Mem) (w:World) (vals:Array Value),RelSt w0 M st w->RowR w0 M w vals args ->
  ∃ fn tmps asg body,(Instr.yield (M.lb k) vals).run P w = .ok (.round (M.lb k) fn tmps asg body) w/\∀ n,RoundIn Fence.wide n P (M.lb k) fn tmps asg body w (Comes' w0 M w Post)
def LX (P:Program) (w0:World) (fv:AV) (args:List AV) (st:St) (Post:AV->St->Prop):Prop :=
 match fv with
 | .clo f cs=>ACalls P w0 f (args++cs) st Post
 | .bnd f cs=>ACalls P w0 f (cs++args) st Post
 | .yld k=>SQ P w0 k args st Post
 | _=>False
def Ip (e:Env) (dst:Option Nat) (c:Bool) (v:AV):Env :=
 match dst with
 | some d=>(d,c,v)::e
 | none=>e
def ID (n:Nat):Option Nat->Prop
 | some d=>d<n
 | none=>True
def BZ (all:List Oper) (e:Env):Option (Nat × Bool)->Bool
 | none=>true
 | some (j,want)=>match (all[j]?).bind (·.dst) with
  | some d=>match look e d with
   | some (cj,.val (.bool b))=>cj&&(b == want)
   | _=>false
  | none=>false
def Jf (all:List Oper) (e:Env):Option (Nat × Bool)->Prop
 | none=>True
 | some (j,_)=>match (all[j]?).bind (·.dst) with
  | some d=>match look e d with
   | some (_,v)=>RY v=true
   | none=>False
  | none=>False
def IZ:List Operand->List Nat
 | []=>[]
 | .tmp t::r=>t::IZ r
 | _::r=>IZ r
def Zcg (all:List Oper):Option (Nat × Bool)->List Nat
 | none=>[]
 | some (j,_)=>((all[j]?).bind (·.dst)).toList
def looks (all:List Oper) (o:Oper):List Nat:=1000000::(IZ o.op.operands.toList++Zcg all o.guard)
def B2 (d:Bool) (all:List Oper) (o:Oper) (e:Env):Env:=if d then BW (looks all o) e else e
def I2 (P:Program) (w0:World) (c d:Bool) (fv:AV) (args:List AV) (st:St) (k:AV->St->Prop):Prop :=
 (∃ v,(c=true->LX P w0 fv args st fun r s=>r=v/\s=st)/\k v st) \/
 (d=false/\∃ Post,(c=true->LX P w0 fv args st Post)/\∀ v st',(c=true->Post v st')->(c=false->st'=st)->k v st')
theorem Nl {P:Program} {w0:World} {c d:Bool} {f:FuncId} {cs args:List AV} {st:St} {k:AV->St->Prop} (v:AV)
  (h:ACalls P w0 f (args++cs) st fun r s=>r=v/\s=st) (hk:k v st):I2 P w0 c d (.clo f cs) args st k := .inl ⟨v,fun _=>h,hk⟩
theorem TN {P:Program} {w0:World} {f:FuncId} {cs args:List AV} {st:St} {k:AV->St->Prop} (Post:AV->St->Prop)
  (h:ACalls P w0 f (args++cs) st Post) (hk:∀ v s,Post v s->k v s):I2 P w0 true false (.clo f cs) args st k := .inr ⟨rfl,Post,fun _=>h,fun v s a _=>hk v s (a rfl)⟩
theorem Q0 {P:Program} {w0:World} {c:Bool} {i:Nat} {args:List AV} {st:St} {k:AV->St->Prop} (Post:AV->St->Prop)
  (h:c=true->SQ P w0 i args st Post) (hk:∀ v s,(c=true->Post v s)->(c=false->s=st)->k v s):I2 P w0 c false (.yld i) args st k := .inr ⟨rfl,Post,h,hk⟩
def argP (e:Env) (x:AV):AV:=if Ht e 0=true then x else x.pub
theorem R.argP {w0:World} {M:Mem} {w:World} {v:Value} {x:AV} (e:Env) (h:R w0 M w v x):R w0 M w v (Go.Ev.argP e x):=by
 unfold Go.Ev.argP
 split
 ·exact h
 ·exact h.pub
def Zbv (e:Env) (g:Nat):AV :=
 match look e (2000000+g) with
 | some (_,x)=>x
 | none => .junk
def Zjl (P:Program) (w0:World) (t:TypeId) (g:Nat) (x:AV):Prop :=
 ∀ (M:Mem) (w:World),Below w0.heap.size w0 w->∃ v,(Instr.loadAt t (.pointer (some ⟨g,0,none⟩))).run P w = .ok v w/\R w0 M w v x
def YW (P:Program) (w0:World) (n:Nat) (d:Bool) (all:List Oper) (R:List Oper->Env->St->Prop) (K:Env->St->Prop):List Oper->Env->St->Prop
 | [],e,st=>K e st
 | o::os,e,st =>
  Jf all (B2 d all o e) o.guard/\ID n o.dst /\
  match o.op with
  | .call ⟨.value f,args,_⟩ =>
   (BZ all (B2 d all o e) o.guard=true->A4 (B2 d all o e) true f/\∀ x∈args.toList,A4 (B2 d all o e) true x) /\
   I2 P w0 (BZ all (B2 d all o e) o.guard) d (Au (B2 d all o e) f) (args.toList.map fun x=>argP (B2 d all o e) (Au (B2 d all o e) x)) st
    fun v st'=>R os (Ip e o.dst (BZ all (B2 d all o e) o.guard) v) st'
  | .load t (.global g)=>(d=false/\(BZ all (B2 d all o e) o.guard=true->Zjl P w0 t g (Zbv e g)))/\YW P w0 n d all R K os (Ip e o.dst (BZ all (B2 d all o e) o.guard) (Zbv e g)) st
  | op=>match Bj P (B2 d all o e) (BZ all (B2 d all o e) o.guard) st op with
   | (ob,v,st')=>(BZ all (B2 d all o e) o.guard=true->ob)/\((BZ all (B2 d all o e) o.guard=false\/d=true)->st'=st)/\YW P w0 n d all R K os (Ip e o.dst (BZ all (B2 d all o e) o.guard) v) st'
def Ru (P:Program) (w0:World) (n:Nat) (d:Bool) (all:List Oper) (K:Env->St->Prop):Nat->List Oper->Env->St->Prop
 | 0,_,_,_=>False
 | c+1,os,e,st=>YW P w0 n d all (Ru P w0 n d all K c) K os e st
theorem Ai {P:Program} {w0:World} {n:Nat} {d:Bool} {all:List Oper} {K:Env->St->Prop} {c:Nat} {os:List Oper} {e:Env} {st:St}:Ru P w0 n d all K (c+1) os e st=YW P w0 n d all (Ru P w0 n d all K c) K os e st:=rfl
def Kt:Op->Bool
 | .call ⟨.value _,_,_⟩=>true
 | _=>false
def ZgP:Op->Bool
 | .load _ (.global _)=>true
 | _=>false
theorem UU {P:Program} {w0:World} {n:Nat} {d:Bool} {all:List Oper} {R:List Oper->Env->St->Prop} {K:Env->St->Prop} {o:Oper} {os:List Oper} {e:Env} {st:St} (hc:¬ Kt o.op=true) (hgl:¬ ZgP o.op=true) :
  YW P w0 n d all R K (o::os) e st=(Jf all (B2 d all o e) o.guard/\ID n o.dst/\match Bj P (B2 d all o e) (BZ all (B2 d all o e) o.guard) st o.op with
   | (ob,v,st')=>(BZ all (B2 d all o e) o.guard=true->ob)/\((BZ all (B2 d all o e) o.guard=false\/d=true)->st'=st)/\YW P w0 n d all R K os (Ip e o.dst (BZ all (B2 d all o e) o.guard) v) st'):=by
 obtain ⟨dst,op,b,c,a,guard⟩:=o
 cases op with
 | call cc =>
  obtain ⟨callee,args,ts⟩:=cc
  cases callee with
  | value f=>exact absurd rfl hc
  | _=>rfl
 | load t y =>
  cases y with
  | global g=>exact absurd rfl hgl
  | _=>rfl
 | _=>rfl
section
variable {P:Program} {w0:World} {n:Nat} {M:Mem} {e:Env} {st:St} {a:Act} {w:World}
theorem QR (h:Rel w0 n M e st a w) (ro:Option Nat) (m:Nat) (o:Oper) (hob:(Bj P e true st o.op).1) (Q:Exit->Act->World->Prop) (K:Act->World->Prop)
  (hK:∀ v w' M',Ext w0 M w M' w'->RelSt w0 M' (Bj P e true st o.op).2.2 w'->R w0 M' w' v (Bj P e true st o.op).2.1->K (a.put o.dst v) w'):o.wpIn (FW ro) m P a w K Q:=by
 have hd:∀ c,o.op ≠ .defer c:=by
  intro c j
  rw [j] at hob
  exact hob
 obtain ⟨v,w',M',b,i,d,g⟩:=Zb0 (P:=P) h o hob
 refine ⟨fun f _=>OI ro f,?_⟩
 have hs:Oper.semAt (FW ro).round a.eval o=execOp a.eval o:=by
  cases ro with
  | none=>rfl
  | some l=>exact Oper.semAt_some l a.eval o hd
 rw [hs]
 rcases b with b | ⟨b,rfl⟩
 ·rw [b];exact hK v w' M' i d g
 ·rw [b];exact hK _ w' M' i d g
theorem Vq {v:Value} {f:FuncId} {xs:List AV} (h:R w0 M w v (.clo f xs)):∃ cs,v = .func (.func f) #[] cs/\RowR w0 M w cs xs:=by
 cases h with
 | clo hl h=>exact ⟨_,rfl,hl,h⟩
theorem Ze1 {v:Value} {f:FuncId} {xs:List AV} (h:R w0 M w v (.bnd f xs)):∃ cs,v = .func (.func f) cs #[]/\RowR w0 M w cs xs:=by
 cases h with
 | bnd hl h=>exact ⟨_,rfl,hl,h⟩
theorem ZdK {v:Value} {k:Nat} (h:R w0 M w v (.yld k)):v = .func (.yield (M.lb k)) #[] #[]:=by
 cases h with
 | yld hk=>rfl
theorem ZeU (h:Rel w0 n M e st a w) {args:Array Operand} (hargs:∀ x∈args.toList,A4 e true x):RowR w0 M w (args.map a.eval) (args.toList.map fun x=>argP e (Au e x)):=by
 refine .mk (by simp) (fun i u y hu hy=>?_)
 by_cases c:i<args.size
 ·simp only [Array.getElem?_map,Array.getElem?_eq_getElem c,Option.map_some,Option.some.injEq] at hu
  simp only [List.getElem?_map,Array.getElem?_toList,Array.getElem?_eq_getElem c,Option.map_some,Option.some.injEq] at hy
  subst hu;subst hy
  exact (Bi h (hargs _ (by simp))).argP e
 ·simp [Array.getElem?_eq_none (Nat.le_of_not_lt c)] at hu
theorem RowR.append {cs ds:Array Value} {xs ys:List AV} (h:RowR w0 M w cs xs) (k:RowR w0 M w ds ys):RowR w0 M w (cs++ds) (xs++ys):=by
 refine .mk (by simp [h.1,k.1]) (fun i u y a b=>?_)
 by_cases c:i<cs.size
 ·rw [Array.getElem?_append_left c] at a
  rw [List.getElem?_append_left (h.1▸c)] at b
  exact h.get a b
 ·rw [Array.getElem?_append_right (by omega)] at a
  rw [List.getElem?_append_right (by have:=h.1;omega)] at b
  rw [h.1] at a
  exact k.get a b
theorem JP (h:Rel w0 n M e st a w) (ro:Option Nat) (m:Nat) {dst:Option Tmp} {f:Operand} {args:Array Operand} {ts:Array TypeId} {type:TypeId} {pos:String} {after:Array Edge} {guard:Option (Nat × Bool)}
  (hf:A4 e true f) (hargs:∀ x∈args.toList,A4 e true x) {Post:AV->St->Prop} (hv:LX P w0 (Au e f) (args.toList.map fun x=>argP e (Au e x)) st Post) (Q:Exit->Act->World->Prop) (K:Act->World->Prop)
  (hK:∀ r s,Post r s->∀ v w' M',Ext w0 M w M' w'->RelSt w0 M' s w'->R w0 M' w' v r->K (a.put dst v) w') :
  (⟨dst,.call ⟨.value f,args,ts⟩,type,pos,after,guard⟩:Oper).wpIn (FW ro) m P a w K Q:=by
 have d:=ZeU h hargs
 have o:=Bi h hf
 refine ⟨fun f _=>OI ro f,?_⟩
 have hs:Oper.semAt (FW ro).round a.eval ⟨dst,.call ⟨.value f,args,ts⟩,type,pos,after,guard⟩=execOp a.eval ⟨dst,.call ⟨.value f,args,ts⟩,type,pos,after,guard⟩:=by
  cases ro with
  | none=>rfl
  | some l=>exact Oper.semAt_some l a.eval _ (fun c hh=>by cases hh)
 rw [hs]
 cases hx:Au e f with
 | clo g xs =>
  rw [hx] at o hv
  obtain ⟨cs,ef,j⟩:=Vq o
  have b:(execOp a.eval ⟨dst,.call ⟨.value f,args,ts⟩,type,pos,after,guard⟩).run P w = .ok (.enter g (args.map a.eval++cs)) w:=by
   simp [execOp,resolve,ef,Deferred.ofValue,invoke,hv.1 (args.map a.eval++cs) w]
  rw [b]
  refine ⟨fun q=>P9 ro q m,O4 ((hv.2 M w _ h.st (d.append j)).mono ?_)⟩
  rintro en w' ⟨z,M',r,s,rfl,C,D,p,y⟩
  exact hK r s C z w' M' D p y
 | bnd g xs =>
  rw [hx] at o hv
  obtain ⟨cs,ef,j⟩:=Ze1 o
  have b:(execOp a.eval ⟨dst,.call ⟨.value f,args,ts⟩,type,pos,after,guard⟩).run P w = .ok (.enter g (cs++args.map a.eval)) w:=by
   simp [execOp,resolve,ef,Deferred.ofValue,invoke,hv.1 (cs++args.map a.eval) w]
  rw [b]
  refine ⟨fun q=>P9 ro q m,O4 ((hv.2 M w _ h.st (j.append d)).mono ?_)⟩
  rintro en w' ⟨z,M',r,s,rfl,C,D,p,y⟩
  exact hK r s C z w' M' D p y
 | yld k =>
  rw [hx] at o hv
  have ef:=ZdK o
  obtain ⟨G,t,E,u,H,i⟩:=hv M w _ h.st d
  have b:(execOp a.eval ⟨dst,.call ⟨.value f,args,ts⟩,type,pos,after,guard⟩).run P w = .ok (.round (M.lb k) G t E u) w:=by
   simp [execOp,resolve,ef,Deferred.ofValue,invoke,H]
  rw [b]
  refine ⟨fun q=>P9 ro q m,?_⟩
  have:=i (m-1)
  refine RoundIn.mono (F:=FW ro) (by cases ro<;>exact this) ?_
  rintro en w' ⟨z,M',r,s,rfl,C,D,p,y⟩
  exact hK r s C z w' M' D p y
 | _=>rw [hx] at hv;exact hv.elim
theorem Is (a:Act) (dst:Option Nat) (v:Value) (s:Nat) (hd:ID a.tmps.size dst):(a.put dst v).tmps.getD s undef=if dst=some s then v else a.tmps.getD s undef:=by
 cases dst with
 | none=>simp [Act.put]
 | some d =>
  simp only [ID] at hd
  simp only [Act.put,Option.some.injEq]
  by_cases c:d=s
  ·subst c
   simp [hd]
  ·rw [Ae c]
   simp [Array.getElem?_setIfInBounds_ne c]
theorem P2 (a:Act) (dst:Option Nat) (v:Value):(a.put dst v).tmps.size=a.tmps.size:=by cases dst<;>simp [Act.put]
theorem FM (a:Act) (dst:Option Nat) (v:Value):(a.put dst v).defers=a.defers:=by cases dst<;>rfl
theorem Rel.put (h:Rel w0 n M e st a w) {M':Mem} {w':World} {st':St} (hx:Ext w0 M w M' w') (hst:RelSt w0 M' st' w') {dst:Option Nat} (hd:ID n dst) {c:Bool} {v:Value} {r:AV} (hv:entryOk w0 M' w' v (c,r)) :
  Rel w0 n M' (Ip e dst c r) st' (a.put dst v) w':=by
 refine ⟨hst,by rw [P2];exact h.size,fun s x hs=>?_⟩
 rw [Is a dst v s (by rw [h.size];exact hd)]
 cases dst with
 | none=>exact (h.env s x hs).mono hx
 | some d =>
  simp only [Ip,look] at hs
  simp only [Option.some.injEq]
  by_cases q:d=s
  ·rw [Ad q] at hs ⊢
   cases hs
   exact hv
  ·rw [Ae q] at hs ⊢
   exact (h.env s x hs).mono hx
theorem Vu {ops:Array Oper} {ts:Array Value} {j d:Nat} (h:(ops[j]?).bind (·.dst)=some d):yielded ops ts j=match ts.getD d undef with | .bool b=>some b | _=>none:=by
 unfold yielded
 simp only [h]
 rw [Array.getD_eq_getD_getElem?]
 change (match ts[(d:Nat)]? with | some (.bool b)=>some b | _=>none)=_
 cases ts[(d:Nat)]? with
 | none=>rfl
 | some v=>cases v<;>rfl
theorem J5 (h:Rel w0 n M e st a w) {all:List Oper} {o:Oper} (hg:Jf all e o.guard):Region.wanted o (yielded all.toArray a.tmps)=BZ all e o.guard:=by
 unfold Region.wanted BZ
 cases hgd:o.guard with
 | none=>rfl
 | some p =>
  obtain ⟨j,want⟩:=p
  rw [hgd] at hg
  simp only [Jf] at hg
  have f:(all.toArray[j]?).bind (·.dst)=(all[j]?).bind (·.dst):=by simp
  dsimp only
  cases hd:(all[j]?).bind (·.dst) with
  | none=>simp [hd] at hg
  | some d =>
   rw [Vu (f.trans hd)]
   simp only [hd] at hg ⊢
   cases hl:look e d with
   | none=>simp [hl] at hg
   | some x =>
    obtain ⟨cj,v⟩:=x
    simp only [hl] at hg ⊢
    have c:=h.env d _ hl
    cases v with
    | val u =>
     cases u<;>try cases hg
     rename_i b
     unfold entryOk at c
     cases cj with
     | true =>
      rw [Ad rfl] at c
      obtain ⟨g,_⟩:=c.val_inv
      rw [g]
      cases b<;>cases want<;>rfl
     | false =>
      rw [Ae (by simp)] at c
      rw [c]
      rfl
    | _=>cases hg
def Za5 (e' e:Env):Prop:=∀ s x,look e' s=some x->look e s=some x
theorem Rel.sub {e':Env} (h:Rel w0 n M e st a w) (hs:Za5 e' e):Rel w0 n M e' st a w:=⟨h.st,h.size,fun s x b=>h.env s x (hs s x b)⟩
theorem HU:∀ (K:List Nat) (e:Env) (s:Nat) (x:Bool × AV),look (BW K e) s=some x->look e s=some x
 | [],_,_,_,h=>by simp [BW,look] at h
 | k::K,e,s,x,h=>by
  simp only [BW] at h
  cases hk:look e k with
  | none =>
   simp only [hk] at h
   exact HU K e s x h
  | some y =>
   obtain ⟨c,v⟩:=y
   simp only [hk,look] at h
   by_cases q:k=s
   ·rw [Ad q] at h
    subst q
    rw [hk];exact h
   ·rw [Ae q] at h
    exact HU K e s x h
theorem BD (K:List Nat) (e:Env):Za5 (BW K e) e:=HU K e
theorem LA:∀ (K:List Nat) (e:Env) (s:Nat) (x:Bool × AV),look (BW K e) s=some x->s∈K
 | [],_,_,_,h=>by simp [BW,look] at h
 | k::K,e,s,x,h=>by
  simp only [BW] at h
  cases hk:look e k with
  | none =>
   simp only [hk] at h
   exact List.mem_cons_of_mem _ (LA K e s x h)
  | some y =>
   obtain ⟨c,v⟩:=y
   simp only [hk,look] at h
   by_cases q:k=s
   ·exact q▸List.mem_cons_self
   ·rw [Ae q] at h
    exact List.mem_cons_of_mem _ (LA K e s x h)
theorem Zb5 (d:Bool) (all:List Oper) (o:Oper) (e:Env):Za5 (B2 d all o e) e:=by
 unfold B2
 split
 ·exact BD _ _
 ·exact fun _ _ h=>h
theorem N5 (ro:Option Nat) (m:Nat) (d:Bool) (all:List Oper) (KK:Env->St->Prop) (Q:Exit->Act->World->Prop):∀ (c:Nat) (os:List Oper) (e:Env) (st:St) (a:Act) (w:World) (M:Mem),Rel w0 n M e st a w ->
  Ru P w0 n d all KK c os e st->(∀ e' st' a' w' M',KK e' st'->Rel w0 n M' e' st' a' w'->Ext w0 M w M' w'->a'.defers=a.defers->Q .normal a' w')->wpListIn (FW ro) m P all.toArray Q os a w
 | 0,_,_,_,_,_,_,_,h,_=>h.elim
 | c+1,os,e,st,a,w,M,hr,h,C=>by
  have K:∀ (os:List Oper) (e:Env) (st:St) (a:Act) (w:World) (M:Mem),Rel w0 n M e st a w->YW P w0 n d all (Ru P w0 n d all KK c) KK os e st ->
    (∀ e' st' a' w' M',KK e' st'->Rel w0 n M' e' st' a' w'->Ext w0 M w M' w'->a'.defers=a.defers->Q .normal a' w')->wpListIn (FW ro) m P all.toArray Q os a w:=by
   intro os
   induction os with
   | nil=>exact fun e st a w M hr h C=>C e st a w M h hr (.refl _ _ _) rfl
   | cons o os ih =>
    intro e st a w M hr h C
    have hv:=Zb5 d all o e
    have k:=hr.sub hv
    by_cases hc:Kt o.op=true
    ·obtain ⟨dst,op,type,pos,after,guard⟩:=o
     cases op<;>try cases hc
     rename_i cc
     obtain ⟨callee,args,ts⟩:=cc
     cases callee<;>try cases hc
     rename_i f
     simp only [YW] at h
     obtain ⟨E,hd,x,z⟩:=h
     unfold wpListIn
     rw [J5 k E]
     have go:∀ v s,Ru P w0 n d all KK c os (Ip e dst (BZ all (B2 d all ⟨dst,.call ⟨.value f,args,ts⟩,type,pos,after,guard⟩ e) guard) v) s->∀ u w' M',Ext w0 M w M' w'->RelSt w0 M' s w' ->
       entryOk w0 M' w' u (BZ all (B2 d all ⟨dst,.call ⟨.value f,args,ts⟩,type,pos,after,guard⟩ e) guard,v)->wpListIn (FW ro) m P all.toArray Q os (a.put dst u) w':=by
      intro v s H u w' M' hx hst hu
      exact N5 ro m d all KK Q c os _ _ _ _ M' (hr.put hx hst hd hu) H (fun e' st' a' i b p j J G=>C e' st' a' i b p j (hx.trans J) (G.trans (FM a dst u)))
     cases hcc:BZ all (B2 d all ⟨dst,.call ⟨.value f,args,ts⟩,type,pos,after,guard⟩ e) guard with
     | true =>
      rw [hcc] at x z go
      obtain ⟨Y,V⟩:=x rfl
      rw [Ad rfl]
      rcases z with ⟨v,p,j⟩ | ⟨_,Post,p,j⟩
      ·refine JP k ro m Y V (p rfl) Q _ (fun r s N u w' M' hx hst hu=>?_)
       obtain ⟨rfl,rfl⟩:=N
       exact go _ _ j u w' M' hx hst hu
      ·exact JP k ro m Y V (p rfl) Q _ (fun r s N u w' M' hx hst hu=>go _ _ (j r s (fun _=>N) (fun q=>by cases q)) u w' M' hx hst hu)
     | false =>
      rw [hcc] at x z go
      rw [Ae (by simp)]
      refine ⟨fun g _=>OI ro g,?_⟩
      rcases z with ⟨v,p,j⟩ | ⟨_,Post,p,j⟩
      ·exact go _ _ j undef w M (.refl _ _ _) hr.st rfl
      ·exact go .junk st (j .junk st (fun q=>by cases q) (fun _=>rfl)) undef w M (.refl _ _ _) hr.st rfl
    by_cases hgl:ZgP o.op=true
    ·obtain ⟨dst,op,type,pos,after,guard⟩:=o
     cases op<;>try cases hgl
     rename_i t y
     cases y<;>try cases hgl
     rename_i g
     simp only [YW] at h
     obtain ⟨E,hd,⟨_,x⟩,z⟩:=h
     unfold wpListIn
     rw [J5 k E]
     cases hcc:BZ all (B2 d all ⟨dst,.load t (.global g),type,pos,after,guard⟩ e) guard with
     | true =>
      rw [hcc] at x z
      rw [Ad rfl]
      obtain ⟨v,p,j⟩:=x rfl M w hr.st.below
      refine ⟨fun f _=>OI ro f,?_⟩
      have hs:Oper.semAt (FW ro).round a.eval ⟨dst,.load t (.global g),type,pos,after,guard⟩=execOp a.eval ⟨dst,.load t (.global g),type,pos,after,guard⟩:=by
       cases ro with
       | none=>rfl
       | some l=>exact Oper.semAt_some l a.eval _ (fun c hh=>by cases hh)
      have F:(execOp a.eval ⟨dst,.load t (.global g),type,pos,after,guard⟩).run P w = .ok (.value v) w:=by
       have Z:a.eval (.global g) = .pointer (some ⟨g,0,none⟩):=rfl
       simp [execOp,Z,p]
      rw [hs,F]
      exact ih _ _ _ _ M (hr.put (.refl _ _ _) hr.st hd (c:=true) (show entryOk w0 M w v (true,_) from j)) z (fun e' st' a' i b q1 q2 q3 O=>C e' st' a' i b q1 q2 q3 (O.trans (FM a dst v)))
     | false =>
      rw [hcc] at z
      rw [Ae (by simp)]
      refine ⟨fun f _=>OI ro f,ih _ _ _ _ M (hr.put (.refl _ _ _) hr.st hd (c:=false) (show entryOk w0 M w undef (false,_) from rfl)) z (fun e' st' a' i b q1 q2 q3 O=>C e' st' a' i b q1 q2 q3 (O.trans (FM a dst undef)))⟩
    ·rw [UU hc hgl] at h
     obtain ⟨E,hd,x,U,D⟩:=h
     unfold wpListIn
     rw [J5 k E]
     have go:∀ u w' M',Ext w0 M w M' w'->RelSt w0 M' (Bj P (B2 d all o e) (BZ all (B2 d all o e) o.guard) st o.op).2.2 w' ->
       entryOk w0 M' w' u (BZ all (B2 d all o e) o.guard,(Bj P (B2 d all o e) (BZ all (B2 d all o e) o.guard) st o.op).2.1)->wpListIn (FW ro) m P all.toArray Q os (a.put o.dst u) w':=by
      intro u w' M' hx hst hu
      exact ih _ _ _ _ M' (hr.put hx hst hd hu) D (fun e' st' a' i b p j J G=>C e' st' a' i b p j (hx.trans J) (G.trans (FM a o.dst u)))
     cases hcc:BZ all (B2 d all o e) o.guard with
     | true =>
      rw [hcc] at x go
      rw [Ad rfl]
      exact QR k ro m o (x rfl) Q _ (fun v w' M' hx hst hv=>go v w' M' hx hst hv)
     | false =>
      rw [hcc] at U go
      rw [Ae (by simp)]
      refine ⟨fun g _=>OI ro g,go undef w M (.refl _ _ _) ?_ rfl⟩
      have q:(Bj P (B2 d all o e) false st o.op).2.2=st:=U (.inl rfl)
      rw [q]
      exact hr.st
  exact K os e st a w M hr h C
end
def Marked (W0:World) (ds:List Deferred) (w:World):Prop :=
 ∃ Ds:List Nat,Ds.Nodup/\ds=Ds.map (fun D=>{ target := .collected D,args := #[] })/\∀ D∈Ds,W0.heap.size<=D/\w.heap[D]? = some (.deferred (some []))
abbrev AQ:=Exit->Env->St->Prop
structure At (w0:World) (n:Nat) (M0:Mem) (W0:World) (e:Env) (st:St) (a:Act) (w:World) (M:Mem):Prop where
 rel:Rel w0 n M e st a w
 ext:Ext w0 M0 W0 M w
 marks:Marked W0 a.defers w
def Ziv (w0:World) (n:Nat) (M0:Mem) (W0:World) (Q:AQ) (x:Exit) (a':Act) (w':World):Prop :=
 ∃ M' e' st',At w0 n M0 W0 e' st' a' w' M'/\Q x e' st'
def CW (P:Program) (w0:World) (n:Nat) (M0:Mem) (W0:World) (ro:Option Nat) (c:Code) (Q:AQ) (e:Env) (st:St):Prop :=
 ∀ m M a w,At w0 n M0 W0 e st a w M->c.wpIn (FW ro) m P (Ziv w0 n M0 W0 Q) a w
def OK (K:Env->St->Prop) (Q:AQ):AQ
 | .normal,e,st=>K e st
 | x,e,st=>Q x e st
def To (id:Nat) (Q:AQ):AQ
 | .exit i,e,st=>if i=id then Q .normal e st else Q (.exit i) e st
 | x,e,st=>Q x e st
section
variable {P:Program} {w0:World} {n:Nat} {M0:Mem} {W0:World} {ro:Option Nat} {Q:AQ} {e:Env} {st:St}
theorem Xs {c:Code} {Q':AQ} (h:CW P w0 n M0 W0 ro c Q e st) (hq:∀ x e s,Q x e s->Q' x e s):CW P w0 n M0 W0 ro c Q' e st :=
 fun m M a w f=>wpIn_mono (h m M a w f) fun _ _ _ ⟨M',b,g,i,d⟩=>⟨M',b,g,i,hq _ _ _ d⟩
theorem At.sub {M:Mem} {a:Act} {w:World} {e':Env} (h:At w0 n M0 W0 e st a w M) (hs:Za5 e' e):At w0 n M0 W0 e' st a w M:=⟨h.rel.sub hs,h.ext,h.marks⟩
theorem Marked.later {M M':Mem} {ds:List Deferred} {w w':World} (h:Marked W0 ds w) (hx:Ext w0 M w M' w') (hl:RelSt w0 M st w):Marked W0 ds w':=by
 obtain ⟨Ds,i,f,c⟩:=h
 refine ⟨Ds,i,f,fun D a=>⟨(c D a).1,hx.objs D _ (c D a).2 rfl fun k g e=>?_⟩⟩
 have b:k<st.loops.length:=by rw [<-hl.loop.NL];exact g
 obtain ⟨_,d⟩:=hl.loop.record k _ (List.getElem?_eq_getElem b)
 rw [e] at d
 exact d.nodef (c D a).2
theorem CX {c:Code} (e':Env) (h:CW P w0 n M0 W0 ro c Q e' st) (hs:Za5 e' e):CW P w0 n M0 W0 ro c Q e st:=fun m M a w b=>h m M a w (b.sub hs)
theorem Ap (c:Nat) (L:List Nat) {id:Nat} {l:List Oper} (h:Ru P w0 n false l (fun e' st'=>Q .normal (BW L e') st') c l e st):CW P w0 n M0 W0 ro (.region id l.toArray false) Q e st:=by
 intro m M a w b
 refine wpIn_region_lit (N5 ro m false l _ _ c l e st a w M b.rel h fun e' st' k o j i f d g=>⟨j,_,_,⟨f.sub (BD L _),b.ext.trans d,?_⟩,i⟩)
 rw [g]
 exact b.marks.later d b.rel.st
theorem BB (h:Q .normal e st):CW P w0 n M0 W0 ro .skip Q e st:=fun _ M _ _ a=>wpIn_skip ⟨M,e,st,a,h⟩
theorem D4 {id:Nat} (h:Q (.exit id) e st):CW P w0 n M0 W0 ro (.exit id) Q e st:=fun _ M _ _ a=>wpIn_exit ⟨M,e,st,a,h⟩
theorem BC (h:Q .ret e st):CW P w0 n M0 W0 ro .ret Q e st:=fun _ M _ _ a=>wpIn_ret ⟨M,e,st,a,h⟩
theorem Ah {x y:Code} (h:∀ K:Env->St->Prop,(∀ e s,CW P w0 n M0 W0 ro y Q e s->K e s)->CW P w0 n M0 W0 ro x (OK K Q) e st):CW P w0 n M0 W0 ro (.seq x y) Q e st:=by
 intro m M a w g
 refine wpIn_seq (wpIn_mono (h (CW P w0 n M0 W0 ro y Q) (fun _ _ h=>h) m M a w g) ?_)
 rintro ex i j ⟨M',d,f,c,b⟩
 cases ex with
 | normal=>exact b m M' i j c
 | _=>exact ⟨M',d,f,c,b⟩
theorem AO {x y:Code} (I:Env->St->Prop) (hx:∀ K:Env->St->Prop,(∀ e s,I e s->K e s)->CW P w0 n M0 W0 ro x (OK K Q) e st) (hy:∀ e s,I e s->CW P w0 n M0 W0 ro y Q e s):CW P w0 n M0 W0 ro (.seq x y) Q e st :=
 Ah fun K a=>Xs (hx I fun _ _ h=>h) fun ex e s h=>by
  cases ex with
  | normal=>exact a e s (hy e s h)
  | _=>exact h
theorem Ao {id:Nat} {c:Code} (h:CW P w0 n M0 W0 ro c (To id Q) e st):CW P w0 n M0 W0 ro (.block id c) Q e st:=by
 intro m M a w j
 refine wpIn_block (wpIn_mono (h m M a w j) ?_)
 rintro ex k l ⟨M',d,f,g,b⟩
 cases ex with
 | exit i =>
  simp only [To] at b
  simp only [Exit.inBlock]
  split at b<;>rename_i hc
  ·rw [Ad hc];exact ⟨M',d,f,g,b⟩
  ·rw [Ae hc];exact ⟨M',d,f,g,b⟩
 | _=>exact ⟨M',d,f,g,b⟩
theorem Bl {c:Operand} {x y:Code} (b:Bool) (hc:A4 e true c) (hb:Au e c = .val (.bool b)) (ht:b=true->CW P w0 n M0 W0 ro x Q e st) (hf:b=false->CW P w0 n M0 W0 ro y Q e st):CW P w0 n M0 W0 ro (.cond c x y) Q e st:=by
 intro m M a w d
 have hv:=Bi d.rel hc
 rw [hb] at hv
 have ev:a.eval c = .bool b:=hv.val_inv.1
 exact wpIn_cond_split ev (fun h=>ht h m M a w d) (fun h=>hf h m M a w d)
theorem MG (p:Nat->Prop) (h:∃ k,p k):∃ k,p k/\∀ m,p m->k<=m:=by
 obtain ⟨k,a⟩:=h
 induction k using Nat.strongRecOn with
 | _ k ih =>
  by_cases c:∃ m,m<k/\p m
  ·obtain ⟨m,e,b⟩:=c
   exact ih m e b
  ·exact ⟨k,a,fun m d=>by
    by_cases c':m<k
    ·exact absurd ⟨m,c',d⟩ c
    ·omega⟩
theorem AB {c:Code} (I:Nat->Env->St->Prop) (k0:Nat) (h0:I k0 e st) (round:∀ k e s,I k e s->∀ K:Env->St->Prop,(∀ k' e' s',k'<k->I k' e' s'->K e' s')->CW P w0 n M0 W0 ro c (OK K Q) e s):CW P w0 n M0 W0 ro (.loop c) Q e st:=by
 intro m M a w y
 let J:Nat->Act->World->Prop:=fun k b d=>∃ M' e' s',At w0 n M0 W0 e' s' b d M'/\I k e' s'
 let μ:Act->World->Nat:=fun b d=>by
  classical exact if h:∃ k,J k b d then Classical.choose (MG (fun k=>J k b d) h) else 0
 have q:∀ b d k,J k b d->J (μ b d) b d/\μ b d<=k:=by
  intro b d k g
  have f:∃ k,J k b d:=⟨k,g⟩
  have:=Classical.choose_spec (MG (fun k=>J k b d) f)
  have e:μ b d=Classical.choose (MG (fun k=>J k b d) f):=by simp only [μ,dif_pos f]
  rw [e]
  exact ⟨this.1,this.2 k g⟩
 refine wpIn_loop (fun b d=>∃ k,J k b d) μ ⟨k0,M,e,st,y,h0⟩ ?_
 rintro a1 l ⟨k,g⟩
 obtain ⟨⟨M1,t,s1,u,v⟩,_⟩:=q a1 l k g
 refine wpIn_mono (round _ t s1 v (fun e' s'=>∃ k',k'<_/\I k' e' s') (fun k' _ _ i r=>⟨k',i,r⟩) m M1 a1 l u) ?_
 rintro ex b d ⟨M',e',s',i,p⟩
 cases ex with
 | normal =>
  obtain ⟨k',j,x⟩:=p
  have o:J k' b d:=⟨M',e',s',i,x⟩
  exact ⟨⟨k',o⟩,Nat.lt_of_le_of_lt (q b d k' o).2 j⟩
 | _=>exact ⟨M',e',s',i,p⟩
def Own.under (nr:Nat):Own->Prop
 | .row id=>id<nr
 | _=>True
inductive Under (nb nr nl:Nat):AV->Prop
 | val (v:Value):Under nb nr nl (.val v)
 | list {xs:List AV} {o:Own} (h:∀ x∈xs,Under nb nr nl x) (ho:o.under nr):Under nb nr nl (.list xs o)
 | elem {x:AV} {k:Nat} (h:Under nb nr nl x):Under nb nr nl (.elem x k)
 | box {l k:Nat} (h:l<nb):Under nb nr nl (.box l k)
 | clo {f:FuncId} {xs:List AV} (h:∀ x∈xs,Under nb nr nl x):Under nb nr nl (.clo f xs)
 | bnd {f:FuncId} {xs:List AV} (h:∀ x∈xs,Under nb nr nl x):Under nb nr nl (.bnd f xs)
 | agg {xs:List AV} (h:∀ x∈xs,Under nb nr nl x):Under nb nr nl (.agg xs)
 | tup {xs:List AV} (h:∀ x∈xs,Under nb nr nl x):Under nb nr nl (.tup xs)
 | yld {k:Nat} (h:k<nl):Under nb nr nl (.yld k)
 | mp {k:Nat} (h:k<nl):Under nb nr nl (.mp k)
 | tab {l:List (Int × FuncId)}:Under nb nr nl (.tab l)
 | vec {id ver o n:Nat} (h:id<nr):Under nb nr nl (.vec id ver o n)
 | vel {id ver o:Nat} (h:id<nr):Under nb nr nl (.vel id ver o)
theorem DX {nb nr nl:Nat} (v:Value):Under nb nr nl (.val v)<->True:=iff_true_intro (.val v)
theorem SU {nb nr nl:Nat} {xs:List AV} {o:Own}:Under nb nr nl (.list xs o)<->(∀ x∈xs,Under nb nr nl x)/\o.under nr:=⟨fun h=>by cases h with | list a b=>exact ⟨a,b⟩,fun h => .list h.1 h.2⟩
theorem TK {nb nr nl:Nat} {x:AV} {k:Nat}:Under nb nr nl (.elem x k)<->Under nb nr nl x:=⟨fun h=>by cases h;assumption,.elem⟩
theorem U1 {nb nr nl l k:Nat}:Under nb nr nl (.box l k)<->l<nb:=⟨fun h=>by cases h;assumption,.box⟩
theorem QI {nb nr nl:Nat} {f:FuncId} {xs:List AV}:Under nb nr nl (.clo f xs)<->∀ x∈xs,Under nb nr nl x:=⟨fun h=>by cases h;assumption,.clo⟩
theorem UN {nb nr nl:Nat} {f:FuncId} {xs:List AV}:Under nb nr nl (.bnd f xs)<->∀ x∈xs,Under nb nr nl x:=⟨fun h=>by cases h;assumption,.bnd⟩
theorem Db {nb nr nl:Nat} {xs:List AV}:Under nb nr nl (.agg xs)<->∀ x∈xs,Under nb nr nl x:=⟨fun h=>by cases h;assumption,.agg⟩
theorem UM {nb nr nl:Nat} {xs:List AV}:Under nb nr nl (.tup xs)<->∀ x∈xs,Under nb nr nl x:=⟨fun h=>by cases h;assumption,.tup⟩
theorem UP {nb nr nl k:Nat}:Under nb nr nl (.yld k)<->k<nl:=⟨fun h=>by cases h;assumption,.yld⟩
theorem Xz {nb nr nl k:Nat}:Under nb nr nl (.mp k)<->k<nl:=⟨fun h=>by cases h;assumption,.mp⟩
theorem U5 {nb nr nl id ver o n:Nat}:Under nb nr nl (.vec id ver o n)<->id<nr:=⟨fun h=>by cases h;assumption,.vec⟩
theorem UY {nb nr nl id ver o:Nat}:Under nb nr nl (.vel id ver o)<->id<nr:=⟨fun h=>by cases h;assumption,.vel⟩
def Mem.cut (M:Mem) (nb nr nl:Nat):Mem:={ M with N:=nb,NR:=nr,NL:=nl }
theorem R.cut {M:Mem} {w:World} {v:Value} {x:AV} {nb nr nl:Nat} (hnl:nl<=M.NL) (h:R w0 M w v x) (hu:Under nb nr nl x):R w0 (M.cut nb nr nl) w v x:=by
 induction h with
 | flat h=>exact .flat h
 | agg hl c _ ih=>exact .agg hl c fun i a b=>ih i a b (Db.1 hu _ (List.getElem_mem _))
 | tup hl _ ih=>exact .tup hl fun i a b=>ih i a b (UM.1 hu _ (List.getElem_mem _))
 | nil ho=>exact .nil ho
 | emp ho=>exact .emp ho
 | @list b off cap xs o sz us hc hm hcell _ ho ih =>
  obtain ⟨c,e⟩:=SU.1 hu
  refine .list sz us hc hm hcell (fun i d=>ih i d (c _ (List.getElem_mem _))) ?_
  cases o with
  | none=>trivial
  | full=>exact ho
  | seed=>exact ho
  | row id=>exact ⟨e,ho.2⟩
 | elem u k hcell _ ih=>exact .elem u k hcell (ih (TK.1 hu))
 | box _=>exact .box (M:=M.cut nb nr nl) (U1.1 hu)
 | clo hl _ ih=>exact .clo hl fun i a b=>ih i a b (QI.1 hu _ (List.getElem_mem _))
 | bnd hl _ ih=>exact .bnd hl fun i a b=>ih i a b (UN.1 hu _ (List.getElem_mem _))
 | yld _=>exact .yld (M:=M.cut nb nr nl) (UP.1 hu)
 | mp _=>exact .mp (M:=M.cut nb nr nl) (Xz.1 hu)
 | tab h hk hn=>exact .tab (M:=M.cut nb nr nl) h hk fun k q=>hn k (Nat.lt_of_lt_of_le q hnl)
 | vec d hv h=>exact .vec (M:=M.cut nb nr nl) (U5.1 hu) hv h
 | vel d hv h=>exact .vel (M:=M.cut nb nr nl) (UY.1 hu) hv h
theorem R.under {M:Mem} {w:World} {v:Value} {x:AV} (h:R w0 M w v x):Under M.N M.NR M.NL x:=by
 have a:∀ {cs:Array Value} {xs:List AV},cs.size=xs.length->(∀ i (_:i<cs.size) (h2:i<xs.length),Under M.N M.NR M.NL xs[i])->∀ x∈xs,Under M.N M.NR M.NL x:=by
  intro cs xs c h x e
  obtain ⟨i,d,rfl⟩:=List.mem_iff_getElem.1 e
  exact h i (c▸d) d
 induction h with
 | flat h=>exact .val _
 | agg c h1 _ ih=>exact .agg (a c ih)
 | tup c _ ih=>exact .tup (a c ih)
 | nil ho=>exact .list (fun _ h=>by cases h) (by rename_i o;cases o<;>first | trivial | exact absurd rfl (ho _))
 | emp ho=>exact .list (fun _ h=>by cases h) (by rename_i o;cases o<;>first | trivial | exact absurd rfl (ho _))
 | @list b off cap xs o sz us hc hm hcell _ ho ih =>
  refine .list (fun x e=>?_) ?_
  ·obtain ⟨i,d,rfl⟩:=List.mem_iff_getElem.1 e
   exact ih i d
  ·cases o with
   | row id=>exact ho.1
   | _=>trivial
 | elem u k hcell _ ih=>exact .elem ih
 | box h=>exact .box h
 | clo c _ ih=>exact .clo (a c ih)
 | bnd c _ ih=>exact .bnd (a c ih)
 | yld h=>exact .yld h
 | mp h=>exact .mp h
 | tab _ _ _=>exact .tab
 | vec d _ _=>exact .vec d
 | vel d _ _=>exact .vel d
def G1 (nb nr nl:Nat):Env->Prop
 | []=>True
 | (_,c,v)::e=>(c=true->Under nb nr nl v)/\G1 nb nr nl e
theorem S3 {nb nr nl:Nat}:∀ {e:Env} {s:Nat} {x:Bool × AV},G1 nb nr nl e->look e s=some x->x.1=true->Under nb nr nl x.2
 | (k,c,v)::e,s,x,h,hl,ht=>by
  simp only [look] at hl
  by_cases q:k=s
  ·rw [Ad q] at hl;cases hl;exact h.1 ht
  ·rw [Ae q] at hl;exact S3 h.2 hl ht
def St.cut (s:St) (nb nr nl:Nat):St:=⟨s.boxes.take nb,s.rows.take nr,s.loops.take nl⟩
def RowA.cells:RowA->List AV
 | .vec _ _ cs=>cs
 | _=>[]
structure Calm (nb nr nl:Nat) (s:St):Prop where
 rows:∀ r∈s.rows,∀ x∈r.cells,Under nb nr nl x
 boxes:∀ cs∈s.boxes,∀ x∈cs,Under nb nr nl x
 loops:∀ la∈s.loops,∀ k x,look la.e k=some x->x.1=true->Under nb nr nl x.2
theorem RelSt.calm {M:Mem} {w:World} (h:RelSt w0 M st w):Calm st.boxes.length st.rows.length st.loops.length st where
 rows:=by
  intro r o x hx
  obtain ⟨l,b,rfl⟩:=List.mem_iff_getElem.1 o
  have m:=h.row l _ (List.getElem?_eq_getElem b)
  cases hrow:st.rows[l] with
  | vec ver sz cs =>
   rw [hrow] at m hx
   obtain ⟨_,_,_,_,_,_,_,c,_,_,_,a,_,j⟩:=m
   obtain ⟨i,d,rfl⟩:=List.mem_iff_getElem.1 hx
   have f:i<cs.length:=d
   have:=(j i (by omega) f).under
   rwa [h.N,h.NR,h.loop.NL] at this
  | _=>rw [hrow] at hx;cases hx
 boxes:=by
  intro cs g x hx
  obtain ⟨l,b,rfl⟩:=List.mem_iff_getElem.1 g
  obtain ⟨_,_,c,_,_,a,_,j⟩:=h.box l _ (List.getElem?_eq_getElem b)
  obtain ⟨i,d,rfl⟩:=List.mem_iff_getElem.1 hx
  have:=(j i (a▸d) d).under
  rwa [h.N,h.NR,h.loop.NL] at this
 loops:=by
  intro p e k x hx n
  obtain ⟨l,b,rfl⟩:=List.mem_iff_getElem.1 e
  have:=(h.loop.record l _ (List.getElem?_eq_getElem b)).2.ent k x hx
  obtain ⟨v,this⟩:=this
  unfold entryOk at this
  rw [Ad n] at this
  have:=this.under
  rwa [h.N,h.NR,h.loop.NL] at this
theorem entryOk.cut {M:Mem} {w:World} {nb nr nl:Nat} (hnl:nl<=M.NL) {v:Value} {x:Bool × AV} (h:entryOk w0 M w v x) (hu:x.1=true->Under nb nr nl x.2):entryOk w0 (M.cut nb nr nl) w v x:=by
 unfold entryOk at *
 split
 ·rename_i c;rw [Ad c] at h;exact h.cut hnl (hu c)
 ·rename_i c;rw [Ae c] at h;exact h
theorem RelSt.cut {M:Mem} {w:World} (h:RelSt w0 M st w) {nb nr nl:Nat} (h1:nb<=st.boxes.length) (h2:nr<=st.rows.length) (h3:nl<=st.loops.length) (hc:Calm nb nr nl (st.cut nb nr nl)) :
  RelSt w0 (M.cut nb nr nl) (st.cut nb nr nl) w where
 below:=h.below
 N:=by simp [Mem.cut,St.cut];omega
 NR:=by simp [Mem.cut,St.cut];omega
 top:=h.top
 inj:=fun l F k H e=>h.inj l F (by have:=h.N;simp only [Mem.cut] at k;omega) (by have:=h.N;simp only [Mem.cut] at H;omega) e
 box:=fun l cs b=>by
  simp only [St.cut] at b
  have o:l<nb:=by
   have:=(Af.1 b).1
   simp at this;omega
  have a:cs∈st.boxes.take nb:=List.mem_of_getElem? b
  rw [List.getElem?_take_of_lt o] at b
  obtain ⟨a1,a2,c,y,a3,a4,a5,a6⟩:=h.box l cs b
  exact ⟨a1,a2,c,y,a3,a4,a5,fun i D z=>(a6 i D z).cut (by have:=h.loop.NL;omega) (hc.boxes cs a _ (List.getElem_mem _))⟩
 row:=fun id x d=>by
  simp only [St.cut] at d
  have t:id<nr:=by
   have:=(Af.1 d).1
   simp at this;omega
  have a:x∈st.rows.take nr:=List.mem_of_getElem? d
  rw [List.getElem?_take_of_lt t] at d
  have f:=h.row id x d
  have g:nb<=M.N:=by have:=h.N;omega
  cases x with
  | grow n sz =>
   obtain ⟨a1,a2,a3,a4,a5,a6,a7,p⟩:=f
   exact ⟨a1,a2,a3,a4,fun l b=>a5 l (Nat.lt_of_lt_of_le b g),a6,a7,p⟩
  | vec v sz cs =>
   obtain ⟨a1,a2,a3,a4,a5,a6,a7,c,y,p,r,D,z,G⟩:=f
   exact ⟨a1,a2,a3,a4,fun l b=>a5 l (Nat.lt_of_lt_of_le b g),a6,a7,c,y,p,r,D,z,fun i h1 h2=>(G i h1 h2).cut (by have:=h.loop.NL;omega) (hc.rows _ a _ (List.getElem_mem _))⟩
  | dead v =>
   obtain ⟨a1,a2,a3,a4⟩:=f
   exact ⟨a1,a2,fun l b=>a3 l (Nat.lt_of_lt_of_le b g),a4⟩
 rowinj:=fun i j u C e=>h.rowinj i j (by have:=h.NR;simp only [Mem.cut] at u;omega) (by have:=h.NR;simp only [Mem.cut] at C;omega) e
 loop:={
  NL:=by simp [Mem.cut,St.cut];omega
  inj:=fun i j u C e=>h.loop.inj i j (by have:=h.loop.NL;simp only [Mem.cut] at u;omega) (by have:=h.loop.NL;simp only [Mem.cut] at C;omega) e
  record:=fun k E d=>by
   simp only [St.cut] at d
   have m:k<nl:=by
    have:=(Af.1 d).1
    simp at this;omega
   have a:E∈st.loops.take nl:=List.mem_of_getElem? d
   rw [List.getElem?_take_of_lt m] at d
   obtain ⟨a1,a2⟩:=h.loop.record k E d
   exact ⟨a1,a2.map (fun _ q _=>q) fun s x v hs r=>r.cut (by have:=h.loop.NL;omega) (hc.loops E a s x hs)⟩ }
theorem Ext.cut {M1:Mem} {w1 w2:World} {M2:Mem} (h:Ext w0 M1 w1 M2 w2) {nb nr nl:Nat} (h1:M1.N<=nb) (h2:M1.NR<=nr) (h3:M1.NL<=nl) (h4:nl<=M2.NL) (h5:nb<=M2.N) (h6:nr<=M2.NR):Ext w0 M1 w1 (M2.cut nb nr nl) w2 :=
 ⟨h1,h.bx,h2,h.rows,h.cell,h.size,h3,h.lb,fun k a b=>h.lnew k a (Nat.lt_of_lt_of_le b h4),h.objs,fun b q1 q2=>by
  obtain ⟨a1,a2,a3⟩:=h.keep b q1 q2
  exact ⟨a1,⟨fun l e=>a2.1 l (Nat.lt_of_lt_of_le e h5),fun i d=>a2.2.1 i (Nat.lt_of_lt_of_le d h6),fun k c=>a2.2.2 k (Nat.lt_of_lt_of_le c h4)⟩,a3⟩⟩
theorem Rel.cut {M:Mem} {a:Act} {w:World} (h:Rel w0 n M e st a w) {nb nr nl:Nat} (h1:nb<=st.boxes.length) (h2:nr<=st.rows.length) (h3:nl<=st.loops.length) (hc:Calm nb nr nl (st.cut nb nr nl)) (he:G1 nb nr nl e) :
  Rel w0 n (M.cut nb nr nl) e (st.cut nb nr nl) a w :=
 ⟨h.st.cut h1 h2 h3 hc,h.size,fun s x hs=>(h.env s x hs).cut (by have:=h.st.loop.NL;omega) (S3 he hs)⟩
theorem R9 {c:Code} (nb nr nl:Nat) (h1:nb<=st.boxes.length) (h2:nr<=st.rows.length) (h3:nl<=st.loops.length) (k1:M0.N<=nb) (k2:M0.NR<=nr) (k3:M0.NL<=nl) (hc:Calm nb nr nl (st.cut nb nr nl)) (he:G1 nb nr nl e)
  (h:CW P w0 n M0 W0 ro c Q e (st.cut nb nr nl)):CW P w0 n M0 W0 ro c Q e st :=
 fun m M a w b=>h m _ a w ⟨b.rel.cut h1 h2 h3 hc he,b.ext.cut k1 k2 k3 (by rw [b.rel.st.loop.NL];exact h3) (by rw [b.rel.st.N];exact h1) (by rw [b.rel.st.NR];exact h2),b.marks⟩
end
section
variable {P:Program} {w0:World} {n:Nat} {M:Mem} {e:Env} {st:St} {a:Act} {w:World}
def SH (P:Program) (e:Env) (st:St):ResultVar->Prop
 | .tmp t=>A4 e true (.tmp t)
 | .cell t ty=>(Bj P e true st (.load ty (.tmp t))).1
def Zl (P:Program) (e:Env) (st:St):ResultVar->AV
 | .tmp t=>(Au e (.tmp t)).pub
 | .cell t ty=>(Bj P e true st (.load ty (.tmp t))).2.1.pub
def WF:List AV->AV
 | [x]=>x
 | l => .tup l
def ZaT (P:Program) (rs:List ResultVar) (Post:AV->St->Prop):AQ:=fun x e st =>
 match x with
 | .normal | .ret=>(∀ r∈rs,SH P e st r)/\Post (WF (rs.map (Zl P e st))) st
 | _=>False
theorem TQ (h:Rel w0 n M e st a w) (t:TypeId) (x:Operand) (hob:(Bj P e true st (.load t x)).1) :
  ∃ v,(do loadVar t (<- asAddr (a.eval x)):Sem Value).run P w = .ok v w/\R w0 M w v (Bj P e true st (.load t x)).2.1:=by
 unfold Bj at hob ⊢
 cases ht:Fv P t with
 | none=>simp [ht] at hob
 | some p =>
  obtain ⟨sz,y⟩:=p
  simp only [ht] at hob ⊢
  obtain ⟨D,z,l,q⟩:=hob
  obtain ⟨b,o,ev,i,m⟩:=XE h.st (Bi h D) z
  rw [ev]
  have d:∀ j,j<sz->∃ u,w.cell? ⟨b,o+Dh (Au e x)+j,none⟩=some u/\∀ c,R w0 M w u ((Bt st (Au e x))[Dh (Au e x)+j]'c):=by
   intro j c
   obtain ⟨u,r,s⟩:=m (Dh (Au e x)+j) (by omega)
   exact ⟨u,by rw [<-r,Nat.add_assoc],fun _=>s⟩
  let f:Nat->Value:=fun j=>((w.cell? ⟨b,o+Dh (Au e x)+j,none⟩).getD undef)
  have C:∀ j,j<sz->w.cell? ⟨b,o+Dh (Au e x)+j,none⟩=some (f j):=fun j c=>by
   obtain ⟨u,g,_⟩:=d j c
   simp [f,g]
  refine ⟨if y then .agg ((List.range sz).map f).toArray else f 0,?_,(PU i l q (fun j c=>?_))⟩
  ·simp only [asAddr,Sem.run_bind,Sem.run_pure,Result.andThen_ok]
   exact PZ ht C q
  ·by_cases hjs:j<sz
   ·obtain ⟨u,g,k⟩:=d j hjs
    have:f j=u:=by simp [f,g]
    rw [this]
    exact k c
   ·obtain ⟨u,g,k⟩:=m (Dh (Au e x)+j) c
    have:f j=u:=by simp [f,Nat.add_assoc,g]
    rw [this]
    exact k
theorem NN {α:Type} (f:α->Sem Value) (g:α->Value):∀ (l:List α),(∀ x∈l,(f x).run P w = .ok (g x) w)->(l.mapM f).run P w = .ok (l.map g) w
 | [],_=>by simp
 | x::l,h=>by simp [h x (by simp),NN f g l (fun y a=>h y (by simp [a]))]
theorem SE {V:ResultVar->AV} (rs:List ResultVar) (g:ResultVar->Value) (hg:∀ r∈rs,R w0 M w (g r) (V r)) :
  R w0 M w (if h:(rs.map g).toArray.size=1 then (rs.map g).toArray[0] else .tuple (rs.map g).toArray) (WF (rs.map V)):=by
 match rs,hg with
 | [],_=>exact .tup rfl (fun i b _=>absurd b (by simp))
 | [r],hg=>exact (hg r (by simp))
 | r::r'::l,hg =>
  have:¬ ((List.map g (r::r'::l)).toArray.size=1):=by simp
  rw [dif_neg this]
  refine .tup (by simp) (fun i b a=>?_)
  have e:i<(r::r'::l).length:=by simpa using a
  have c:(List.map g (r::r'::l)).toArray[i]=g (r::r'::l)[i]:=by rw [List.getElem_toArray,List.getElem_map]
  have d:(List.map V (r::r'::l))[i]'a=V (r::r'::l)[i]:=by rw [List.getElem_map]
  have:=(hg (r::r'::l)[i] (List.getElem_mem _))
  rw [<-c,<-d] at this
  exact this
theorem Z2 (h:Rel w0 n M e st a w) {fn:Func} {rs:List ResultVar} (hfn:fn.results=rs.toArray) (hrs:∀ r∈rs,SH P e st r) :
  ∃ v,(results fn a.tmps).run P w = .ok v w/\R w0 M w v (WF (rs.map (Zl P e st))):=by
 let f:ResultVar->Sem Value:=fun
  | .tmp t=>pure (a.tmps.getD t undef)
  | .cell b t=>do loadVar t (<- asAddr (a.tmps.getD b undef))
 have d:∀ r∈rs,∃ v,(f r).run P w = .ok v w/\R w0 M w v (Zl P e st r):=by
  intro r c
  have:=hrs r c
  cases r with
  | tmp t=>exact ⟨_,rfl,(Bi h (x := .tmp t) this).pub⟩
  | cell b t =>
   obtain ⟨v,m,k⟩:=TQ h t (.tmp b) this
   exact ⟨v,m,k.pub⟩
 classical
 let g:ResultVar->Value:=fun r=>if c:r∈rs then Classical.choose (d r c) else undef
 have j:∀ r∈rs,(f r).run P w = .ok (g r) w/\R w0 M w (g r) (Zl P e st r):=by
  intro r c
  have:=Classical.choose_spec (d r c)
  have e:g r=Classical.choose (d r c):=by simp only [g,dif_pos c]
  rw [e];exact this
 have l:(fn.results.mapM f).run P w = .ok ((rs.map g).toArray) w:=by
  rw [hfn,Array.mapM_eq_mapM_toList]
  simp only [Sem.run_map,NN f g rs (fun r c=>(j r c).1),Result.andThen_ok]
 have i:(results fn a.tmps).run P w = .ok (if h:(rs.map g).toArray.size=1 then (rs.map g).toArray[0] else .tuple (rs.map g).toArray) w:=by
  unfold results
  simp only [Sem.run_bind]
  refine Eq.trans (congrArg (fun x=>Result.andThen x _) l) ?_
  simp only [Result.andThen_ok,Sem.run_pure]
 refine ⟨_,i,?_⟩
 exact SE rs g fun r c=>(j r c).2
def As:Nat->List AV->Env
 | _,[]=>[]
 | k,x::l=>(k,true,x)::As (k+1) l
theorem Pj:∀ (l:List AV) (k s:Nat) (x:Bool × AV),look (As k l) s=some x->∃ i,s=k+i/\∃ y,l[i]? = some y/\x=(true,y)
 | [],_,_,_,h=>by cases h
 | y::l,k,s,x,h=>by
  simp only [As,look] at h
  by_cases c:k=s
  ·rw [Ad c] at h;cases h;exact ⟨0,c.symm,y,rfl,rfl⟩
  ·rw [Ae c] at h
   obtain ⟨i,d,z,a,b⟩:=Pj l (k+1) s x h
   exact ⟨i+1,by omega,z,a,b⟩
theorem LI {M0:Mem} {W0:World} {fn:Func} {RR:Ending->World->Prop} {m:Nat} {tmps:Array Value}:∀ (Ds:List Nat) (M:Mem) (w:World),Ds.Nodup->(∀ D∈Ds,W0.heap.size<=D/\w.heap[D]? = some (.deferred (some []))) ->
  W0.heap.size>=w0.heap.size->RelSt w0 M st w->Ext w0 M0 W0 M w ->
  (∀ w',RelSt w0 M st w'->Ext w0 M0 W0 M w'->(∀ v x,R w0 M w v x->R w0 M w' v x)->∃ v,(results fn tmps).run P w' = .ok v w'/\RR (.returned v) w') ->
  LeavesInM (FW none) m P fn tmps RR (Ds.map fun D=>{ target := .collected D,args := #[] }) .returning w
 | [],M,w,_,_,_,hr,hx,hk=>hk w hr hx fun _ _ h=>h
 | D::Ds,M,w,hn,hD,hw,hr,hx,hk=>by
  obtain ⟨G,d2⟩:=hD D (by simp)
  have p:∀ k,k<M.NL->M.lb k≠D:=by
   intro k n e
   have g:k<st.loops.length:=by rw [<-hr.loop.NL];exact n
   obtain ⟨_,i⟩:=hr.loop.record k _ (List.getElem?_eq_getElem g)
   rw [e] at i
   exact i.nodef d2
  have hs:TE M w (w.putObj D (.deferred none)):=⟨fun b f v=>KA d2 rfl,fun b H F hb _=>by rw [World.putObj_heap_other (fun e=>by subst e;rw [d2] at hb;cases hb)];exact hb⟩
  have q:Ext w0 M0 W0 M (w.putObj D (.deferred none)) :=
   ⟨hx.N,hx.bx,hx.NR,hx.rows,fun b f v j l=>let ⟨a,b'⟩:=hx.cell b f v j l;⟨hs.1 _ _ _ a,b'⟩,by have:=hx.size;simpa using this,hx.NL,hx.lb,hx.lnew,fun b o j l y=>by
    have hb:b<W0.heap.size:=(Array.getElem?_eq_some_iff.1 j).1
    rw [World.putObj_heap_other (by omega)]
    exact hx.objs b o j l y,fun b q1 q2=>by
    obtain ⟨a1,a2⟩:=hx.keep b q1 q2
    rw [World.putObj_heap_other (by omega)]
    exact ⟨a1,a2⟩⟩
  refine ⟨by simp,.inl ⟨D,_,rfl,run_takeDeferred d2,?_⟩⟩
  have d:=List.nodup_cons.1 hn
  refine LI Ds M _ d.2 (fun E r=>?_) hw (hr.putObj _ d2 (by omega) p) q (fun w' C u t=>hk w' C u fun v x h=>t v x (h.same hs))
  obtain ⟨s,z⟩:=hD E (List.mem_cons_of_mem _ r)
  have c:E≠D:=fun e=>d.1 (by rw [<-e];exact r)
  exact ⟨s,by rw [World.putObj_heap_other c];exact z⟩
theorem BN {f:FuncId} {fn:Func} {c:Code} {args:List AV} {rs:List ResultVar} {Post:AV->St->Prop} (hf:P.funcs[f]? = some fn) (hb:fn.body=some c) (hrs:fn.results=rs.toArray) (hn:fn.ntmps=n)
  (hen:HW P f) (ha:args.length<=n)
  (h:∀ (M0:Mem) (W0:World),M0.N=st.boxes.length->M0.NR=st.rows.length->M0.NL=st.loops.length->Calm st.boxes.length st.rows.length st.loops.length st->(∀ x∈args,Under st.boxes.length st.rows.length st.loops.length x) ->
   CW P w0 n M0 W0 none c (ZaT P rs Post) (As 0 args) st):ACalls P w0 f args st Post:=by
 refine ⟨hen,fun M w a b d=>?_⟩
 have J:a.size=args.length:=d.1
 have H:∀ x∈args,Under st.boxes.length st.rows.length st.loops.length x:=by
  intro x K
  obtain ⟨i,z,rfl⟩:=List.mem_iff_getElem.1 K
  have:=(d.get (i:=i) (Array.getElem?_eq_getElem (by omega)) (List.getElem?_eq_getElem z)).under
  rwa [b.N,b.NR,b.loop.NL] at this
 have l:Rel w0 n M (As 0 args) st { tmps:=a++Array.replicate (fn.ntmps-a.size) undef,defers:=[] } w:=by
  refine ⟨b,by simp;omega,fun s x hs=>?_⟩
  obtain ⟨i,j,y,q,rfl⟩:=Pj _ _ _ _ hs
  have z:i<args.length:=(Af.1 q).1
  have hs':s=i:=by omega
  subst hs'
  simp only [entryOk,if_true]
  have E:(a++Array.replicate (fn.ntmps-a.size) undef).getD s undef=a[s]'(by omega):=by
   simp [Array.getD_eq_getD_getElem?,Array.getElem?_append_left (show s<a.size by omega),Array.getElem?_eq_getElem (show s<a.size by omega)]
  rw [E]
  exact d.get (Array.getElem?_eq_getElem (by omega)) q
 refine Rk (n:=0) (callsIn_of_wp_marks hf hb trivial (wpIn_mono (h M w b.N b.NR b.loop.NL b.calm H 0 M _ w ⟨l,.refl _ _ _,[],by simp⟩) ?_))
 rintro ex o u ⟨M',p,k,j,m⟩
 have e:∀ (t:∀ r∈rs,SH P p k r) (D:Post (WF (rs.map (Zl P p k))) k),
   LeavesInM (FW none) 0 P fn o.tmps (Comes' w0 M w Post) o.defers .returning u:=by
  intro t D
  obtain ⟨Ds,m1,m2,F⟩:=j.marks
  rw [m2]
  refine LI Ds M' u m1 F b.base_le j.rel.st j.ext fun G C O k3=>?_
  have g:Rel w0 n M' p k o G:=⟨C,j.rel.size,fun s x hs=>by
   have:=j.rel.env s x hs
   unfold entryOk at *
   split
   ·rename_i c;rw [Ad c] at this;exact k3 _ _ this
   ·rename_i c;rw [Ae c] at this;exact this⟩
  obtain ⟨v,q1,q2⟩:=Z2 g hrs t
  exact ⟨v,q1,v,M',_,k,rfl,D,O,C,q2⟩
 cases ex with
 | normal=>exact e m.1 m.2
 | ret=>exact e m.1 m.2
 | _=>exact m.elim
def ZkG (st:St) (Post:AV->St->Prop) (r:AV) (s:St):Prop :=
 st.boxes.length<=s.boxes.length/\st.rows.length<=s.rows.length/\st.loops.length<=s.loops.length/\Calm st.boxes.length st.rows.length st.loops.length (s.cut st.boxes.length st.rows.length st.loops.length) /\
  Under st.boxes.length st.rows.length st.loops.length r/\Post r (s.cut st.boxes.length st.rows.length st.loops.length)
theorem ACalls.fin {f:FuncId} {args:List AV} {Post:AV->St->Prop} (h:ACalls P w0 f args st (ZkG st Post)):ACalls P w0 f args st Post:=by
 refine ⟨h.1,fun M w c a b=>(h.2 M w c a b).mono ?_⟩
 rintro en n ⟨v,M',r,i,m,⟨g,d,e,k,l,j⟩,h3,h4,h5⟩
 exact ⟨v,M'.cut st.boxes.length st.rows.length st.loops.length,r,_,m,j,h3.cut (by have:=a.N;omega) (by have:=a.NR;omega) (by have:=a.loop.NL;omega) (by rw [h4.loop.NL];exact e) (by rw [h4.N];exact g) (by rw [h4.NR];exact d),h4.cut g d e k,h5.cut (by have:=h4.loop.NL;omega) l⟩
theorem enters_of {f:FuncId} {fn:Func} {c:Code} (hf:P.funcs[f]? = some fn) (hb:fn.body=some c) (hn:fn.name ≠ "runtime.NumGoroutine"):HW P f:=by
 intro args w
 simp [callFunc,hf,hb,hn]
end
section
variable {P:Program} {w0:World} {n:Nat}
def WR (P:Program) (w0:World) (e1:Env) (c:Bool) (st:St) (o:Oper) (v:AV):Prop :=
 match o.op with
 | .call ⟨.value f,args,_⟩=>c=true->A4 e1 true f/\(∀ x∈args.toList,A4 e1 true x)/\LX P w0 (Au e1 f) (args.toList.map fun x=>argP e1 (Au e1 x)) st fun r s=>r=v/\s=st
 | op=>(c=true->(Bj P e1 c st op).1)/\(Bj P e1 c st op).2.1=v/\(Bj P e1 c st op).2.2=st
theorem Rb {e1:Env} {c:Bool} {st:St} {o:Oper} {v:AV} (hc:¬ Kt o.op=true) :
  WR P w0 e1 c st o v=((c=true->(Bj P e1 c st o.op).1)/\(Bj P e1 c st o.op).2.1=v/\(Bj P e1 c st o.op).2.2=st):=by
 obtain ⟨e,op,d,g,b,a⟩:=o
 cases op with
 | call cc =>
  obtain ⟨callee,args,ts⟩:=cc
  cases callee with
  | value f=>exact absurd rfl hc
  | _=>rfl
 | _=>rfl
theorem Re {M:Mem} {e1:Env} {st:St} {a:Act} {w:World} (h:Rel w0 n M e1 st a w) (ro:Option Nat) (m:Nat) {all:List Oper} {o:Oper} {v:AV} (hg:Jf all e1 o.guard) (hv:WR P w0 e1 (BZ all e1 o.guard) st o v)
  (Q:Exit->Act->World->Prop) (K:Act->World->Prop) (hK:∀ u w' M',Ext w0 M w M' w'->RelSt w0 M' st w'->entryOk w0 M' w' u (BZ all e1 o.guard,v)->K (a.put o.dst u) w') :
  if Region.wanted o (yielded all.toArray a.tmps) then o.wpIn (FW ro) m P a w K Q else (∀ f,o.about P w a.eval=some f->(FW ro).fn f)/\K (a.put o.dst undef) w:=by
 rw [J5 h hg]
 cases hcc:BZ all e1 o.guard with
 | true =>
  rw [hcc] at hv hK
  rw [Ad rfl]
  by_cases hc:Kt o.op=true
  ·obtain ⟨dst,op,l,p,i,guard⟩:=o
   cases op<;>try cases hc
   rename_i cc
   obtain ⟨callee,args,ts⟩:=cc
   cases callee<;>try cases hc
   rename_i f
   obtain ⟨e,d,j⟩:=hv rfl
   refine JP h ro m e d j Q _ (fun r s q u w' M' k b c=>?_)
   obtain ⟨rfl,rfl⟩:=q
   exact hK u w' M' k b c
  ·rw [Rb hc] at hv
   obtain ⟨e,d,j⟩:=hv
   refine QR h ro m o (e rfl) Q _ (fun u w' M' k b c=>?_)
   rw [j] at b
   rw [d] at c
   exact hK u w' M' k b c
 | false =>
  rw [hcc] at hK
  rw [Ae (by simp)]
  exact ⟨fun g _=>OI ro g,hK undef w M (.refl _ _ _) h.st rfl⟩
structure Trail (P:Program) (w0:World) (n:Nat) (all os:List Oper) (e:Env) (st:St) (E:Nat->Env) (C:Nat->Bool) (V:Nat->AV):Prop where
 zero:E 0=e
 step:∀ j o,os[j]? = some o->E (j+1)=Ip (E j) o.dst (C j) (V j)/\Jf all (B2 true all o (E j)) o.guard/\ID n o.dst/\BZ all (B2 true all o (E j)) o.guard=C j /\
  WR P w0 (B2 true all o (E j)) (C j) st o (V j)
theorem T9 {all os:List Oper} {e:Env} {st:St} {o:Oper} {E:Nat->Env} {C:Nat->Bool} {V:Nat->AV} {v:AV} (hg:Jf all (B2 true all o e) o.guard) (hd:ID n o.dst)
  (ho:WR P w0 (B2 true all o e) (BZ all (B2 true all o e) o.guard) st o v) (T:Trail P w0 n all os (Ip e o.dst (BZ all (B2 true all o e) o.guard) v) st E C V) :
  Trail P w0 n all (o::os) e st (fun | 0=>e | j+1=>E j) (fun | 0=>BZ all (B2 true all o e) o.guard | j+1=>C j) (fun | 0=>v | j+1=>V j):=by
 refine ⟨rfl,fun j q hq=>?_⟩
 cases j with
 | zero =>
  simp only [List.getElem?_cons_zero,Option.some.injEq] at hq
  subst hq
  exact ⟨T.zero,hg,hd,rfl,ho⟩
 | succ j =>
  simp only [List.getElem?_cons_succ] at hq
  exact T.step j q hq
theorem PG {all:List Oper} {st:St} {KK:Env->St->Prop}:∀ (c:Nat) (os:List Oper) (e:Env),Ru P w0 n true all KK c os e st->∃ E C V,Trail P w0 n all os e st E C V/\KK (E os.length) st
 | 0,_,_,h=>h.elim
 | c+1,os,e,h=>by
  have p:∀ (os:List Oper) (e:Env),YW P w0 n true all (Ru P w0 n true all KK c) KK os e st->∃ E C V,Trail P w0 n all os e st E C V/\KK (E os.length) st:=by
   intro os
   induction os with
   | nil=>exact fun e h=>⟨fun _=>e,fun _=>false,fun _ => .junk,⟨rfl,fun j o u=>by simp at u⟩,h⟩
   | cons o os ih =>
    intro e h
    by_cases hc:Kt o.op=true
    ·obtain ⟨q,op,l,s,g,d⟩:=o
     cases op<;>try cases hc
     rename_i cc
     obtain ⟨callee,args,ts⟩:=cc
     cases callee<;>try cases hc
     rename_i f
     simp only [YW] at h
     obtain ⟨r,hd,m,w⟩:=h
     rcases w with ⟨v,k1,k2⟩ | ⟨hf,_⟩
     ·obtain ⟨E,C,V,T,i⟩:=PG c os _ k2
      exact ⟨_,_,_,T9 r hd (fun k=>⟨(m k).1,(m k).2,k1 k⟩) T,i⟩
     ·cases hf
    by_cases hgl:ZgP o.op=true
    ·obtain ⟨q,op,l,s,g,d⟩:=o
     cases op<;>try cases hgl
     rename_i t y
     cases y<;>try cases hgl
     simp only [YW] at h
     exact absurd h.2.2.1.1 (by simp)
    ·rw [UU hc hgl] at h
     obtain ⟨r,hd,m,x,a⟩:=h
     have b:=x (.inr rfl)
     simp only at b
     rw [b] at a
     obtain ⟨E,C,V,T,i⟩:=ih _ a
     exact ⟨_,_,_,T9 r hd (by rw [Rb hc];exact ⟨m,rfl,b⟩) T,i⟩
  exact p os e h
theorem LJ {all os:List Oper} {e:Env} {st:St} {E:Nat->Env} {C:Nat->Bool} {V:Nat->AV} (T:Trail P w0 n all os e st E C V)
  (uniq:∀ (i j:Nat) (o p:Oper) (s:Nat),os[i]? = some o->os[j]? = some p->o.dst=some s->p.dst=some s->i=j) (s:Nat):∀ j,j<=os.length ->
  ((∀ i o,i<j->os[i]? = some o->o.dst≠some s)->look (E j) s=look e s)/\(∀ i o,i<j->os[i]? = some o->o.dst=some s->look (E j) s=some (C i,V i))
 | 0,_=>⟨fun _=>by rw [T.zero],fun i o h=>absurd h (by omega)⟩
 | j+1,hj=>by
  obtain ⟨f,g⟩:=LJ T uniq s j (by omega)
  have ho:os[j]? = some os[j]:=List.getElem?_eq_getElem (by omega)
  have a:=(T.step j _ ho).1
  have b:os[j].dst≠some s->look (E (j+1)) s=look (E j) s:=by
   intro b
   rw [a]
   cases hd:os[j].dst with
   | none=>rfl
   | some d =>
    rw [hd] at b
    simp only [Ip,look]
    rw [Ae (fun h=>b (by rw [h]))]
  refine ⟨fun h=>?_,fun i o k hio hd=>?_⟩
  ·rw [b (h j _ (by omega) ho)]
   exact f fun i o k=>h i o (by omega)
  ·by_cases c:i=j
   ·subst c
    rw [ho] at hio
    cases hio
    rw [a,hd]
    simp only [Ip,look,if_true]
   ·rw [b (fun h=>c (uniq i j o _ s hio ho hd h))]
    exact g i o (by omega) hio hd
theorem NH {F:Fence} {m:Nat} {md:Region.Mode} {ops:Array Oper} {Q':Exit->Act->World->Prop}:∀ (l:List Oper) (k:Nat) (listed:Array Bool) (a:Act) (w:World),(∀ j,l[j]? = ops[k+j]?) ->
  Region.seqB md ops l.length k listed=true->wpListIn F m P ops Q' l a w->wpAnyIn F m P md ops Q' l.length listed a w
 | [],_,_,_,_,_,hB,h=>⟨by simpa [Region.seqB] using hB,h⟩
 | o::l,k,listed,a,w,hl,hB,h=>by
  have f:ops[k]? = some o:=by simpa using (hl 0).symm
  simp only [List.length_cons,Region.seqB,Bool.and_eq_true,decide_eq_true_eq] at hB
  refine ⟨fun h1=>(by rw [hB.1] at h1;cases h1),fun i hi=>?_⟩
  rw [hB.1] at hi
  have hik:i=k:=by simpa using hi
  subst hik
  have c:wpOpIn F m P ops Q' i (wpListIn F m P ops Q' l) a w:=by unfold wpOpIn;simp only [f];exact h
  exact wpOpIn_mono (fun d e b=>NH l (i+1) _ d e (fun j=>by have:=hl (j+1);simpa [Nat.add_assoc,Nat.add_comm 1 j] using this) hB.2 b) c
def VQ (o:Oper) (j:Nat):Bool:=o.after.any fun e=>Region.binds .any e&&e.on == j
theorem Q2 {o:Oper} {j:Nat} (h:VQ o j=true):∃ e∈o.after,Region.binds .any e=true/\e.on=j:=by
 obtain ⟨e,b,a⟩:=Array.any_eq_true'.1 h
 simp only [Bool.and_eq_true,beq_iff_eq] at a
 exact ⟨e,b,a.1,a.2⟩
def Zfy (l:List Oper) (i j:Nat) (o p:Oper):Bool :=
 match p.dst with
 | some s=>(decide (i=j)||o.dst != some s)&&(!(looks l o).contains s||(decide (j<i)&&VQ o j))
 | none=>true
def Zf4 (l:List Oper) (h:Nat):Bool :=
 (List.range h).all fun i=>match l[i]? with
  | some o=>(o.after.toList.all fun e => !Region.binds .any e||decide (e.on<i))&&(List.range h).all fun j=>match l[j]? with
   | some p=>Zfy l i j o p
   | none=>true
  | none=>true
def ZiR (l:List Oper) (h:Nat):Bool :=
 (List.range (l.length-h)).all fun k=>(List.range (h+k)).all fun j=>(List.range (h+k+1)).any fun q=>decide (j<q)&&(match l[q]? with | some o=>VQ o j | none=>false)
def UV (l:List Oper) (h:Nat):Bool :=
 decide (h<=l.length)&&Zf4 l h&&ZiR l h&&Region.seqB .any l.toArray (l.length-h) h (Array.replicate h true++Array.replicate (l.length-h) false)
theorem OX {l:List Oper} {h:Nat} (hB:Zf4 l h=true) {i:Nat} {o:Oper} (hi:i<h) (ho:l[i]? = some o) :
  (∀ e∈o.after,Region.binds .any e=true->e.on<i)/\∀ j p s,j<h->l[j]? = some p->p.dst=some s->(o.dst=some s->i=j)/\(s∈looks l o->j<i/\VQ o j=true):=by
 have b:=List.all_eq_true.1 hB i (List.mem_range.2 hi)
 simp only [ho,Bool.and_eq_true] at b
 refine ⟨fun e m d=>?_,fun j p s f k hs=>?_⟩
 ·have:=List.all_eq_true.1 b.1 e (by simpa using m)
  simpa [d] using this
 ·have a:=List.all_eq_true.1 b.2 j (List.mem_range.2 f)
  simp only [k,Zfy,hs,Bool.and_eq_true,Bool.or_eq_true,decide_eq_true_eq,bne_iff_ne,Bool.not_eq_true'] at a
  refine ⟨fun hd=>a.1.resolve_right (fun c=>c hd),fun g=>?_⟩
  rcases a.2 with h3 | h3
  ·have:(looks l o).contains s=true:=by simpa using g
   rw [h3] at this;cases this
  ·exact h3
theorem YC {listed:Array Bool} {i:Nat} (h:listed.getD i true=false):∃ hi:i<listed.size,listed[i]=false:=by
 by_cases c:i<listed.size
 ·exact ⟨c,by simpa [c] using h⟩
 ·simp [Array.getD_eq_getD_getElem?,Array.getElem?_eq_none (Nat.le_of_not_lt c)] at h
theorem Zk {listed:Array Bool} {i:Nat} (h:listed.getD i false=true):∃ hi:i<listed.size,listed[i]=true:=by
 by_cases c:i<listed.size
 ·exact ⟨c,by simpa [c] using h⟩
 ·simp [Array.getD_eq_getD_getElem?,Array.getElem?_eq_none (Nat.le_of_not_lt c)] at h
theorem D2 {listed:Array Bool} {i j:Nat} (hi:i<listed.size) (b:Bool):(listed.setIfInBounds i true).getD j b=if i=j then true else listed.getD j b:=by
 by_cases c:i=j
 ·subst c;simp [hi]
 ·rw [Ae c]
  simp [Array.getElem?_setIfInBounds_ne c]
structure DInv (w0:World) (n:Nat) (l:List Oper) (h:Nat) (e:Env) (st:St) (C:Nat->Bool) (V:Nat->AV) (M1:Mem) (w1:World) (ds:List Deferred) (listed:Array Bool) (a:Act) (w:World) (M:Mem):Prop where
 size:listed.size=l.length
 tail:∀ t,h<=t->t<l.length->listed.getD t true=false
 closed:∀ j oj,l[j]? = some oj->listed.getD j false=true->∀ e∈oj.after,Region.binds .any e=true->listed.getD e.on false=true
 rel:RelSt w0 M st w
 tmps:a.tmps.size=n
 defers:a.defers=ds
 ext:Ext w0 M1 w1 M w
 old:∀ s x,(∀ i o,i<h->l[i]? = some o->o.dst≠some s)->look e s=some x->entryOk w0 M w (a.tmps.getD s undef) x
 new:∀ i o s,i<h->l[i]? = some o->o.dst=some s->listed.getD i false=true->entryOk w0 M w (a.tmps.getD s undef) (C i,V i)
theorem Q3 {listed:Array Bool} {h:Nat} (hn:¬ ∀ j,j<h->listed.getD j false=true):∃ j,j<h/\listed.getD j false=false/\∀ i,i<j->listed.getD i false=true:=by
 induction h with
 | zero=>exact absurd (fun j a=>absurd a (by omega)) hn
 | succ h ih =>
  by_cases c:∀ j,j<h->listed.getD j false=true
  ·refine ⟨h,by omega,?_,c⟩
   cases hq:listed.getD h false with
   | false=>rfl
   | true =>
    exact absurd (fun j a=>by
     by_cases e:j=h
     ·exact e▸hq
     ·exact c j (by omega)) hn
  ·obtain ⟨j,f,b,d⟩:=ih c
   exact ⟨j,by omega,b,d⟩
theorem ZaX {l:List Oper} {h:Nat} {e:Env} {st:St} {E:Nat->Env} {C:Nat->Bool} {V:Nat->AV} {M1:Mem} {w1:World} {ds:List Deferred} {ro:Option Nat} {m:Nat} {Q:Exit->Act->World->Prop}
  (T:Trail P w0 n l (l.take h) e st E C V) (hB:UV l h=true)
  (hend:∀ a w M,Rel w0 n M (E h) st a w->Ext w0 M1 w1 M w->a.defers=ds->wpListIn (FW ro) m P l.toArray Q (l.drop h) a w) :
  ∀ fuel listed a w M,fuel=listed.toList.count false->DInv w0 n l h e st C V M1 w1 ds listed a w M->wpAnyIn (FW ro) m P .any l.toArray Q fuel listed a w:=by
 simp only [UV,Bool.and_eq_true,decide_eq_true_eq] at hB
 obtain ⟨⟨⟨a6,hH⟩,hT⟩,hS⟩:=hB
 have ay:(l.take h).length=h:=by simp;omega
 have f:∀ j,j<h->(l.take h)[j]? = l[j]? := fun j hj=>List.getElem?_take_of_lt hj
 have af:∀ {j:Nat} {o:Oper},(l.take h)[j]? = some o->j<h:=fun {j o} hj=>by
  have:=(Af.1 hj).1;omega
 have ab:∀ (i j:Nat) (o p:Oper) (s:Nat),(l.take h)[i]? = some o->(l.take h)[j]? = some p->o.dst=some s->p.dst=some s->i=j:=by
  intro i j o p s hi hj hs ah
  have a1:=af hi
  have a2:=af hj
  rw [f _ a1] at hi
  rw [f _ a2] at hj
  exact ((OX hH a1 hi).2 j p s a2 hj ah).1 hs
 have g:∀ s j,j<=h->_:=fun s j hj=>LJ T ab s j (by omega)
 have Y:∀ (listed:Array Bool) (a:Act) (w:World) (M:Mem) (fuel:Nat),fuel=listed.toList.count false->DInv w0 n l h e st C V M1 w1 ds listed a w M->(∀ j,j<h->listed.getD j false=true) ->
   wpAnyIn (FW ro) m P .any l.toArray Q fuel listed a w:=by
  intro listed a w M fuel hf b u
  have hl:listed=Array.replicate h true++Array.replicate (l.length-h) false:=by
   apply Array.ext
   ·simp [b.size];omega
   ·intro i z Z
    by_cases c:i<h
    ·have:=u i c
     simp only [Array.getD_eq_getD_getElem?,Array.getElem?_eq_getElem z,Option.getD_some] at this
     rw [this,Array.getElem_append_left (by simpa using c)]
     simp
    ·have:=b.tail i (by omega) (by rw [<-b.size];exact z)
     simp only [Array.getD_eq_getD_getElem?,Array.getElem?_eq_getElem z,Option.getD_some] at this
     rw [this,Array.getElem_append_right (by simpa using c)]
     simp
  have av:fuel=(l.drop h).length:=by
   rw [hf,hl]
   simp [List.count_append,List.count_replicate]
  have G:Rel w0 n M (E h) st a w:=by
   refine ⟨b.rel,b.tmps,fun s x hs=>?_⟩
   by_cases c:∃ j p,j<h/\l[j]? = some p/\p.dst=some s
   ·obtain ⟨j,p,hj,hp,hd⟩:=c
    have:=(g s h (Nat.le_refl _)).2 j p hj (by rw [f _ hj];exact hp) hd
    rw [this] at hs
    cases hs
    exact b.new j p s hj hp hd (u j hj)
   ·have:=(g s h (Nat.le_refl _)).1 (fun j p hj hp hd=>c ⟨j,p,hj,by rw [<-f _ hj];exact hp,hd⟩)
    rw [this] at hs
    exact b.old s x (fun j p hj hp hd=>c ⟨j,p,hj,hp,hd⟩) hs
  rw [av]
  refine NH (l.drop h) h listed a w (fun j=>by simp [List.getElem?_drop]) ?_ (hend a w M G b.ext b.defers)
  rw [hl,List.length_drop]
  exact hS
 have O:∀ (listed:Array Bool) (t:Nat) (o:Oper),(∀ j oj,l[j]? = some oj->listed.getD j false=true->∀ e∈oj.after,Region.binds .any e=true->listed.getD e.on false=true) ->
   l[t]? = some o->h<=t->(∀ e∈o.after,Region.binds .any e=true->listed.getD e.on false=true)->∀ d j,j+d+1=t->listed.getD j false=true:=by
  intro listed t o ag ho ht r d
  induction d using Nat.strongRecOn with
  | _ d ih =>
   intro j hj
   have a0:t<l.length:=(Af.1 ho).1
   have z:=List.all_eq_true.1 (List.all_eq_true.1 hT (t-h) (List.mem_range.2 (by omega))) j (List.mem_range.2 (by omega))
   obtain ⟨q,hq,Z⟩:=List.any_eq_true.1 z
   have a3:q<=t:=by have:=List.mem_range.1 hq;omega
   simp only [Bool.and_eq_true,decide_eq_true_eq] at Z
   obtain ⟨a4,h3⟩:=Z
   cases hoq:l[q]? with
   | none=>simp [hoq] at h3
   | some oq =>
    simp only [hoq] at h3
    obtain ⟨N,H,U,J⟩:=Q2 h3
    by_cases c:q=t
    ·subst c
     rw [ho] at hoq;cases hoq
     exact J▸r N H U
    ·have:=ih (t-q-1) (by omega) q (by omega)
     exact J▸ag q oq hoq this N H U
 intro fuel
 induction fuel with
 | zero =>
  intro listed a w M hf b
  refine Y listed a w M 0 hf b (fun j hj=>?_)
  cases hq:listed.getD j false with
  | true=>rfl
  | false =>
   exfalso
   have au:j<listed.size:=by rw [b.size];omega
   have:false∈listed.toList:=by
    have e1:listed[j]=false:=by simpa [au] using hq
    rw [<-e1];simp
   have:=List.count_pos_iff.2 this
   omega
 | succ fuel ih =>
  intro listed a w M hf b
  by_cases u:∀ j,j<h->listed.getD j false=true
  ·exact Y listed a w M _ hf b u
  ·obtain ⟨k,aj,ad,ao⟩:=Q3 u
   have ai:k<listed.size:=by rw [b.size];omega
   have ak:l[k]? = some l[k]:=List.getElem?_eq_getElem (by omega)
   have K:k∈Region.ready .any l.toArray listed:=by
    refine mem_ready.2 ⟨by simpa [ai] using ad,l[k],by simp,fun N he hb=>ao _ ((OX hH aj ak).1 N he hb)⟩
   refine ⟨fun h0=>absurd K (by rw [h0];simp),fun i hi=>?_⟩
   obtain ⟨ap,o,ho,r⟩:=mem_ready.1 hi
   have y:l[i]? = some o:=by simpa using ho
   have a5:i<l.length:=(Af.1 y).1
   have aa:i<h:=by
    refine Nat.lt_of_not_le fun am=>?_
    have:=O listed i o b.closed y am r (i-k-1) k (by omega)
    rw [ad] at this;cases this
   obtain ⟨t1,t2,t3,t4,t5⟩:=T.step i o (by rw [f _ aa];exact y)
   have D:=OX hH aa y
   have G:Rel w0 n M (B2 true l o (E i)) st a w:=by
    refine ⟨b.rel,b.tmps,fun s x hs=>?_⟩
    simp only [B2,if_true] at hs
    have hm:=LA _ _ _ _ hs
    have hl:=HU _ _ _ _ hs
    by_cases c:∃ j p,j<h/\l[j]? = some p/\p.dst=some s
    ·obtain ⟨j,p,hj,hp,hd⟩:=c
     obtain ⟨ax,hw⟩:=(D.2 j p s hj hp hd).2 hm
     obtain ⟨N,H,U,J⟩:=Q2 hw
     have aq:listed.getD j false=true:=J▸r N H U
     have:=(g s i (by omega)).2 j p ax (by rw [f _ hj];exact hp) hd
     rw [this] at hl
     cases hl
     exact b.new j p s hj hp hd aq
    ·have:=(g s i (by omega)).1 (fun j p hj hp hd=>c ⟨j,p,by omega,by rw [<-f _ (by omega)];exact hp,hd⟩)
     rw [this] at hl
     exact b.old s x (fun j p hj hp hd=>c ⟨j,p,hj,hp,hd⟩) hl
   unfold wpOpIn
   simp only [ho]
   have F:i<listed.size:=by rw [b.size];omega
   refine Re G ro m t2 (by rw [t4];exact t5) Q _ fun v w' M' hx aw hv=>?_
   rw [t4] at hv
   refine ih _ _ _ M' ?_ ?_
   ·have ae:listed[i]=false:=by simpa [F] using ap
    have az:0<listed.toList.count false:=List.count_pos_iff.2 (by rw [<-ae];simp)
    rw [Array.toList_setIfInBounds,List.count_set (by simpa using F)]
    simp only [Array.getElem_toList,ae]
    rw [Ad (show (false == false)=true from rfl),Ae (show ¬ (true == false)=true by decide)]
    omega
   ·have keep:∀ s x,o.dst≠some s->entryOk w0 M w (a.tmps.getD s undef) x->entryOk w0 M' w' ((a.put o.dst v).tmps.getD s undef) x:=by
     intro s x ar z
     rw [Is a o.dst v s (by rw [b.tmps];exact t3),Ae ar]
     exact z.mono hx
    refine ⟨by simp [b.size],fun t z Z=>?_,fun j oj hj hl N he hb=>?_,aw,by rw [P2];exact b.tmps,by rw [FM];exact b.defers,b.ext.trans hx,fun s x z Z=>?_,fun j p s hj hp hd hl=>?_⟩
    ·rw [D2 F,Aa];exact b.tail t z Z
    ·rw [D2 F] at hl ⊢
     split
     ·rfl
     ·by_cases c:i=j
      ·subst c
       rw [y] at hj;cases hj
       exact r N he hb
      ·rw [Ae c] at hl
       exact b.closed j oj hj hl N he hb
    ·exact keep s x (z i o aa y) (b.old s x z Z)
    ·by_cases c:i=j
     ·subst c
      rw [y] at hp;cases hp
      rw [Is a o.dst v s (by rw [b.tmps];exact t3),Ad hd]
      exact hv
     ·rw [D2 F,Ae c] at hl
      refine keep s _ (fun hs=>c ((D.2 j p s hj hp hd).1 hs)) (b.new j p s hj hp hd hl)
theorem P0 {M0:Mem} {W0:World} {ro:Option Nat} {Q:AQ} {e:Env} {st:St} (hm:P.follows .mixedOrders=true) (h:Nat) (c1 c2:Nat) (L:List Nat) {id:Nat} {l:List Oper} (hB:UV l h=true)
  (hev:Ru P w0 n true l (fun e1 s1=>Ru P w0 n false l (fun e2 s2=>Q .normal (BW L e2) s2) c2 (l.drop h) e1 s1) c1 (l.take h) e st):CW P w0 n M0 W0 ro (.region id l.toArray true) Q e st:=by
 intro m M a w b
 obtain ⟨E,C,V,T,o⟩:=PG _ _ _ hev
 have D:h<=l.length:=by
  simp only [UV,Bool.and_eq_true,decide_eq_true_eq] at hB;exact hB.1.1.1
 have g:(l.take h).length=h:=by simp;omega
 rw [g] at o
 obtain ⟨r,p⟩:=b.rel.st.drew
 refine wpIn_region_any hm (ZaX T hB (M1:=M) (w1:=w) (ds:=a.defers) (fun a1 w1 M1 k d i=>?_) _ _ a _ M (by simp) ?_)
 ·refine N5 ro m false l _ _ c2 _ _ st a1 w1 M1 k o fun e2 s2 a2 F v u y q q2=>⟨v,_,_,⟨y.sub (BD L _),b.ext.trans (d.trans q),?_⟩,u⟩
  rw [q2,i]
  exact b.marks.later (d.trans q) b.rel.st
 ·exact ⟨by simp,fun t _ z=>by simp [Array.getD_eq_getD_getElem?,z],fun j _ _ f=>by
   exfalso
   by_cases c:j<l.length
   ·simp [Array.getD_eq_getD_getElem?,c] at f
   ·simp [Array.getD_eq_getD_getElem?,c] at f,r,b.rel.size,rfl,p,fun s x _ hs=>(b.rel.env s x hs).mono p,fun j _ _ _ _ _ f=>by
   exfalso
   by_cases c:j<l.length
   ·simp [Array.getD_eq_getD_getElem?,c] at f
   ·simp [Array.getD_eq_getD_getElem?,c] at f⟩
end
def St.ext (s X:St):St:=⟨s.boxes++X.boxes,s.rows++X.rows,s.loops++X.loops⟩
def St.push (s:St) (la:LoopA):St:={ s with loops:=s.loops++[la] }
def St.like (s t:St):Prop:=s.boxes.length=t.boxes.length/\t.rows.length<=s.rows.length/\s.loops.length=t.loops.length
def ZbV (PX:St->Prop) (P:Program) (w0:World) (gf:FuncId) (caps:List AV) (items:Aj) (Fr:St->Prop):Prop :=
 ∀ (k:Nat) (J:Nat->St->Prop) (Jx:St->Prop),(∀ i s,J i s->Fr s/\k<s.loops.length) ->
  (∀ i s x X,PX X->J i s->items[i]? = some x->SQ P w0 k x (s.ext X) fun r s'=>∃ t,s'=t.ext X/\t.like s/\((r = .val (.bool true)/\J (i+1) t)\/(r = .val (.bool false)/\Jx t))) ->
  ∀ s,J 0 s->ACalls P w0 gf (.yld k::caps) s fun _ s'=>∃ t X,X.rows=[]/\s'=St.ext t X/\(J items.length t\/Jx t)
abbrev ZfC (P:Program) (w0:World) (gf:FuncId) (caps:List AV) (items:Aj) (Fr:St->Prop):Prop:=ZbV (fun X=>X.rows=[]) P w0 gf caps items Fr
def UT:Env->List Nat->List AV->Env
 | e,p::ps,x::xs=>UT ((p,true,x)::e) ps xs
 | e,_,_=>e
section
variable {P:Program} {w0:World} {n:Nat} {M:Mem} {e:Env} {st:St} {a:Act} {w:World}
theorem Rel.bind:∀ (ps:List Nat) (vs:List Value) (xs:List AV) (e:Env) (a:Act),Rel w0 n M e st a w->ps.length=xs.length->(∀ p∈ps,p<n)->vs.length=xs.length->(∀ (i:Nat) (v:Value) (x:AV),vs[i]? = some v->xs[i]? = some x->R w0 M w v x) ->
  Rel w0 n M (UT e ps xs) st { tmps:=(ps.zip vs).foldl (fun t (p,v)=>t.setIfInBounds p v) a.tmps,defers:=a.defers } w
 | [],[],[],_,_,h,_,_,_,_=>h
 | p::ps,v::vs,x::xs,e,a,h,h1,h2,h3,h4=>by
  simp only [List.zip_cons_cons,List.foldl_cons,UT]
  have g:p<n:=h2 p (by simp)
  have:=h.put (M':=M) (w':=w) (st':=st) (.refl _ _ _) h.st (dst:=some p) g (c:=true) (v:=v) (r:=x) (h4 0 v x rfl rfl)
  exact Rel.bind ps vs xs _ (a.put (some p) v) this (by simpa using h1) (fun q f=>h2 q (by simp [f])) (by simpa using h3) (fun i u y b d=>h4 (i+1) u y b d)
 | [],_::_,[],_,_,_,_,_,h,_=>by simp at h
 | [],_,_::_,_,_,_,h,_,_,_=>by simp at h
 | _::_,_,[],_,_,_,h,_,_,_=>by simp at h
 | _::_,[],_::_,_,_,_,_,_,h,_=>by simp at h
theorem RelSt.setLoop (h:RelSt w0 M st w) {k:Nat} {la:LoopA} (hk:st.loops[k]? = some la) (s:LoopState) (p:Option Code) {r:Loop} (hr:w.heap[M.lb k]? = some (.loop r)) :
  RelSt w0 M { st with loops:=st.loops.set k { la with st:=s,pend:=p } } (w.putObj (M.lb k) (.loop { r with state:=s,pending:=p }))/\Ext w0 M w M (w.putObj (M.lb k) (.loop { r with state:=s,pending:=p })):=by
 have d:k<st.loops.length:=(Af.1 hk).1
 have a:k<M.NL:=by rw [h.loop.NL];exact d
 have y:M.lb k<w.heap.size:=(Array.getElem?_eq_some_iff.1 hr).1
 obtain ⟨g0,Q⟩:=h.loop.record k la hk
 obtain ⟨K,g2,g3,g4,g5,g6,G,J⟩:=Q.isLoop hr
 generalize ho':Obj.loop { r with state:=s,pending:=p }=o'
 have hs:TE M w (w.putObj (M.lb k) o'):=⟨fun b f v=>KA hr rfl,fun b es Z hb E=>by rw [World.putObj_heap_other (fun e=>E k a e.symm)];exact hb⟩
 have C:∀ {b:Nat} {c:Array Value} {g:TypeId},w.heap[b]? = some (.cells c g (0,0))->(w.putObj (M.lb k) o').heap[b]? = some (.cells c g (0,0)):=by
  intro b c g hb
  rw [World.putObj_heap_other (fun e=>by subst e;rw [hr] at hb;cases hb)]
  exact hb
 refine ⟨⟨Below.putObj h.below g0 _,h.N,h.NR,fun b hb=>h.top b (by simpa using hb),h.inj,fun l cs n=>?_,fun id x F=>(h.row id x F).same hs C (by simp),h.rowinj,⟨by simp [h.loop.NL],h.loop.inj,fun j V hj=>?_⟩⟩,
  ⟨Nat.le_refl _,fun _ _=>rfl,Nat.le_refl _,fun _ _=>⟨Nat.le_refl _,fun _=>⟨rfl,rfl,rfl⟩⟩,fun b f v t D=>⟨hs.1 b f v D,t⟩,by simp,Nat.le_refl _,fun _ _=>rfl,fun _ _ _=>by omega,fun b o t _ U=>?_,fun b _ q=>⟨World.putObj_heap_other (fun e=>q.2.2 k a e.symm),q,rfl⟩⟩⟩
 ·obtain ⟨a1,a2,c,g,a3,a4,a5,a6⟩:=h.box l cs n
  exact ⟨a1,a2,c,g,C a3,a4,a5,fun i Y O=>(a6 i Y O).same hs⟩
 ·by_cases q:j=k
  ·subst q
   rw [List.getElem?_set_self d] at hj
   cases hj
   exact ⟨g0,.ofLoop K ⟨{ r with state:=s,pending:=p },by rw [<-ho'];exact World.putObj_heap_same y,rfl,rfl,g4,g5,g6,G,fun s x m=>(J s x m).same hs⟩⟩
  ·rw [List.getElem?_set_ne (Ne.symm q)] at hj
   have u:j<M.NL:=by rw [h.loop.NL];exact (Af.1 hj).1
   obtain ⟨a1,a2⟩:=h.loop.record j V hj
   exact ⟨a1,a2.map (fun o z _=>by rw [World.putObj_heap_other (fun e=>q (h.loop.inj j k u a e))];exact z) fun s x v _ H=>H.same hs⟩
 ·rw [World.putObj_heap_other (fun e=>U k a e.symm)]
  exact t
def Mem.newLoop (M:Mem) (b:Nat):Mem:={ M with NL:=M.NL+1,lb:=fun k=>if k=M.NL then b else M.lb k }
theorem Rel.newLoop (h:Rel w0 n M e st a w) (fn:FuncId) (ps:Array Tmp) (asg body:Code) :
  RelSt w0 (M.newLoop (w.heap.size+1)) (st.push ⟨e,n,ps,asg,body,.ready,none,none⟩) ((w.alloc (.deferred (some []))).alloc (.loop { state := .ready,pending:=none,fn,tmps:=a.tmps,params:=ps,assign:=asg,body,defers:=w.heap.size })) /\
  Ext w0 M w (M.newLoop (w.heap.size+1)) ((w.alloc (.deferred (some []))).alloc (.loop { state := .ready,pending:=none,fn,tmps:=a.tmps,params:=ps,assign:=asg,body,defers:=w.heap.size })):=by
 generalize hr:({ state := .ready,pending:=none,fn,tmps:=a.tmps,params:=ps,assign:=asg,body,defers:=w.heap.size }:Loop)=r
 have g:KeepsObj w ((w.alloc (.deferred (some []))).alloc (.loop r)):=(KeepsObj.alloc _ _).trans (KeepsObj.alloc _ _)
 have t:∀ (b m:Nat) (v:Value),w.cell? ⟨b,m,none⟩=some v->((w.alloc (.deferred (some []))).alloc (.loop r)).cell? ⟨b,m,none⟩=some v:=by
  intro b m v hv
  have p:=World.block_lt_of_cell? w _ hv
  rw [World.cell?_alloc_lt _ _ _ (by simp;exact Nat.lt_succ_of_lt p),World.cell?_alloc_lt _ _ _ p]
  exact hv
 have f:∀ k,k<M.NL->(M.newLoop (w.heap.size+1)).lb k=M.lb k:=fun k hk=>by simp [Mem.newLoop];omega
 have hnew:(M.newLoop (w.heap.size+1)).lb M.NL=w.heap.size+1:=by simp [Mem.newLoop]
 have z:Ext w0 M w (M.newLoop (w.heap.size+1)) ((w.alloc (.deferred (some []))).alloc (.loop r)) :=
  ⟨Nat.le_refl _,fun _ _=>rfl,Nat.le_refl _,fun _ _=>⟨Nat.le_refl _,fun _=>⟨rfl,rfl,rfl⟩⟩,fun b m v C y=>⟨t b m v y,C⟩,by simp;omega,Nat.le_succ _,f,fun k C y=>by
   have:k=M.NL:=by simp only [Mem.newLoop] at y;omega
   rw [this,hnew];omega,fun b o C y _=>g b o C y,fun b q1 q=>⟨by rw [Bh _ _ (by simp;omega),Bh _ _ q1],⟨q.1,q.2.1,fun k hk=>by
    by_cases c:k=M.NL
    ·subst c;rw [hnew];omega
    ·have d:k<M.NL:=by simp only [Mem.newLoop] at hk;omega
     rw [f k d];exact q.2.2 k d⟩,rfl⟩⟩
 have F:∀ {b:Nat},b<w.heap.size->((w.alloc (.deferred (some []))).alloc (.loop r)).heap[b]? = w.heap[b]? := fun {b} E=>by
  rw [Bh _ _ (by simp;omega),Bh _ _ E]
 refine ⟨⟨(h.st.below.alloc h.st.base_le _).alloc (by have:=h.st.base_le;simp;omega) _,h.st.N,h.st.NR,fun b E=>h.st.top b (by simp at E;omega),h.st.inj,fun l cs K=>?_,fun id x D=>(h.st.row id x D).keep z rfl rfl rfl rfl rfl (h.st.row id x D).ne (F (h.st.row id x D).lt),h.st.rowinj,⟨by simp [Mem.newLoop,St.push,h.st.loop.NL],fun k u hk d q=>?_,fun k V hk=>?_⟩⟩,z⟩
 ·obtain ⟨a1,a2,c,J,a3,a4,a5,a6⟩:=h.st.box l cs K
  exact ⟨a1,a2,c,J,by rw [show (M.newLoop (w.heap.size+1)).bx l=M.bx l from rfl,F (Array.getElem?_eq_some_iff.1 a3).1];exact a3,a4,a5,fun i U O=>(a6 i U O).mono z⟩
 ·have p:∀ j,j<M.NL->M.lb j<w.heap.size:=fun j Q=>by
   exact (h.st.loop.record j _ (List.getElem?_eq_getElem (by rw [<-h.st.loop.NL];exact Q))).2.lt
  simp only [Mem.newLoop] at hk d
  by_cases c:k=M.NL
  ·by_cases c':u=M.NL
   ·omega
   ·subst c
    rw [hnew,f u (by omega)] at q
    have:=p u (by omega)
    omega
  ·by_cases c':u=M.NL
   ·subst c'
    rw [hnew,f k (by omega)] at q
    have:=p k (by omega)
    omega
   ·rw [f k (by omega),f u (by omega)] at q
    exact h.st.loop.inj k u (by omega) (by omega) q
 ·simp only [St.push] at hk
  by_cases c:k=st.loops.length
  ·subst c
   simp only [List.getElem?_concat_length,Option.some.injEq] at hk
   subst hk
   rw [<-h.st.loop.NL,hnew]
   refine ⟨by have:=h.st.base_le;omega,.ofLoop rfl ⟨r,?_,?_⟩⟩
   ·have:=World.alloc_heap_new (w.alloc (.deferred (some []))) (.loop r)
    rwa [World.size_alloc] at this
   ·have G:r.tmps=a.tmps:=by rw [<-hr]
    exact ⟨by rw [<-hr],by rw [<-hr],by rw [<-hr],by rw [<-hr],by rw [<-hr],by rw [G];exact h.size,fun s x hs=>by rw [G];exact (h.env s x hs).mono z⟩
  ·have d:k<st.loops.length:=by
    have:=(Af.1 hk).1
    simp at this;omega
   rw [List.getElem?_append_left d] at hk
   obtain ⟨a1,a2⟩:=h.st.loop.record k V hk
   rw [f k (by rw [h.st.loop.NL];exact d)]
   exact ⟨a1,a2.map (fun o q1 q2=>g _ _ q1 q2) fun s x v _ H=>H.mono z⟩
def YG (I:Exit->St->Prop) (s1 X:St) (la:LoopA):AQ:=fun x _ s =>
 ∃ t b,s=⟨t.boxes++X.boxes++b,t.rows,(s1.loops++[la])++X.loops⟩/\t.like s1/\t.loops=s1.loops/\I x t /\
  (b=[]\/Calm (s1.boxes.length+X.boxes.length) t.rows.length s.loops.length ⟨t.boxes++X.boxes,t.rows,s.loops⟩)
def Ti:Exit->Option (Option Code)
 | .normal=>some none
 | .ret=>some (some .ret)
 | .exit id=>some (some (.exit id))
 | _=>none
theorem ZV {M0:Mem} {W0:World} {I:Exit->St->Prop} {s1 X:St} (hX:X.rows=[]) {la:LoopA} (hka:la.keys=none) {Post:AV->St->Prop} {x:Exit} {jump:Option Code}
  (h0:RelSt w0 M0 ((s1.push { la with st := .ready,pend:=none }).ext X) W0) (hx0:Ext w0 M0 W0 M w) {e':Env} {s':St} (hr:RelSt w0 M s' w) (hq:YG I s1 X { la with st := .busy,pend:=none } x e' s')
  (hpost:∀ t,t.like s1->t.loops=s1.loops->I x t->Post (.val (.bool jump.isNone)) ((t.push { la with st:=if jump.isNone then .ready else .done,pend:=jump }).ext X)) :
  ∃ v w',(Instr.endRound (M0.lb s1.loops.length) jump).run P w = .ok v w'/\Comes' w0 M0 W0 Post (.returned v) w':=by
 obtain ⟨t,b,rfl,H,n,u,t4⟩:=hq
 have o:((s1.loops++[{ la with st := .busy,pend:=none }])++X.loops)[s1.loops.length]? = some { la with st := .busy,pend:=none }:=by
  rw [List.getElem?_append_left (by simp),List.getElem?_concat_length]
 obtain ⟨F,g1,_⟩:=(hr.loop.record _ _ o).2.loop hka
 have g:s1.loops.length<M0.NL:=by rw [h0.loop.NL];simp [St.ext,St.push]
 rw [<-hx0.lb _ g]
 obtain ⟨d,E⟩:=hr.setLoop o (if jump.isNone then .ready else .done) jump g1
 refine ⟨_,_,run_endRound jump g1,?_⟩
 have s:((s1.loops++[{ la with st := .busy,pend:=none }])++X.loops).set s1.loops.length { la with st:=if jump.isNone then .ready else .done,pend:=jump }=(s1.loops++[{ la with st:=if jump.isNone then .ready else .done,pend:=jump }])++X.loops:=by
  rw [List.set_append_left _ _ (by simp),List.set_append_right _ _ (by simp)]
  simp
 simp only at d
 rw [s] at d
 have f:=hx0.trans E
 have hd:M0.N=s1.boxes.length+X.boxes.length/\M0.NR=s1.rows.length/\M0.NL=s1.loops.length+1+X.loops.length:=by
  refine ⟨by rw [h0.N];simp [St.ext,St.push],by rw [h0.NR];simp [St.ext,St.push,hX],by rw [h0.loop.NL];simp [St.ext,St.push];omega⟩
 obtain ⟨C,z,D⟩:=H
 have i:=hpost t ⟨C,z,D⟩ n u
 have l:(t.push { la with st:=if jump.isNone then .ready else .done,pend:=jump }).ext X=⟨t.boxes++X.boxes,t.rows,(s1.loops++[{ la with st:=if jump.isNone then .ready else .done,pend:=jump }])++X.loops⟩:=by
  simp only [St.push,St.ext,n,hX,List.append_nil]
 rw [l] at i
 have c:∀ M' w',R w0 M' w' (.bool jump.isNone) (.val (.bool jump.isNone)):=fun _ _ => .flat rfl
 rcases t4 with rfl | t4
 ·simp only [List.append_nil] at d
  exact ⟨_,M,_,_,rfl,i,f,d,c _ _⟩
 ·refine ⟨_,M.cut (s1.boxes.length+X.boxes.length) t.rows.length (s1.loops.length+1+X.loops.length),_,_,rfl,i,f.cut (by omega) (by omega) (by omega) (by rw [d.loop.NL];simp;omega) (by rw [d.N];simp;omega) (by rw [d.NR];exact Nat.le_refl _),?_,c _ _⟩
  have e:=d.cut (nb:=s1.boxes.length+X.boxes.length) (nr:=t.rows.length) (nl:=s1.loops.length+1+X.loops.length) (by simp;omega) (by simp) (by simp;omega)
  have p:List.take (s1.boxes.length+X.boxes.length) (t.boxes++X.boxes++b)=t.boxes++X.boxes:=List.take_left' (by simp;omega)
  have G:List.take t.rows.length t.rows=t.rows:=List.take_length
  have r:∀ a,List.take (s1.loops.length+1+X.loops.length) (s1.loops++[a]++X.loops)=s1.loops++[a]++X.loops:=fun a=>List.take_of_length_le (by simp;omega)
  simp only [St.cut,p,G,r] at e
  have j:(s1.loops++[{ la with st:=LoopState.busy,pend:=none }]++X.loops).length=s1.loops.length+1+X.loops.length:=by simp;omega
  refine e ⟨?_,?_,fun a hla k y h m=>?_⟩
  ·have:=t4.rows
   simp only [j] at this
   exact this
  ·have:=t4.boxes
   simp only [j] at this
   exact this
  ·have q:=t4.loops
   simp only [j] at q
   simp only [List.mem_append,List.mem_singleton] at hla q
   rcases hla with (hla | rfl) | hla
   ·exact q a (.inl (.inl hla)) k y h m
   ·exact q { la with st := .busy,pend:=none } (.inl (.inr rfl)) k y h m
   ·exact q a (.inr hla) k y h m
structure RoundAt (M0:Mem) (s:St):Prop where
 N:M0.N=s.boxes.length
 NR:M0.NR=s.rows.length
 NL:M0.NL=s.loops.length
 calm:Calm s.boxes.length s.rows.length s.loops.length s
theorem RoundAt.turn {M0:Mem} {s X:St} {la la':LoopA} (h:RoundAt M0 ((s.push la).ext X)) (he:la'.e=la.e):RoundAt M0 ((s.push la').ext X) where
 N:=h.N
 NR:=h.NR
 NL:=by rw [h.NL];simp [St.ext,St.push]
 calm:=by
  have d:((s.push la').ext X).loops.length=((s.push la).ext X).loops.length:=by simp [St.ext,St.push]
  rw [d]
  refine ⟨h.calm.rows,h.calm.boxes,fun l f k x a b=>?_⟩
  have c:l∈s.loops\/l=la'\/l∈X.loops:=by simpa [St.ext,St.push,or_assoc] using f
  rcases c with q | rfl | q
  ·exact h.calm.loops l (by simp [St.ext,St.push,q]) k x a b
  ·rw [he] at a
   exact h.calm.loops la (by simp [St.ext,St.push]) k x a b
  ·exact h.calm.loops l (by simp [St.ext,St.push,q]) k x a b
theorem ZN {la:LoopA} (hka:la.keys=none) {s1 X:St} (hX:X.rows=[]) {I:Exit->St->Prop} {x:List AV} {Post:AV->St->Prop} (hlen:x.length=la.ps.size) (hps:∀ p∈la.ps.toList,p<la.n)
  (hbody:∀ (M0:Mem) (W0:World) (l:Nat),RoundAt M0 ((s1.push { la with st := .ready,pend:=none }).ext X)->RoundAt M0 ((s1.push { la with st := .busy,pend:=none }).ext X)->CW P w0 la.n M0 W0 (some l) la.asg (OK (fun e' s'=>s'.loops=((s1.push { la with st := .ready,pend:=none }).ext X).loops /\
   CW P w0 la.n M0 W0 (some l) la.body (YG I s1 X { la with st := .busy,pend:=none }) e' { s' with loops:=((s1.push { la with st := .busy,pend:=none }).ext X).loops }) (fun _ _ _=>False))
   (UT la.e la.ps.toList x) ((s1.push { la with st := .ready,pend:=none }).ext X))
  (hI:∀ ex s,I ex s->(Ti ex).isSome=true)
  (hpost:∀ ex jump t,Ti ex=some jump->t.like s1->t.loops=s1.loops->I ex t->Post (.val (.bool jump.isNone)) ((t.push { la with st:=if jump.isNone then .ready else .done,pend:=jump }).ext X)) :
  SQ P w0 s1.loops.length x ((s1.push { la with st := .ready,pend:=none }).ext X) Post:=by
 intro M w d c f
 have hk:((s1.push { la with st := .ready,pend:=none }).ext X).loops[s1.loops.length]? = some { la with st := .ready,pend:=none }:=by
  simp only [St.ext,St.push]
  rw [List.getElem?_append_left (by simp),List.getElem?_concat_length]
 obtain ⟨r,g1,g2,g3,g4,g5,g6,V,Y⟩:=(c.loop.record _ _ hk).2.loop hka
 simp only at g2 g3 g4 g5 g6 V Y
 have K:=run_yield (P:=P) (args:=d) g1 (by rw [g4,f.1,hlen])
 refine ⟨_,_,_,_,K,fun m=>roundIn_of_wpIn (F:=Fence.wide) trivial ?_⟩
 rw [g5,g6]
 have o:Rel w0 la.n M la.e ((s1.push { la with st := .ready,pend:=none }).ext X) { tmps:=r.tmps,defers:=[] } w:=⟨c,V,Y⟩
 have z:=Rel.bind la.ps.toList d.toList x la.e _ o (by simp [hlen]) hps (by simp [f.1]) (fun i v y hv K=>f.get (by rw [<-Array.getElem?_toList];exact hv) K)
 have J:(r.params.zip d).foldl (fun tmps (t,a)=>tmps.setIfInBounds t a) r.tmps=(la.ps.toList.zip d.toList).foldl (fun t (p,v)=>t.setIfInBounds p v) r.tmps:=by
  rw [g4,<-Array.foldl_toList,Array.toList_zip]
 rw [J]
 refine wpIn_mono (hbody M w (M.lb s1.loops.length) ⟨c.N,c.NR,c.loop.NL,c.calm⟩ (RoundAt.turn (la:={ la with st := .ready,pend:=none }) ⟨c.N,c.NR,c.loop.NL,c.calm⟩ rfl) m M _ w ⟨z,.refl _ _ _,[],by simp⟩) ?_
 rintro ex a1 w1 ⟨M1,e1,s',h,U⟩
 cases ex with
 | normal =>
  obtain ⟨C,hb⟩:=U
  have j:s'.loops[s1.loops.length]? = some { la with st := .ready,pend:=none }:=by rw [C];exact hk
  obtain ⟨E,G,k2,_⟩:=(h.rel.st.loop.record _ _ j).2.loop hka
  have Q:s1.loops.length<M.NL:=by rw [c.loop.NL];simp [St.ext,St.push]
  have g:=h.ext.lb _ Q
  rw [g] at G
  refine ⟨_,run_beginRound G k2,?_⟩
  obtain ⟨u,D⟩:=h.rel.st.setLoop j .busy none (by rw [g];exact G)
  rw [g] at u D
  have q:E.pending=none:=by
   obtain ⟨aa,k1',_,O,_⟩:=(h.rel.st.loop.record _ _ j).2.loop hka
   rw [g,G] at k1'
   cases k1'
   exact O
  have er:({ E with state:=LoopState.busy,pending:=none }:Loop)={ E with state:=LoopState.busy }:=by rw [<-q]
  rw [er] at u D
  have eL:{ s' with loops:=s'.loops.set s1.loops.length { la with st := .busy,pend:=none } }={ s' with loops:=((s1.push { la with st := .busy,pend:=none }).ext X).loops }:=by
   rw [C]
   simp only [St.ext,St.push]
   rw [List.set_append_left _ _ (by simp),List.set_append_right _ _ (by simp)]
   simp
  simp only at u
  rw [eL] at u
  have H:At w0 la.n M w e1 { s' with loops:=((s1.push { la with st := .busy,pend:=none }).ext X).loops } a1 (w1.putObj (M.lb s1.loops.length) (.loop { E with state := .busy })) M1 :=
   ⟨⟨u,h.rel.size,fun s x hs=>(h.rel.env s x hs).mono D⟩,h.ext.trans D,h.marks.later D h.rel.st⟩
  refine wpIn_mono (hb m M1 a1 _ H) ?_
  rintro ex a2 w2 ⟨M2,e2,s2,h3,Z⟩
  have k:=hI ex
  have fin:∀ jump,Ti ex=some jump->∃ v w',(Instr.endRound (M.lb s1.loops.length) jump).run P w2 = .ok v w'/\Comes' w0 M w Post (.returned v) w':=fun jump hj =>
   ZV hX hka (jump:=jump) c h3.ext h3.rel.st Z (fun t t1 t2 t3=>hpost ex jump t hj t1 t2 t3)
  obtain ⟨t,b,q1,q2,q3,q4,q5⟩:=Z
  have:=k t q4
  cases ex with
  | normal=>exact fin _ rfl
  | ret=>exact fin _ rfl
  | exit id=>exact fin _ rfl
  | _=>simp [Ti] at this
 | _=>exact U.elim
theorem UI {PX:St->Prop} {M0:Mem} {W0:World} {Q:AQ} {g:Operand} {ps:Array Tmp} {asg body:Code} {gf:FuncId} {caps:List AV} (items:Aj) (Fr:St->Prop) (I:Nat->St->Prop) (Ix:Exit->St->Prop)
  (hg:A4 e true g) (hgv:Au e g = .clo gf caps) (hit:ZbV PX P w0 gf caps items Fr) (hlen:∀ x∈items,x.length=ps.size) (hps:∀ p∈ps.toList,p<n)
  (hFr:∀ i s la,I i s->s.like st->s.loops=st.loops->Fr (s.push la)) (h0:I 0 st) (hIx:∀ ex s,Ix ex s->ex = .ret\/∃ id,ex = .exit id)
  (hbody:∀ (i:Nat) (s1 X:St) (x:List AV) (M0:Mem) (W0:World) (l:Nat) (la la':LoopA),PX X->I i s1->s1.like st->s1.loops=st.loops->items[i]? = some x->RoundAt M0 ((s1.push la').ext X) ->
   ∀ K:Env->St->Prop,(∀ e' s',s'.loops=((s1.push la).ext X).loops->(∀ KQ:AQ,(∀ ex e s,YG (fun ex s=>match ex with | .normal=>I (i+1) s | _=>Ix ex s) s1 X la' ex e s->KQ ex e s)->CW P w0 n M0 W0 (some l) body KQ e' { s' with loops:=((s1.push la').ext X).loops })->K e' s') ->
   CW P w0 n M0 W0 (some l) asg (OK K (fun _ _ _=>False)) (UT e ps.toList x) ((s1.push la).ext X))
  (hdone:∀ s la X,X.rows=[]->I items.length s->s.like st->s.loops=st.loops->Q .normal e ((s.push la).ext X))
  (hleft:∀ ex s la X,X.rows=[]->Ix ex s->s.like st->s.loops=st.loops->Q ex e ((s.push la).ext X)) (hPX:∀ X,PX X->X.rows=[]:=by first | exact fun _ h=>h | exact fun _ h=>h▸rfl):CW P w0 n M0 W0 none (.rangeFunc g ps asg body) Q e st:=by
 intro m M a w f
 refine wpIn_rangeFunc fun fn _=>?_
 obtain ⟨n1,n2⟩:=f.rel.newLoop fn ps asg body
 obtain ⟨cs,ah,E⟩:=Vq (hgv▸Bi f.rel hg)
 generalize hW1:((w.alloc (.deferred (some []))).alloc (.loop { state := .ready,pending:=none,fn,tmps:=a.tmps,params:=ps,assign:=asg,body,defers:=w.heap.size }))=W1 at n1 n2
 generalize hM1:M.newLoop (w.heap.size+1)=M1 at n1 n2
 have ai:M.NL=st.loops.length:=f.rel.st.loop.NL
 have C:M1.lb st.loops.length=w.heap.size+1:=by rw [<-hM1,<-ai];simp [Mem.newLoop]
 have V:∀ k,k<st.loops.length->M1.lb k<w.heap.size:=fun k hk=>by
  rw [n2.lb k (by omega)]
  exact (f.rel.st.loop.record k _ (List.getElem?_eq_getElem hk)).2.lt
 have ak:M1.NL=st.loops.length+1:=by rw [n1.loop.NL];simp [St.push]
 have z:W1.heap[w.heap.size]? = some (.deferred (some [])):=by
  rw [<-hW1];exact (Bh _ _ (by simp)).trans (World.alloc_heap_new w _)
 let la0:LoopA:=⟨e,n,ps,asg,body,.ready,none,none⟩
 let J:Nat->St->Prop:=fun i s=>∃ s1,I i s1/\s1.like st/\s1.loops=st.loops/\s=s1.push la0
 let Jx:St->Prop:=fun s=>∃ ex c s1,Ti ex=some (some c)/\Ix ex s1/\s1.like st/\s1.loops=st.loops/\s=s1.push { la0 with st := .done,pend:=some c }
 have o:=hit st.loops.length J Jx (fun i s ⟨s1,H,u,j3,j4⟩=>⟨by rw [j4];exact hFr i s1 la0 H u j3,by rw [j4];simp [St.push,j3]⟩)
  (fun i s x X hX ⟨s1,H,u,j3,j4⟩ U=>by
   subst j4
   have:=ZN rfl (hPX X hX) (P:=P) (w0:=w0) (la:=la0) (s1:=s1) (X:=X) (I:=fun ex s=>match ex with | .normal=>I (i+1) s | _=>Ix ex s) (x:=x)
    (Post:=fun r s'=>∃ t,s'=t.ext X/\t.like (s1.push la0)/\((r = .val (.bool true)/\J (i+1) t)\/(r = .val (.bool false)/\Jx t)))
    (hlen x (List.mem_of_getElem? U)) hps (fun M0 W0 l _ ab=>hbody i s1 X x M0 W0 l _ _ hX H u j3 U ab _ (fun e' s' h1 N=>⟨h1,N _ (fun _ _ _ h=>h)⟩))
    (fun ex s h=>by
     cases ex with
     | normal=>rfl
     | ret=>rfl
     | exit id=>rfl
     | _=>rcases hIx _ s h with h | ⟨id,h⟩<;>cases h)
    (fun ex aj t hj t1 t2 t3=>by
     refine ⟨_,rfl,⟨t1.1,t1.2.1,by simp [St.push,t2]⟩,?_⟩
     have like':t.like st:=⟨t1.1.trans u.1,Nat.le_trans u.2.1 t1.2.1,t1.2.2.trans u.2.2⟩
     cases ex with
     | normal=>cases hj;exact .inl ⟨rfl,t,t3,like',t2.trans j3,rfl⟩
     | ret=>cases hj;exact .inr ⟨rfl,.ret,.ret,t,rfl,t3,like',t2.trans j3,rfl⟩
     | exit id=>cases hj;exact .inr ⟨rfl,.exit id,.exit id,t,rfl,t3,like',t2.trans j3,rfl⟩
     | _=>cases hj)
   rw [j3] at this
   exact this)
  (st.push la0) ⟨st,h0,⟨rfl,Nat.le_refl _,rfl⟩,rfl,rfl⟩
 have F:RowR w0 M1 W1 (#[.func (.yield (w.heap.size+1)) #[] #[]]++cs) (.yld st.loops.length::caps):=by
  have e1:RowR w0 M1 W1 #[.func (.yield (w.heap.size+1)) #[] #[]] [.yld st.loops.length]:=by
   refine ⟨rfl,fun i h1 N=>?_⟩
   have:i=0:=by simp at N;exact N
   subst this
   have:=R.yld (w0:=w0) (M:=M1) (w:=W1) (k:=st.loops.length) (by omega)
   rw [C] at this
   exact this
  have e2:RowR w0 M1 W1 cs caps:=⟨E.1,fun i h1 N=>(E.2 i h1 N).mono n2⟩
  exact e1.append e2
 refine ⟨w.heap.size+1,[{ target := .collected w.heap.size,args := #[] }],W1,{ target := .fn (.func gf) cs,args := #[.func (.yield (w.heap.size+1)) #[] #[]] },W1,gf,
  #[.func (.yield (w.heap.size+1)) #[] #[]]++cs,W1,?_,?_,?_,?_,fun q=>P9 none q m,?_⟩
 ·rw [<-hW1];exact run_enterLoop_outer _ _ _ _ _
 ·simp only [resolve,ah]
  simp [go_sem]
 ·intro f' _;exact OI none f'
 ·simp [invoke,go_sem,o.1 _ W1]
 ·refine O4 ((o.2 M1 W1 _ n1 F).mono ?_)
  rintro en w3 ⟨v,M3,r,s3,rfl,hp,x3,r3,_⟩
  have ae:M3.lb st.loops.length=w.heap.size+1:=(x3.lb _ (by omega)).trans C
  have d:∀ (s1 X:St) (p:Option Code) (b:LoopState),b ≠ .busy->s3=(s1.push { la0 with st:=b,pend:=p }).ext X->s1.loops=st.loops ->
    ∃ O,(Instr.endLoop (w.heap.size+1)).run P w3 = .ok p O/\At w0 n M0 W0 e ((s1.push { la0 with st := .exhausted,pend:=p }).ext X) { a with defers:=[{ target := .collected w.heap.size,args := #[] }]++a.defers } O M3:=by
   intro s1 X p b Z hs3 Y
   subst hs3
   have hk:((s1.push { la0 with st:=b,pend:=p }).ext X).loops[st.loops.length]? = some { la0 with st:=b,pend:=p }:=by
    simp [St.push,St.ext,Y]
   obtain ⟨G,g1,g2,g3,_⟩:=(r3.loop.record _ _ hk).2.loop rfl
   simp only at g2 g3
   obtain ⟨z1,z2⟩:=r3.setLoop hk .exhausted p g1
   rw [ae] at g1 z1 z2
   have j:=run_endLoop (P:=P) g1 (by rw [g2];exact Z)
   have er:({ G with state:=LoopState.exhausted,pending:=p }:Loop)={ G with state:=LoopState.exhausted }:=by rw [<-g3]
   rw [er] at z1 z2
   have j:=j.trans (congrArg (fun q=>Result.ok q _) g3)
   have eL:{ ((s1.push { la0 with st:=b,pend:=p }).ext X) with loops:=((s1.push { la0 with st:=b,pend:=p }).ext X).loops.set st.loops.length { la0 with st := .exhausted,pend:=p } }=(s1.push { la0 with st := .exhausted,pend:=p }).ext X:=by
    simp only [St.push,St.ext,Y,List.append_assoc]
    rw [List.set_append_right _ _ (by simp)]
    simp
   simp only at z1
   have U:Ext w0 M w M3 (w3.putObj (w.heap.size+1) (.loop { G with state := .exhausted })):=n2.trans (x3.trans z2)
   refine ⟨_,j,⟨⟨?_,f.rel.size,fun s x hs=>(f.rel.env s x hs).mono U⟩,f.ext.trans U,?_⟩⟩
   ·rw [<-eL];exact z1
   ·obtain ⟨Ds,d1,d2,d3⟩:=f.marks.later U f.rel.st
    obtain ⟨Ds',am,af,ad⟩:=f.marks
    have aa:Ds'=Ds:=by
     rw [af] at d2
     have ag:Function.Injective (fun D=>({ target := .collected D,args := #[] }:Deferred)):=fun x y h=>by simpa using h
     exact List.map_inj_right (fun x y h=>ag h) |>.1 d2
    refine ⟨w.heap.size::Ds,List.nodup_cons.2 ⟨fun hm=>?_,d1⟩,by simp [d2],fun D hD=>?_⟩
    ·have:=(ad _ (aa▸hm)).2
     have:=(Array.getElem?_eq_some_iff.1 this).1
     omega
    ·rcases List.mem_cons.1 hD with rfl | hD
     ·refine ⟨f.ext.size,?_⟩
      rw [World.putObj_heap_other (by omega)]
      refine x3.objs _ _ z rfl fun k hk=>?_
      by_cases c:k=st.loops.length
      ·subst c;omega
      ·have:=V k (by omega)
       omega
     ·exact d3 D hD
  obtain ⟨t,X,hX,rfl,hp⟩:=hp
  rcases hp with ⟨s1,H,u,j3,rfl⟩ | ⟨ex,c,s1,j0,H,u,j3,rfl⟩
  ·obtain ⟨O,q1,q2⟩:=d s1 X none .ready (by simp) rfl j3
   exact ⟨none,O,q1,M3,e,_,q2,hdone s1 _ X hX H u j3⟩
  ·obtain ⟨O,q1,q2⟩:=d s1 X (some c) .done (by simp) rfl j3
   refine ⟨some c,O,q1,?_⟩
   have hq:=hleft ex s1 { la0 with st := .exhausted,pend:=some c } X hX H u j3
   cases ex with
   | ret=>cases j0;exact wpIn_ret ⟨M3,e,_,q2,hq⟩
   | exit id=>cases j0;exact wpIn_exit ⟨M3,e,_,q2,hq⟩
   | _=>cases j0
end
attribute [go_sem] wrapM.eq_1 wrapM.eq_2 wrapM.eq_3 wrapM.eq_4 wrapM.eq_5 wrapM.eq_6 wrapM.eq_7 wrapM.eq_8 wrapM.eq_9 wrapM.eq_10 wrapM.eq_11 wrapM.eq_12 wrapM.eq_13 wrapM.eq_14 wrapM.eq_15 wrapM.eq_16 wrapM.eq_17 SN
attribute [go_sem] Zbv P4 eqCell.eq_1 eqCell.eq_2 eqCell.eq_3 Lo TV Ht argP B2 looks Zcg Op.operands Call.operands Array.toList_append Option.toArray YW Jf ID BZ Bj A4 Au look Ip BW OK To ZaT SH Zl WF HB LN Oe OR HF Q9 CH MM inK Own.under As G1 St.ext St.push St.cut UT OJ WC evBin.eq_1 evBin.eq_2 evBin.eq_3 evBin.eq_4 evBin.eq_5 evBin.eq_6 evBin.eq_7 evBin.eq_8 evBin.eq_9 evBin.eq_10 evBin.eq_11 evBin.eq_12 evBin.eq_13 evBin.eq_14 evBin.eq_15 evBin.eq_16 evBin.eq_17 evBin.eq_18 evBin.eq_19 evBB.eq_1 evBB.eq_2 evUn.eq_1 evUn.eq_2
@[go_sem] theorem Zdi (k:Nat):Tu (.tmp k)=false:=rfl
@[go_sem] theorem Zaq (v:Value):Tu (.const v)=G7 v:=rfl
@[go_sem] theorem Zdw (k:IntKind) (n:Int):G7 (.int k n)=false:=rfl
@[go_sem] theorem Zc0 (s:ByteArray):G7 (.string s)=false:=rfl
@[go_sem] theorem ZaL (b:Bool):G7 (.bool b)=false:=rfl
@[go_sem] theorem Zc8:G7 .nilIface=true:=rfl
@[go_sem] theorem Zed (t:TypeId) (v:Value):G7 (.iface t v)=false:=rfl
@[go_sem] theorem ZdA (k:Nat):VN (.tmp k)=false:=rfl
@[go_sem] theorem Zat (v:Value):VN (.const v)=J7 v:=rfl
@[go_sem] theorem Zce (k:IntKind) (n:Int):J7 (.int k n)=false:=rfl
@[go_sem] theorem Za4 (s:ByteArray):J7 (.string s)=false:=rfl
@[go_sem] theorem Zaw (b:Bool):J7 (.bool b)=false:=rfl
@[go_sem] theorem Za3:J7 .nilIface=false:=rfl
@[go_sem] theorem Zdx (t:TypeId) (v:Value):J7 (.iface t v)=false:=rfl
@[go_sem] theorem Zd6 (v:Value):Sl .eql v=(U3 v=true,G7 v):=rfl
@[go_sem] theorem ZeM (v:Value):Sl .neq v=(U3 v=true,!G7 v):=rfl
@[go_sem] theorem ZbK (v:Value):DG (.val v:AV)=true:=rfl
@[go_sem] theorem Zam (xs:List AV) (o:Own):DG (.list xs o:AV)=false:=rfl
@[go_sem] theorem Zau (x:AV) (k:Nat):DG (.elem x k:AV)=false:=rfl
@[go_sem] theorem Zbr (l k:Nat):DG (.box l k:AV)=false:=rfl
@[go_sem] theorem Zcm (f:FuncId) (cs:List AV):DG (.clo f cs:AV)=false:=rfl
@[go_sem] theorem Zb1 (f:FuncId) (cs:List AV):DG (.bnd f cs:AV)=false:=rfl
@[go_sem] theorem Zcf (cs:List AV):DG (.agg cs:AV)=false:=rfl
@[go_sem] theorem ZaR (vs:List AV):DG (.tup vs:AV)=false:=rfl
@[go_sem] theorem ZaY (k:Nat):DG (.yld k:AV)=false:=rfl
@[go_sem] theorem ZcW (k:Nat):DG (.mp k:AV)=false:=rfl
@[go_sem] theorem ZaV (l:List (Int × FuncId)):DG (.tab l:AV)=false:=rfl
@[go_sem] theorem Zcs (id ver o n:Nat):DG (.vec id ver o n:AV)=false:=rfl
@[go_sem] theorem Zch (id ver o:Nat):DG (.vel id ver o:AV)=false:=rfl
@[go_sem] theorem Za0 (v:Value):Ge (.val v:AV)=v:=rfl
@[go_sem] theorem Zfq (xs:List AV) (o:Own):RY (.list xs o:AV)=false:=rfl
@[go_sem] theorem ZfE (x:AV) (k:Nat):RY (.elem x k:AV)=false:=rfl
@[go_sem] theorem ZgE (l k:Nat):RY (.box l k:AV)=false:=rfl
@[go_sem] theorem Zg2 (f:FuncId) (cs:List AV):RY (.clo f cs:AV)=false:=rfl
@[go_sem] theorem ZgR (f:FuncId) (cs:List AV):RY (.bnd f cs:AV)=false:=rfl
@[go_sem] theorem Zhh (cs:List AV):RY (.agg cs:AV)=false:=rfl
@[go_sem] theorem ZgG (vs:List AV):RY (.tup vs:AV)=false:=rfl
@[go_sem] theorem Zgq (k:Nat):RY (.yld k:AV)=false:=rfl
@[go_sem] theorem ZhU (k:Nat):RY (.mp k:AV)=false:=rfl
@[go_sem] theorem Zgr (l:List (Int × FuncId)):RY (.tab l:AV)=false:=rfl
@[go_sem] theorem ZgZ (id ver o n:Nat):RY (.vec id ver o n:AV)=false:=rfl
@[go_sem] theorem Zg4 (id ver o:Nat):RY (.vel id ver o:AV)=false:=rfl
@[go_sem] theorem Zdp (xs:List AV) (o:Own):Da (.list xs o:AV)=false:=rfl
@[go_sem] theorem Zdo (x:AV) (k:Nat):Da (.elem x k:AV)=false:=rfl
@[go_sem] theorem ZeB (l k:Nat):Da (.box l k:AV)=false:=rfl
@[go_sem] theorem Zeo (f:FuncId) (cs:List AV):Da (.clo f cs:AV)=false:=rfl
@[go_sem] theorem ZdX (f:FuncId) (cs:List AV):Da (.bnd f cs:AV)=false:=rfl
@[go_sem] theorem Zew (cs:List AV):Da (.agg cs:AV)=false:=rfl
@[go_sem] theorem ZdO (vs:List AV):Da (.tup vs:AV)=false:=rfl
@[go_sem] theorem ZeH (k:Nat):Da (.yld k:AV)=false:=rfl
@[go_sem] theorem Zfx (k:Nat):Da (.mp k:AV)=false:=rfl
@[go_sem] theorem ZeJ (l:List (Int × FuncId)):Da (.tab l:AV)=false:=rfl
@[go_sem] theorem Zfi (id ver o n:Nat):Da (.vec id ver o n:AV)=false:=rfl
@[go_sem] theorem ZeC (id ver o:Nat):Da (.vel id ver o:AV)=false:=rfl
@[go_sem] theorem ZcH (xs:List AV) (o:Own):JF (.list xs o:AV)=false:=rfl
@[go_sem] theorem ZcK (x:AV) (k:Nat):JF (.elem x k:AV)=false:=rfl
@[go_sem] theorem ZeQ (l k:Nat):JF (.box l k:AV)=false:=rfl
@[go_sem] theorem ZdM (f:FuncId) (cs:List AV):JF (.clo f cs:AV)=false:=rfl
@[go_sem] theorem Zd0 (f:FuncId) (cs:List AV):JF (.bnd f cs:AV)=false:=rfl
@[go_sem] theorem ZdV (cs:List AV):JF (.agg cs:AV)=false:=rfl
@[go_sem] theorem Zen (vs:List AV):JF (.tup vs:AV)=false:=rfl
@[go_sem] theorem Zel (k:Nat):JF (.yld k:AV)=false:=rfl
@[go_sem] theorem Zf3 (k:Nat):JF (.mp k:AV)=false:=rfl
@[go_sem] theorem ZeI (l:List (Int × FuncId)):JF (.tab l:AV)=false:=rfl
@[go_sem] theorem ZdT (id ver o n:Nat):JF (.vec id ver o n:AV)=false:=rfl
@[go_sem] theorem Zeh (id ver o:Nat):JF (.vel id ver o:AV)=false:=rfl
@[go_sem] theorem ZfJ (b:Bool):RY (.val (.bool b))=true:=rfl
@[go_sem] theorem Zgj (k:IntKind) (n:Int):RY (.val (.int k n))=false:=rfl
@[go_sem] theorem ZgM (s:ByteArray):RY (.val (.string s))=false:=rfl
@[go_sem] theorem Zev:RY (.val undef)=false:=rfl
@[go_sem] theorem Zia (b:Bool):IY (.val (.bool b))=b:=rfl
@[go_sem] theorem ZiV (k:IntKind) (n:Int):Da (.val (.int k n))=true:=rfl
@[go_sem] theorem Zh0 (k:IntKind) (n:Int):Ba (.val (.int k n))=n:=rfl
@[go_sem] theorem Zgm (k:IntKind) (n:Int):Jb (.val (.int k n))=k:=rfl
@[go_sem] theorem ZiT (s:ByteArray):JF (.val (.string s))=true:=rfl
@[go_sem] theorem Zim (s:ByteArray):Zb8 (.val (.string s))=s:=rfl
@[go_sem] theorem Zh3 (n:Int):Tn (.val (.int .u8 n))=(0<=n/\n<=255):=rfl
@[go_sem] theorem Zb2 (xs:List AV) (o:Own):Be (.list xs o:AV)=xs:=rfl
@[go_sem] theorem Zdr (v:Value):BG (.val v:AV)=false:=rfl
@[go_sem] theorem ZaQ (xs:List AV) (o:Own):BG (.list xs o:AV)=true:=rfl
@[go_sem] theorem ZbF (x:AV) (k:Nat):BG (.elem x k:AV)=false:=rfl
@[go_sem] theorem ZcE (l k:Nat):BG (.box l k:AV)=false:=rfl
@[go_sem] theorem Zct (f:FuncId) (cs:List AV):BG (.clo f cs:AV)=false:=rfl
@[go_sem] theorem Zdm (f:FuncId) (cs:List AV):BG (.bnd f cs:AV)=false:=rfl
@[go_sem] theorem Zdv (cs:List AV):BG (.agg cs:AV)=false:=rfl
@[go_sem] theorem Zcv (vs:List AV):BG (.tup vs:AV)=false:=rfl
@[go_sem] theorem ZcC (k:Nat):BG (.yld k:AV)=false:=rfl
@[go_sem] theorem ZeG (k:Nat):BG (.mp k:AV)=false:=rfl
@[go_sem] theorem ZcX (l:List (Int × FuncId)):BG (.tab l:AV)=false:=rfl
@[go_sem] theorem ZdC (id ver o n:Nat):BG (.vec id ver o n:AV)=false:=rfl
@[go_sem] theorem Zcu (id ver o:Nat):BG (.vel id ver o:AV)=false:=rfl
@[go_sem] theorem ZeO (v:Value):Dh (.val v:AV)=0:=rfl
@[go_sem] theorem ZcT (xs:List AV) (o:Own):Dh (.list xs o:AV)=0:=rfl
@[go_sem] theorem Zc6 (x:AV) (k:Nat):Dh (.elem x k:AV)=k:=rfl
@[go_sem] theorem Zef (l k:Nat):Dh (.box l k:AV)=k:=rfl
@[go_sem] theorem Zd8 (f:FuncId) (cs:List AV):Dh (.clo f cs:AV)=0:=rfl
@[go_sem] theorem Zfh (f:FuncId) (cs:List AV):Dh (.bnd f cs:AV)=0:=rfl
@[go_sem] theorem ZdF (cs:List AV):Dh (.agg cs:AV)=0:=rfl
@[go_sem] theorem Ze0 (vs:List AV):Dh (.tup vs:AV)=0:=rfl
@[go_sem] theorem Zeu (k:Nat):Dh (.yld k:AV)=0:=rfl
@[go_sem] theorem Zfw (k:Nat):Dh (.mp k:AV)=0:=rfl
@[go_sem] theorem ZeE (l:List (Int × FuncId)):Dh (.tab l:AV)=0:=rfl
@[go_sem] theorem ZeS (id ver o n:Nat):Dh (.vec id ver o n:AV)=0:=rfl
@[go_sem] theorem Zeq (id ver o:Nat):Dh (.vel id ver o:AV)=o:=rfl
@[go_sem] theorem Zep (v:Value):KB (.val v:AV)=false:=rfl
@[go_sem] theorem Zc9 (xs:List AV) (o:Own):KB (.list xs o:AV)=false:=rfl
@[go_sem] theorem Zc3 (x:AV) (k:Nat):KB (.elem x k:AV)=false:=rfl
@[go_sem] theorem Zez (l k:Nat):KB (.box l k:AV)=true:=rfl
@[go_sem] theorem ZdZ (f:FuncId) (cs:List AV):KB (.clo f cs:AV)=false:=rfl
@[go_sem] theorem Ze9 (f:FuncId) (cs:List AV):KB (.bnd f cs:AV)=false:=rfl
@[go_sem] theorem ZdJ (cs:List AV):KB (.agg cs:AV)=false:=rfl
@[go_sem] theorem Ze6 (vs:List AV):KB (.tup vs:AV)=false:=rfl
@[go_sem] theorem Zek (k:Nat):KB (.yld k:AV)=false:=rfl
@[go_sem] theorem Zfu (k:Nat):KB (.mp k:AV)=false:=rfl
@[go_sem] theorem Zd7 (l:List (Int × FuncId)):KB (.tab l:AV)=false:=rfl
@[go_sem] theorem ZeD (id ver o n:Nat):KB (.vec id ver o n:AV)=false:=rfl
@[go_sem] theorem Zfg (id ver o:Nat):KB (.vel id ver o:AV)=true:=rfl
@[go_sem] theorem Zdh (v:Value):A9 (.val v:AV)=true:=rfl
@[go_sem] theorem Zbw (xs:List AV) (o:Own):A9 (.list xs o:AV)=true:=rfl
@[go_sem] theorem ZaB (x:AV) (k:Nat):A9 (.elem x k:AV)=true:=rfl
@[go_sem] theorem ZcN (l k:Nat):A9 (.box l k:AV)=true:=rfl
@[go_sem] theorem ZcS (f:FuncId) (cs:List AV):A9 (.clo f cs:AV)=true:=rfl
@[go_sem] theorem Zdu (f:FuncId) (cs:List AV):A9 (.bnd f cs:AV)=true:=rfl
@[go_sem] theorem Zdt (cs:List AV):A9 (.agg cs:AV)=true:=rfl
@[go_sem] theorem Zdd (vs:List AV):A9 (.tup vs:AV)=false:=rfl
@[go_sem] theorem ZcO (k:Nat):A9 (.yld k:AV)=true:=rfl
@[go_sem] theorem Zfc (k:Nat):A9 (.mp k:AV)=true:=rfl
@[go_sem] theorem Zcz (l:List (Int × FuncId)):A9 (.tab l:AV)=true:=rfl
@[go_sem] theorem ZcF (id ver o n:Nat):A9 (.vec id ver o n:AV)=true:=rfl
@[go_sem] theorem Zdf (id ver o:Nat):A9 (.vel id ver o:AV)=true:=rfl
@[go_sem] theorem Zdz (v:Value):Eh (.val v:AV)=false:=rfl
@[go_sem] theorem ZaZ (xs:List AV) (o:Own):Eh (.list xs o:AV)=false:=rfl
@[go_sem] theorem ZbB (x:AV) (k:Nat):Eh (.elem x k:AV)=false:=rfl
@[go_sem] theorem ZcL (l k:Nat):Eh (.box l k:AV)=false:=rfl
@[go_sem] theorem Zdc (f:FuncId) (cs:List AV):Eh (.clo f cs:AV)=false:=rfl
@[go_sem] theorem Zdn (f:FuncId) (cs:List AV):Eh (.bnd f cs:AV)=false:=rfl
@[go_sem] theorem Zdq (cs:List AV):Eh (.agg cs:AV)=true:=rfl
@[go_sem] theorem Zc1 (vs:List AV):Eh (.tup vs:AV)=false:=rfl
@[go_sem] theorem ZdD (k:Nat):Eh (.yld k:AV)=false:=rfl
@[go_sem] theorem ZdH (k:Nat):Eh (.mp k:AV)=false:=rfl
@[go_sem] theorem ZcA (l:List (Int × FuncId)):Eh (.tab l:AV)=false:=rfl
@[go_sem] theorem Zcw (id ver o n:Nat):Eh (.vec id ver o n:AV)=false:=rfl
@[go_sem] theorem Zde (id ver o:Nat):Eh (.vel id ver o:AV)=false:=rfl
@[go_sem] theorem Zav (v:Value):AV.cells (.val v:AV)=[.val v]:=rfl
@[go_sem] theorem ZR (xs:List AV) (o:Own):AV.cells (.list xs o:AV)=[.list xs o]:=rfl
@[go_sem] theorem Z0 (x:AV) (k:Nat):AV.cells (.elem x k:AV)=[.elem x k]:=rfl
@[go_sem] theorem Zan (l k:Nat):AV.cells (.box l k:AV)=[.box l k]:=rfl
@[go_sem] theorem Zap (f:FuncId) (cs:List AV):AV.cells (.clo f cs:AV)=[.clo f cs]:=rfl
@[go_sem] theorem Zak (f:FuncId) (cs:List AV):AV.cells (.bnd f cs:AV)=[.bnd f cs]:=rfl
@[go_sem] theorem Gz (cs:List AV):AV.cells (.agg cs:AV)=cs:=rfl
@[go_sem] theorem Zas (vs:List AV):AV.cells (.tup vs:AV)=[.tup vs]:=rfl
@[go_sem] theorem Zar (k:Nat):AV.cells (.yld k:AV)=[.yld k]:=rfl
@[go_sem] theorem ZbL (k:Nat):AV.cells (.mp k:AV)=[.mp k]:=rfl
@[go_sem] theorem Zaj (l:List (Int × FuncId)):AV.cells (.tab l:AV)=[.tab l]:=rfl
@[go_sem] theorem Zao (id ver o n:Nat):AV.cells (.vec id ver o n:AV)=[.vec id ver o n]:=rfl
@[go_sem] theorem Zal (id ver o:Nat):AV.cells (.vel id ver o:AV)=[.vel id ver o]:=rfl
@[go_sem] theorem ZcB (v:Value):AV.pub (.val v:AV) = .val v:=rfl
@[go_sem] theorem Zax (xs:List AV) (o:Own):AV.pub (.list xs o:AV) = .list xs .none:=rfl
@[go_sem] theorem ZbC (x:AV) (k:Nat):AV.pub (.elem x k:AV) = .elem x k:=rfl
@[go_sem] theorem Zc7 (l k:Nat):AV.pub (.box l k:AV) = .box l k:=rfl
@[go_sem] theorem ZcY (f:FuncId) (cs:List AV):AV.pub (.clo f cs:AV) = .clo f cs:=rfl
@[go_sem] theorem ZcU (f:FuncId) (cs:List AV):AV.pub (.bnd f cs:AV) = .bnd f cs:=rfl
@[go_sem] theorem ZcG (cs:List AV):AV.pub (.agg cs:AV) = .agg (cs.map AV.pubCell):=rfl
@[go_sem] theorem Zdl (vs:List AV):AV.pub (.tup vs:AV) = .tup vs:=rfl
@[go_sem] theorem Zc4 (k:Nat):AV.pub (.yld k:AV) = .yld k:=rfl
@[go_sem] theorem Zey (k:Nat):AV.pub (.mp k:AV) = .mp k:=rfl
@[go_sem] theorem ZcM (l:List (Int × FuncId)):AV.pub (.tab l:AV) = .tab l:=rfl
@[go_sem] theorem ZcR (id ver o n:Nat):AV.pub (.vec id ver o n:AV) = .vec id ver o n:=rfl
@[go_sem] theorem ZcZ (id ver o:Nat):AV.pub (.vel id ver o:AV) = .vel id ver o:=rfl
@[go_sem] theorem Y7 (v:Value):AV.pubCell (.val v:AV) = .val v:=rfl
@[go_sem] theorem XK (xs:List AV) (o:Own):AV.pubCell (.list xs o:AV) = .list xs .none:=rfl
@[go_sem] theorem XJ (x:AV) (k:Nat):AV.pubCell (.elem x k:AV) = .elem x k:=rfl
@[go_sem] theorem YS (l k:Nat):AV.pubCell (.box l k:AV) = .box l k:=rfl
@[go_sem] theorem Y9 (f:FuncId) (cs:List AV):AV.pubCell (.clo f cs:AV) = .clo f cs:=rfl
@[go_sem] theorem YR (f:FuncId) (cs:List AV):AV.pubCell (.bnd f cs:AV) = .bnd f cs:=rfl
@[go_sem] theorem YU (cs:List AV):AV.pubCell (.agg cs:AV) = .agg cs:=rfl
@[go_sem] theorem Zc (vs:List AV):AV.pubCell (.tup vs:AV) = .tup vs:=rfl
@[go_sem] theorem Ze (k:Nat):AV.pubCell (.yld k:AV) = .yld k:=rfl
@[go_sem] theorem ZQ (k:Nat):AV.pubCell (.mp k:AV) = .mp k:=rfl
@[go_sem] theorem Za (l:List (Int × FuncId)):AV.pubCell (.tab l:AV) = .tab l:=rfl
@[go_sem] theorem Y6 (id ver o n:Nat):AV.pubCell (.vec id ver o n:AV) = .vec id ver o n:=rfl
@[go_sem] theorem Y2 (id ver o:Nat):AV.pubCell (.vel id ver o:AV) = .vel id ver o:=rfl
@[go_sem] theorem Zcx (v:Value):AV.one (.val v:AV)=true:=rfl
@[go_sem] theorem ZaE (xs:List AV) (o:Own):AV.one (.list xs o:AV)=true:=rfl
@[go_sem] theorem Zcp (x:AV) (k:Nat):AV.one (.elem x k:AV)=true:=rfl
@[go_sem] theorem ZcQ (l k:Nat):AV.one (.box l k:AV)=true:=rfl
@[go_sem] theorem ZcD (f:FuncId) (cs:List AV):AV.one (.clo f cs:AV)=true:=rfl
@[go_sem] theorem ZcI (f:FuncId) (cs:List AV):AV.one (.bnd f cs:AV)=true:=rfl
@[go_sem] theorem Zdk (cs:List AV):AV.one (.agg cs:AV)=false:=rfl
@[go_sem] theorem Zc2 (vs:List AV):AV.one (.tup vs:AV)=false:=rfl
@[go_sem] theorem Zds (k:Nat):AV.one (.yld k:AV)=true:=rfl
@[go_sem] theorem ZeV (k:Nat):AV.one (.mp k:AV)=true:=rfl
@[go_sem] theorem ZcV (l:List (Int × FuncId)):AV.one (.tab l:AV)=true:=rfl
@[go_sem] theorem ZcJ (id ver o n:Nat):AV.one (.vec id ver o n:AV)=true:=rfl
@[go_sem] theorem ZdE (id ver o:Nat):AV.one (.vel id ver o:AV)=true:=rfl
@[go_sem] theorem Zdb (l o n:Nat):QY (.box l o) n = .box l (o+n):=rfl
@[go_sem] theorem ZcP (id ver o n:Nat):QY (.vel id ver o) n = .vel id ver (o+n):=rfl
@[go_sem] theorem Zbn (x:AV) (o n:Nat):QY (.elem x o) n = .elem x (o+n):=rfl
@[go_sem] theorem ZhB (st:St) (l o:Nat) (xs:List AV):Uc st (.box l o) xs={ st with boxes:=st.boxes.set l (BH (st.boxes.getD l []) o xs) }:=rfl
@[go_sem] theorem Zfm (a b:AV):AV.sel true a b=a:=by unfold AV.sel;split<;>rfl
@[go_sem] theorem Zd4 (a b:AV):AV.sel false a b=b:=by unfold AV.sel;split<;>rfl
@[go_sem] theorem ZfO (t a b:Bool):AV.sel t (.val (.bool a)) (.val (.bool b)) = .val (.bool (cond t a b)):=by cases t<;>rfl
attribute [go_sem] DX SU TK U1 QI UN Db UM UP Xz U5 UY
@[go_sem] theorem Zgw:IZ []=[]:=rfl
@[go_sem] theorem ZgF (t:Nat) (r:List Operand):IZ (.tmp t::r)=t::IZ r:=rfl
@[go_sem] theorem Zec (v:Value) (r:List Operand):IZ (.const v::r)=IZ r:=rfl
@[go_sem] theorem ZfS (f:FuncId) (r:List Operand):IZ (.func f::r)=IZ r:=rfl
@[go_sem] theorem Zdy (g:Nat) (r:List Operand):IZ (.global g::r)=IZ r:=rfl
@[go_sem] theorem ZiG (p:Prop):(False->p)=True:=eq_true False.elim
@[go_sem] theorem Zj1 (p:Prop):(True->p)=p:=propext ⟨fun h=>h trivial,fun h _=>h⟩
@[go_sem] theorem Zj8 (p:Sort _):(p->True)=True:=eq_true fun _=>trivial
@[go_sem] theorem ite_f (b c:Bool):(if b=true then c else false)=(b&&c):=by cases b<;>rfl
@[go_sem] theorem ite_t (b c:Bool):(if b=true then true else c)=(b||c):=by cases b<;>rfl
@[go_sem] theorem bif_f (b c:Bool):cond b c false=(b&&c):=by cases b<;>rfl
@[go_sem] theorem bif_t (b c:Bool):cond b true c=(b||c):=by cases b<;>rfl
@[go_sem] theorem ZkA (b c:Bool):cond true b c=b:=rfl
@[go_sem] theorem ZkM (b c:Bool):cond false b c=c:=rfl
@[go_sem] theorem ZhJ (b:Bool):(b == true)=b:=by cases b<;>rfl
@[go_sem] theorem ZgT (b:Bool):(b == false) = !b:=by cases b<;>rfl
attribute [go_sem] List.filterMap_nil List.append_nil List.nil_append List.cons_append Option.toList List.map_cons List.map_nil and_imp not_false_eq_true true_and and_true forall_const imp_self reduceIte List.getElem?_cons_zero List.getElem?_cons_succ Option.bind_some Bool.true_and Bool.and_true Bool.false_and Bool.and_false Bool.or_true Bool.true_or Bool.or_false Bool.false_or List.toList_toArray List.mem_cons List.not_mem_nil or_false false_or forall_eq forall_eq_or_imp decide_eq_true_eq decide_eq_false_iff_not Bool.not_true Bool.not_false Bool.not_not
@[go_sem] theorem ZkL (b:Bool):((!b)=true)=(b=false):=by cases b<;>simp
@[go_sem] theorem ZkC (b:Bool):((!b)=false)=(b=true):=by cases b<;>simp
@[go_sem] theorem ZkS (b c:Bool):((b&&c)=true)=(b=true/\c=true):=Bool.and_eq_true b c
@[go_sem] theorem Zh4 (n:Nat):(no_index (@OfNat.ofNat Int n instOfNat)).toNat = @OfNat.ofNat Nat n (instOfNatNat n):=rfl
@[go_sem] theorem Zjt (i:Decidable True) : @decide True i=true:=by cases i with | isTrue h=>rfl | isFalse h=>exact absurd trivial h
@[go_sem] theorem Zhs (i:Decidable False) : @decide False i=false:=by cases i with | isTrue h=>exact h.elim | isFalse h=>rfl
@[go_sem] theorem ZkK (b:Bool):(b == b)=true:=by cases b<;>rfl
@[go_sem] theorem Zh1 (s:St):(s=s)=True:=eq_true rfl
@[go_sem] theorem tt_tt:(true=true)=True:=eq_true rfl
@[go_sem] theorem ff_tt:(false=true)=False:=eq_false (by decide)
@[go_sem] theorem tt_ff:(true=false)=False:=eq_false (by decide)
@[go_sem] theorem ff_ff:(false=false)=True:=eq_true rfl
@[go_sem] theorem ZhR (B l:Aj):(B++l).length=B.length+l.length:=List.length_append
@[go_sem] theorem Zjc (B l:Am):(B++l).length=B.length+l.length:=List.length_append
@[go_sem] theorem Zg0 (B:Aj) (R:Am) (L:An) (ks:List ByteArray):Pi ⟨B,R,L++[ZK ks]⟩ L.length=some ks:=by simp [Pi,ZK]
@[go_sem] theorem Zin (L:An) (a b:LoopA):(L++[a]).set L.length b=L++[b]:=by simp
@[go_sem] theorem Z4 (B l:Aj) (R:Am) (L:An) (k o:Nat):Cm ⟨B++l,R,L⟩ (.box (B.length+k) o)=decide (k<l.length):=by simp [Cm]
@[go_sem] theorem YE (B l:Aj) (R:Am) (L:An) (o:Nat):Cm ⟨B++l,R,L⟩ (.box B.length o)=decide (0<l.length):=by simp [Cm]
@[go_sem] theorem Zgc (s:St) (x:AV) (o:Nat):Cm s (.elem x o)=A9 x:=by cases x<;>rfl
@[go_sem] theorem W8 (B l:Aj) (k:Nat):(B++l).getD (B.length+k) []=l.getD k []:=by
 rw [List.getD_eq_getElem?_getD,List.getElem?_append_right (by omega),Nat.add_sub_cancel_left,List.getD_eq_getElem?_getD]
@[go_sem] theorem U8 (B l:Aj):(B++l).getD B.length []=l.getD 0 []:=by
 rw [List.getD_eq_getElem?_getD,List.getElem?_append_right (by omega),Nat.sub_self,List.getD_eq_getElem?_getD]
@[go_sem] theorem ZfZ (B l:Aj) (R:Am) (L:An) (k o:Nat):Bt ⟨B++l,R,L⟩ (.box (B.length+k) o)=l.getD k []:=W8 B l k
@[go_sem] theorem Zfd (B l:Aj) (R:Am) (L:An) (o:Nat):Bt ⟨B++l,R,L⟩ (.box B.length o)=l.getD 0 []:=U8 B l
@[go_sem] theorem ZdN (s:St) (x:AV) (o:Nat):Bt s (.elem x o)=x.cells:=rfl
@[go_sem] theorem Zer (B l:Aj) (k:Nat) (x:List AV):(B++l).set (B.length+k) x=B++l.set k x:=by rw [List.set_append_right _ _ (by omega),Nat.add_sub_cancel_left]
@[go_sem] theorem Zby (B l:Aj) (x:List AV):(B++l).set B.length x=B++l.set 0 x:=by rw [List.set_append_right _ _ (by omega),Nat.sub_self]
@[go_sem] theorem Zee (B l:Am) (k:Nat):(B++l)[B.length+k]? = l[k]? := by rw [List.getElem?_append_right (by omega),Nat.add_sub_cancel_left]
@[go_sem] theorem ZaD (B l:Am):(B++l)[B.length]? = l[0]? := by rw [List.getElem?_append_right (by omega),Nat.sub_self]
@[go_sem] theorem Zij (B l:Am) (k:Nat) (x:RowA):(B++l).set (B.length+k) x=B++l.set k x:=by rw [List.set_append_right _ _ (by omega),Nat.add_sub_cancel_left]
@[go_sem] theorem ZhO (B l:Am) (x:RowA):(B++l).set B.length x=B++l.set 0 x:=by rw [List.set_append_right _ _ (by omega),Nat.sub_self]
attribute [go_sem] List.take_succ_cons List.take_zero List.take_nil List.drop_succ_cons List.drop_zero List.drop_nil Int.toNat_natCast List.append_assoc List.length_cons List.length_nil Nat.zero_add Nat.add_zero List.set_cons_zero List.set_cons_succ List.getD_cons_zero List.getD_cons_succ
@[go_sem] theorem Zgx (x v:AV):BH [x] 0 [v]=[v]:=rfl
@[go_sem] theorem Zc5 (l:List AV) (n:Nat) (h:l.length=n):(l.drop 0).take n=l:=by simp [<-h]
theorem AU {P:Program} {f:FuncId} {fn:Func} (hf:P.funcs[f]? = some fn) (hb:fn.body.isSome=true) (hn:fn.name ≠ "runtime.NumGoroutine"):HW P f:=by
 obtain ⟨c,a⟩:=Option.isSome_iff_exists.1 hb
 exact Ev.enters_of hf a hn
theorem Hj {P:Program} {w0:World} {f:FuncId} {args:List AV} {st:St} {r:Value} (hen:HW P f) (hr:HF r=true)
  (h:∀ (M:Mem) (w:World) (vals:Array Value),Below w0.heap.size w0 w->RowR w0 M w vals args->Calls P f vals w fun en w'=>en = .returned r/\Below w.heap.size w w'):ACalls P w0 f args st fun v s=>v = .val r/\s=st :=
 ⟨hen,fun M w vals a b=>(h M w vals a.below b).mono fun en w' ⟨g,c⟩=>by
  obtain ⟨d,e⟩:=a.later c w.heap.size 0 (Nat.le_refl _) (.inr rfl)
  exact ⟨r,_,_,st,g,⟨rfl,rfl⟩,e,d,.flat hr⟩⟩
theorem NB {w0:World} {M:Mem} {w:World} {vals:Array Value} {us:List Value} (h:RowR w0 M w vals (us.map .val)):vals=us.toArray:=by
 apply Array.ext
 ·simpa using h.1
 ·intro i b c
  have a:i<us.length:=by simpa using c
  have:=h.2 i b (by simpa using a)
  simp only [List.getElem_map] at this
  simp only [List.getElem_toArray]
  exact this.val_inv.1
@[go_sem] theorem Ug (P:Program) (st:St) (t:TypeId) (xs:List AV) (x:AV):BE P st t (.list xs .full) x=match GN P t with
  | some (el,sz,_,by8)=>if (Be x).length=0 then (BG x=true/\0<sz,.list xs .full,st)
   else (BG x=true/\Cc P el sz by8 xs.length (Be x)/\(∀ y∈xs,y.cells.length=sz),.list (xs++(Be x).map AV.pub) (.row st.rows.length),{ st with rows:=st.rows++[.grow (xs.length+(Be x).length) sz] })
  | none=>(False,.junk,st):=rfl
@[go_sem] theorem Vm (P:Program) (st:St) (t:TypeId) (xs:List AV) (id:Nat) (x:AV):BE P st t (.list xs (.row id)) x=match GN P t with
  | some (el,sz,_,by8)=>(BG x=true/\Cc P el sz by8 xs.length (Be x)/\(∀ y∈xs,y.cells.length=sz)/\st.rows[id]? = some (.grow xs.length sz),.list (xs++(Be x).map AV.pub) (.row id),{ st with rows:=st.rows.set id (.grow (xs.length+(Be x).length) sz) })
  | none=>(False,.junk,st):=rfl
@[go_sem] theorem Zcy (P:Program) (st:St) (t:TypeId) (ys:List AV) (x:AV):BE P st t (.list ys .seed) x=match GN P t with
  | some (el,sz,_,by8)=>if (Be x).length=0 then (BG x=true/\0<sz,.list ys .seed,st)
   else (BG x=true/\Cc P el sz by8 0 (Be x)/\ys.length=0/\0<(Be x).length,.vec st.rows.length 0 0 (Be x).length,{ st with rows:=st.rows++[.vec 0 sz ((Be x).flatMap fun y=>y.pub.cells)] })
  | none=>(False,.junk,st):=rfl
@[go_sem] theorem Zeb (P:Program) (st:St) (t:TypeId) (id ver o n:Nat) (x:AV):BE P st t (.vec id ver o n) x=match GN P t with
  | some (el,sz,_,by8)=>match Df st.rows id ver with
   | some (sz',cs)=>(BG x=true/\Cc P el sz by8 n (Be x)/\sz'=sz/\o=0/\n*sz<=cs.length,.vec id (ver+1) 0 (n+(Be x).length),{ st with rows:=st.rows.set id (.vec (ver+1) sz (cs.take (n*sz)++(Be x).flatMap fun y=>y.pub.cells)) })
   | none=>(False,.junk,st)
  | none=>(False,.junk,st):=rfl
attribute [go_sem] Cc
@[go_sem] theorem ZiH (B l:Am) (k ver:Nat):Df (B++l) (B.length+k) ver=Df l k ver:=by simp [Df,Zee]
@[go_sem] theorem ZhY (B l:Am) (ver:Nat):Df (B++l) B.length ver=Df l 0 ver:=by simp [Df,ZaD]
@[go_sem] theorem Zhw (ver sz:Nat) (cs:List AV) (l:Am):Df (.vec ver sz cs::l) 0 ver=some (sz,cs):=by simp [Df]
@[go_sem] theorem Zhl (r:RowA) (l:Am) (k ver:Nat):Df (r::l) (k+1) ver=Df l k ver:=by simp [Df]
@[go_sem] theorem ZhN (s:St) (id ver o:Nat):Cm s (.vel id ver o)=(Df s.rows id ver).isSome:=rfl
@[go_sem] theorem ZfF (s:St) (id ver o:Nat):Bt s (.vel id ver o)=match Df s.rows id ver with | some (_,cs)=>cs | none=>[]:=rfl
@[go_sem] theorem Zdj (st:St) (id ver o:Nat) (xs:List AV):Uc st (.vel id ver o) xs=match Df st.rows id ver with
  | some (sz,cs)=>{ st with rows:=st.rows.set id (.vec ver sz (BH cs o xs)) }
  | none=>st:=rfl
def Grow (Rw:Am) (sz:Nat) (xs:List AV) (o:Own) (r:Am):Prop:=(xs=[]/\o = .full/\r=[])\/(o = .row Rw.length/\r=[.grow xs.length sz])
theorem Grow.nil (Rw:Am) (sz:Nat):Grow Rw sz [] .full [] := .inl ⟨rfl,rfl,rfl⟩
theorem Grow.more (Rw:Am) (sz:Nat) (xs:List AV) (n:Nat) (h:xs.length=n):Grow Rw sz xs (.row Rw.length) [.grow n sz] := .inr ⟨rfl,by rw [h]⟩
theorem Grow.len {Rw r:List RowA} {sz:Nat} {xs:List AV} {o:Own} (h:Grow Rw sz xs o r):r.length<=1:=by
 rcases h with ⟨_,_,rfl⟩ | ⟨_,rfl⟩<;>simp
theorem Uf {P:Program} {t el:TypeId} {sz by8:Nat} {ag:Bool} {Rw r:List RowA} {xs:List AV} {o:Own} (he:GN P t=some (el,sz,ag,by8)) (hz:(Bv P el).isSome=true) (hs:0<sz) (h:Grow Rw sz xs o r) (B:Aj) (L:An) (y:AV) (o2:Own) :
  BE P ⟨B,Rw++r,L⟩ t (.list xs o) (.list [y] o2)=(((xs.length+1)*by8<=140737488355328/\xs.length+1<=4611686018427387904/\(∀ y∈xs,y.cells.length=sz)/\y.cells.length=sz/\A9 y=true),.list (xs++[y.pub]) (.row Rw.length),⟨B,Rw++[.grow (xs.length+1) sz],L⟩):=by
 rcases h with ⟨rfl,rfl,rfl⟩ | ⟨rfl,rfl⟩
 ·rw [Ug,he];simp [Be,BG,Cc,hz,hs]
 ·rw [Vm,he];simp [Be,BG,Cc,hz,hs]
  exact ⟨fun ⟨⟨a,b,c,d⟩,e⟩=>⟨a,b,e,c,d⟩,fun ⟨a,b,e,c,d⟩=>⟨⟨a,b,c,d⟩,e⟩⟩
def YX (c:Option IntKind × Bool) (x y:AV):Prop :=
 match x,y with
 | .val (.int k _),.val (.int k' _)=>c.1.isSome=true/\k=k'
 | .val (.string _),.val (.string _)=>c=(none,true)
 | .val (.bool _),.val (.bool _)=>c=(none,false)
 | _,_=>False
def Za8 (P:Program) (t:TypeId):Option (Option IntKind × Bool) :=
 match LV P t with
 | some k=>some (some k,false)
 | none=>if CL P t=true then some (none,true) else if Lt P t=true then some (none,false) else none
def RV (P:Program):List Field->Nat->Option (List (Option IntKind × Bool))
 | [],_=>some []
 | f::fs,i=>if f.name ≠ "_" /\ f.offset=i/\Fv P f.type=some (1,false) then
   match Za8 P f.type,RV P fs (i+1) with
   | some k,some ks=>some (k::ks)
   | _,_=>none
  else none
def ZbG (P:Program) (t:TypeId):Option (List (Option IntKind × Bool)) :=
 match eqT P t with
 | some fs=>RV P fs 0
 | none=>none
def obK:List (Option IntKind × Bool)->List AV->List AV->Prop
 | [],[],[]=>True
 | k::ks,x::xs,y::ys=>YX k x y/\obK ks xs ys
 | _,_,_=>False
theorem ZD {P:Program} {t:TypeId} {k:Option IntKind × Bool} (h:Za8 P t=some k) (x y:AV):Ju P t x y=YX k x y:=by
 have b:∀ j,LV P t=some j->CL P t=false/\Lt P t=false:=fun j hj=>by
  unfold LV at hj
  unfold CL Lt
  split at hj
  ·rename_i q;rw [q];exact ⟨rfl,rfl⟩
  ·cases hj
 have c:CL P t=true->Lt P t=false:=fun hj=>by
  unfold CL at hj
  unfold Lt
  split at hj
  ·rename_i q;rw [q]
  ·cases hj
 unfold Za8 at h
 unfold Ju YX
 cases hi:LV P t with
 | some j =>
  obtain ⟨q1,q2⟩:=b j hi
  rw [hi] at h
  cases h
  rw [q1,q2]
  split<;>simp
 | none =>
  rw [hi] at h
  simp only at h
  by_cases hs:CL P t=true
  ·rw [Ad hs] at h
   cases h
   rw [hs,c hs]
   split<;>simp
  ·rw [Ae hs] at h
   have a:CL P t=false:=by simpa using hs
   by_cases hb:Lt P t=true
   ·rw [Ad hb] at h
    cases h
    rw [a,hb]
    split<;>simp
   ·rw [Ae hb] at h;cases h
theorem YY {P:Program}:∀ (fs:List Field) (i:Nat) (ks:List (Option IntKind × Bool)),RV P fs i=some ks->∀ xs ys,Vw P fs i xs ys=obK ks xs ys
 | [],i,ks,h,xs,ys=>by
  cases h
  cases xs<;>cases ys<;>simp [Vw,obK]
 | f::fs,i,ks,h,xs,ys=>by
  unfold RV at h
  split at h
  ·rename_i q
   split at h
   ·rename_i k ks' h1 h2
    cases h
    cases xs with
    | nil=>cases ys<;>simp [Vw,obK]
    | cons x xs=>cases ys with
     | nil=>simp [Vw,obK]
     | cons y ys =>
      simp only [Vw,obK,YY fs (i+1) ks' h2 xs ys,ZD h1,q,true_and]
      simp [q.1]
   ·cases h
  ·cases h
theorem Zt {P:Program} {t:TypeId} {ks:List (Option IntKind × Bool)} (h:ZbG P t=some ks) (xs ys:List AV):Rt P .neq t xs ys=(obK ks xs ys,!P4 xs ys):=by
 unfold ZbG at h
 split at h
 ·rename_i fs q
  simp only [Rt,q,YY fs 0 ks h]
 ·cases h
attribute [go_sem] YX obK
end Go.Ev
