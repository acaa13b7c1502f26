/-
  Part 6 of the proof: rules and walks that the claim's last text uses.
-/
import Derived.Deep.LoopGhost
import Derived.Deep.RegionLaw
import Derived.Lib.SliceRun
import Derived.Lib.Walk
import Derived.Shelf.RegionOpenPlain
import Derived.Shelf.SlBodiesN
import Derived.WalkKit
import Derived.Test.YtgpmlelfkjfbiaaGreatDoorSr5
set_option linter.unusedSimpArgs false
set_option linter.unusedVariables false
set_option maxRecDepth 100000
set_option maxHeartbeats 4000000
namespace Go.Ev
open Go Go.RowKit Go.Shelf Go.Lib Go.Proofs
theorem Hn (P:Program) {w:World} {b:Nat} {cur:Array Value} {te:TypeId} (h:w.heap[b]? = some (.cells cur te (0,0))) (o:Nat) (vs:List Value) (hl:o+vs.length≤cur.size) (h1:∀ v∈vs,v.oneCell'=true) :
  w.setCells b o vs=w.setRow b (cur.toList.take o++vs++cur.toList.drop (o+vs.length)).toArray:=by
 have c:=run_storeCells_at P b o te vs 0 cur w h (by simpa using hl) h1
 have a:=run_storeCells_cells (P:=P) b o vs 0 w (fun j d=>by rw [cell_of_row w b _ cur te _ h,Array.getElem?_eq_getElem (by omega)];rfl) (fun j d=>by simp [World.frozen?,h]) h1
 simp only [Nat.add_zero] at c a
 rw [c] at a
 injection a with _ q
 exact q.symm
theorem Xn (w:World) (c c':Array Value) (te:TypeId):(w.alloc (.cells c te)).setRow w.heap.size c'=w.alloc (.cells c' te):=by
 unfold World.setRow World.alloc
 congr 1
 apply Array.ext
 ·simp
 ·intro i d b
  simp only [Array.getElem_modify]
  split
  ·subst i;simp
  ·rename_i hne
   have a:i<w.heap.size:=by
    have:i<w.heap.size+1:=by simpa using b
    omega
   rw [Array.getElem_push_lt a,Array.getElem_push_lt a]
theorem ZcJ {α:Type} (A V:List α) (i n m:Nat) (hi:i≤n) (hA:n+m≤A.length) (hV:V.length=m) :
  (A.take (i+m)++(A.take n).drop i++A.drop (n+m)).take i++V++(A.take (i+m)++(A.take n).drop i++A.drop (n+m)).drop (i+m)=A.take i++V++(A.take n).drop i++A.drop (n+m):=by
 have e:(A.take (i+m)).length=i+m:=by rw [List.length_take];omega
 rw [List.append_assoc (A.take (i+m)),List.take_append_of_le_length (by omega),List.take_take,Nat.min_eq_left (by omega),List.drop_append_of_le_length (by omega),List.drop_of_length_le (by omega),List.nil_append]
 simp only [List.append_assoc]
section
variable {P:Program} {w0:World} {ρ:Ren} {nm:String} {sz bytes:Nat} {z:Value} {st:St} {M:Mem} {w:World}
theorem ZkM {A V rest:List Value} {cs Y:List AV} {i n m:Nat} (hi:i≤n) (hA:n≤A.length) (hc:cs.length=n) (hV:V.length=m) (hY:Y.length=m) (ha:∀ (j:Nat) (v:Value) (x:AV),A[j]? = some v→cs[j]? = some x→R w0 M w v x) (hv:∀ (j:Nat) (v:Value) (x:AV),V[j]? = some v→Y[j]? = some x→R w0 M w v x) :
  ∀ (j:Nat) (v:Value) (x:AV),(A.take i++V++(A.take n).drop i++rest)[j]? = some v→(cs.take i++Y++cs.drop i)[j]? = some x→R w0 M w v x:=by
 intro j v x a b
 have c:(A.take i).length=i:=by rw [List.length_take];omega
 have e:(cs.take i).length=i:=by rw [List.length_take];omega
 have f:((A.take n).drop i).length=n-i:=by rw [List.length_drop,List.length_take];omega
 simp only [List.append_assoc] at a b
 by_cases q:j<i
 ·rw [List.getElem?_append_left (by omega),List.getElem?_take,Ae q] at a b
  exact ha j v x a b
 rw [List.getElem?_append_right (by omega),c] at a
 rw [List.getElem?_append_right (by omega),e] at b
 by_cases q2:j-i<m
 ·rw [List.getElem?_append_left (by omega)] at a b
  exact hv _ v x a b
 rw [List.getElem?_append_right (by omega),hV] at a
 rw [List.getElem?_append_right (by omega),hY,List.getElem?_drop] at b
 have d:=(Ag.1 b).1
 rw [List.getElem?_append_left (by omega),List.getElem?_drop,List.getElem?_take,Ae (by omega)] at a
 exact ha _ v x a b
theorem Zad (L:InsLay P ρ nm sz bytes z) (hzc:z.cells.size=sz) (h0:0<sz) {id ver n i:Nat} {cs ys:List AV} {ow:Own} (hrow:st.rows[id]? = some (.vec ver sz cs)) (hcs:cs.length=n*sz) (hi:i<n) (hm:0<ys.length)
  (hx:∀ y∈ys,y.cells.length=sz∧A5 y=true) (hb:(n+ys.length)*bytes≤140737488355328) (hb2:n+ys.length≤4611686018427387904) {v0 vx:Value} (hst:RelSt w0 M st w) (hv0:R w0 M w v0 (.vec id ver 0 n)) (hvx:R w0 M w vx (.list ys ow)) :
  Calls P (ρ.f 22) #[v0,.int .i64 i,vx] w (Comes' w0 M w fun r s=>r = .vec id (ver+1) 0 (n+ys.length)∧s={ st with rows:=st.rows.set id (.vec (ver+1) sz (cs.take (i*sz)++ys.flatMap (fun y=>y.pub.cells)++cs.drop (i*sz))) }):=by
 have D:id<M.NR:=by rw [hst.NR];exact (Ag.1 hrow).1
 obtain ⟨f1,f2,f3,f4,f5,f6,f7,cur,te,f8,f9,bh,ak,az⟩:=hst.row id _ hrow
 cases hv0 with
 | @vec _ _ _ _ p cap hid' hver hh =>
 obtain ⟨rfl,hcap,aw⟩:=hh f1.symm
 simp only [Nat.add_zero,Nat.zero_mul] at hcap ⊢
 subst hcap
 have am:∀ (b o c:Nat),vx = .slice (some ⟨b,o,none⟩) ys.length c→M.imm w0 b o:=by
  cases hvx with
  | nil _=>simp at hm
  | emp _=>simp at hm
  | @list b0 off0 cap0 _ _ sz2 us hc hm' g hu ho =>
   intro b o c e
   have e0:=(g 0 hm).1
   have e1:=(hu 0 hm).cells.1
   have e2:=(hx _ (List.getElem_mem hm)).1
   have:=((g 0 hm).2 0 (by omega)).1
   cases e
   simpa using this
 obtain ⟨ux,x1,x2⟩:=hvx.list_open (fun y Q=>(hx y Q).1)
 have ar:∀ i,i<ys.length→(ux i).cells.size=sz:=fun i hi=>(x1 i hi).1
 rcases x2 with ⟨_,q,_⟩ | ⟨bx,ox,cx',sz',rfl,hxc,hxm,_,hcx⟩
 ·subst q;simp at hm
 have a0:M.imm w0 bx ox:=am bx ox cx' rfl
 have V:bx≠M.blk id:=by
  intro q
  rcases a0 with k | k
  ·rw [q] at k;omega
  ·rw [q,f4] at k;omega
 have au:=Gy (w:=w) ar h0 hcx
 have m:(flat ux ys.length).length=ys.length*sz:=AW ar
 have ax:(ys.flatMap fun y=>y.pub.cells).length=ys.length*sz:=MO (fun y Q=>(hx y Q).1)
 have ae:=Xb (fun i hi=>(x1 i hi).2) (fun y Q=>(hx y Q).2)
 have O:∀ v∈flat ux ys.length,v.oneCell'=true:=Uu x1 (fun y Q=>(hx y Q).2)
 have ad:i*sz≤n*sz:=Nat.mul_le_mul_right _ (by omega)
 have ag:n*sz≤cur.size:=by rw [f9];exact Nat.mul_le_mul_right _ aw
 have a6:0<ys.length*sz:=Nat.mul_pos hm h0
 have bb:0<n*sz:=Nat.mul_pos (by omega) h0
 have h:(cur.toList.take (n*sz)).length=n*sz:=by simp;omega
 have C:∀ v∈cur.toList.take (n*sz),v.oneCell'=true:=by
  intro v hv
  obtain ⟨k,hk,rfl⟩:=List.mem_iff_getElem.1 hv
  rw [h] at hk
  rw [List.getElem_take,Array.getElem_toList]
  exact (az k (by omega) (by omega)).oneCell (ak _ (List.getElem_mem _))
 have g:∀ j v,(cur.toList.take (n*sz))[j]? = some v→w.cell? ⟨M.blk id,0+j,none⟩=some v:=by
  intro j u hj
  rw [List.getElem?_take] at hj
  split at hj
  ·rw [Nat.zero_add,cell_of_row w _ j cur te _ f8,←Array.getElem?_toList];exact hj
  ·cases hj
 have ai:∀ j v,(flat ux ys.length)[j]? = some v→w.cell? ⟨bx,ox+j,none⟩=some v:=fun j v hj=>by
  have:=au j v hj
  rwa [E4] at this
 have ab:∀ x∈cs.take (i*sz)++ys.flatMap (fun y=>y.pub.cells)++cs.drop (i*sz),x.one=true:=by
  intro x hx
  rcases List.mem_append.1 hx with hx | hx
  ·rcases List.mem_append.1 hx with hx | hx
   ·exact ak x (List.mem_of_mem_take hx)
   ·exact ae x hx
  ·exact ak x (List.mem_of_mem_drop hx)
 have K:(n+ys.length)*sz=n*sz+ys.length*sz:=Nat.add_mul ..
 have aq:(cs.take (i*sz)++ys.flatMap (fun y=>y.pub.cells)++cs.drop (i*sz)).length=(n+ys.length)*sz:=by
  rw [List.length_append,List.length_append,ax,List.length_take,List.length_drop,K];omega
 have E:∀ (cells:Array Value) (rest:List Value),cells.toList=cur.toList.take (i*sz)++flat ux ys.length++(cur.toList.take (n*sz)).drop (i*sz)++rest→∀ (k:Nat) (v:Value) (x:AV),cells[k]? = some v→(cs.take (i*sz)++ys.flatMap (fun y=>y.pub.cells)++cs.drop (i*sz))[k]? = some x→R w0 M w v x:=by
  intro cells rest a4 k v x a2 a8
  rw [←Array.getElem?_toList,a4] at a2
  refine ZkM (A:=cur.toList) (rest:=rest) ad (by simpa using ag) hcs m ax (fun j v x h1 h2=>?_) (fun j v x h1 h2=>Zfz h0 x1 (fun y Q=>(hx y Q).1) h1 h2) k v x a2 a8
  rw [Array.getElem?_toList] at h1
  obtain ⟨q1,rfl⟩:=Array.getElem?_eq_some_iff.1 h1
  obtain ⟨q2,rfl⟩:=Ag.1 h2
  exact az j q1 q2
 obtain ⟨d1,d2⟩:=hst.drew
 by_cases hroom:n+ys.length≤M.cap id
 ·-- there is room
  have ap:n*sz+ys.length*sz≤cur.size:=by rw [f9,←K];exact Nat.mul_le_mul_right _ hroom
  have bd:∃ tA kA,w.shape? bx=some (tA,kA)∧kA≠0:=by
   have:=ai 0 _ (List.getElem?_eq_getElem (by omega))
   unfold World.cell? at this
   unfold World.shape?
   cases hq:w.heap[bx]? with
   | none=>simp [hq] at this
   | some o =>
    cases o with
    | cells c t f =>
     refine ⟨_,_,rfl,fun q=>?_⟩
     simp [hq] at this
     have:=(Array.getElem?_eq_some_iff.1 this).1
     omega
    | _=>simp [hq] at this
  obtain ⟨tA,kA,ba,be⟩:=bd
  refine (Zb8 L (M.blk id) 0 n (M.cap id) i bx ox ys.length cx' (cur.toList.take (n*sz)) (flat ux ys.length) w hi hm hroom (by unfold maxLen at f6;omega) V h m g
   (fun j hj=>by rw [Nat.zero_add,cell_of_row w _ j cur te _ f8,Array.getElem?_eq_getElem (by omega)];rfl) (fun j hj=>by simp [World.frozen?,f8]) ai C O tA te kA cur.size ba (by simp [World.shape?,f8]) be (by omega) (fun j=>by simp [World.frozen?,f8])).mono ?_
  rintro en w' ⟨rfl,rfl⟩
  have F:w.drew.heap[M.blk id]? = some (.cells cur te (0,0)):=f8
  have H:((cur.toList.take (n*sz)).drop (i*sz)).length=n*sz-i*sz:=by rw [List.length_drop,h]
  rw [Hn P F _ _ (by rw [H];omega) (fun v hv=>C v (List.mem_of_mem_drop hv))]
  have a9:=setRow_heap w.drew (M.blk id) cur (cur.toList.take (0+(i*sz+ys.length*sz))++(cur.toList.take (n*sz)).drop (i*sz)++cur.toList.drop (0+(i*sz+ys.length*sz)+((cur.toList.take (n*sz)).drop (i*sz)).length)).toArray te _ F
  rw [Hn P a9 _ _ (by simp only [List.size_toArray,List.length_append,List.length_take,List.length_drop,Array.length_toList];omega) O,setRow_setRow]
  have hL:=ZcJ cur.toList (flat ux ys.length) (i*sz) (n*sz) (ys.length*sz) ad (by simpa using ap) m
  have e1:0+(i*sz+ys.length*sz)+((cur.toList.take (n*sz)).drop (i*sz)).length=n*sz+ys.length*sz:=by rw [H];omega
  have e2:0+i*sz+(flat ux ys.length).length=i*sz+ys.length*sz:=by rw [m];omega
  rw [e2,e1]
  simp only [Nat.zero_add]
  rw [hL]
  generalize hc':(cur.toList.take (i*sz)++flat ux ys.length++(cur.toList.take (n*sz)).drop (i*sz)++cur.toList.drop (n*sz+ys.length*sz)).toArray=cur'
  have Z:cur'.size=cur.size:=by rw [←hc'];simp only [List.size_toArray,List.length_append,List.length_take,List.length_drop,Array.length_toList,m];omega
  have d:Ext w0 M w.drew (M.growRow id (M.blk id) (M.cap id) (ver+1) 0) (w.drew.setRow (M.blk id) cur'):=by
   refine I6 (M:=M) (M.growRow id (M.blk id) (M.cap id) (ver+1) 0) rfl (fun _ _=>rfl) rfl (fun i hi=>?_) (fun b=>?_) F f3 (fun j hj=>by rw [f4] at hj;omega)
   ·by_cases c:i=id
    ·subst c
     simp only [Mem.growRow,if_true,f1]
     exact ⟨by omega,fun q=>absurd q (by omega)⟩
    ·simp only [Mem.growRow,Af c]
     exact ⟨Nat.le_refl _,fun _=>⟨trivial,trivial,trivial⟩⟩
   ·simp only [Mem.growRow]
    split
    ·rename_i c
     rw [c,f4]
     exact Nat.le_refl _
    ·exact Nat.le_refl _
  have a3:=hst.row_lt D
  have q:(M.growRow id (M.blk id) (M.cap id) (ver+1) 0).fr id=ver+1∧(M.growRow id (M.blk id) (M.cap id) (ver+1) 0).blk id=M.blk id∧(M.growRow id (M.blk id) (M.cap id) (ver+1) 0).cap id=M.cap id∧(M.growRow id (M.blk id) (M.cap id) (ver+1) 0).rsz id=M.rsz id∧(M.growRow id (M.blk id) (M.cap id) (ver+1) 0).top (M.blk id)=0:=by simp [Mem.growRow]
  obtain ⟨q1,q2,q3,q4,q5⟩:=q
  have J:=d1.growRow' hrow (x := .vec (ver+1) sz (cs.take (i*sz)++ys.flatMap (fun y=>y.pub.cells)++cs.drop (i*sz))) (w':=w.drew.setRow (M.blk id) cur') (b:=M.blk id) (cap:=M.cap id) (k:=ver+1) (tp:=0) (Below.setRow (Below.refl _ _) f3 _) (by simp) (by simpa using a3)
   (fun l hl=>⟨f5 l hl,setRow_other w.drew _ _ _ (f5 l hl)⟩) (fun i hi V=>by
    have:M.blk i≠M.blk id:=fun q=>V (hst.rowinj i id hi D q)
    exact ⟨this,setRow_other w.drew _ _ _ this⟩) (by
    simp only [RowOk,q1,q2,q3,q4,q5]
    exact ⟨trivial,f2,f3,trivial,f5,f6,h0,cur',te,setRow_heap w.drew _ cur cur' te _ F,Z.trans f9,by rw [aq,Z,f9];exact Nat.mul_le_mul_right _ hroom,ab,
     fun i a b=>((E cur' _ (by rw [←hc']) i _ _ (Array.getElem?_eq_getElem a) (List.getElem?_eq_getElem b)).mono d2).mono d⟩) d (KeepsObj.setRow F _)
  exact ⟨_,_,_,_,rfl,⟨rfl,rfl⟩,d2.trans d,J,.vec D (by rw [q1];exact Nat.le_refl _) fun _=>⟨by rw [q2];simp,by rw [q3];rfl,hroom⟩⟩
 ·-- a new block
  refine (ZcX L hzc h0 (M.blk id) 0 n (M.cap id) i bx ox ys.length cx' (cur.toList.take (n*sz)) (flat ux ys.length) w hi hm aw (by omega) hb hb2 h m g ai C O).mono ?_
  rintro en w' ⟨rfl,rfl⟩
  have ah:n+ys.length≤maxLen:=by simp [maxLen];omega
  have aj:=grownCap_ge w (n+ys.length) (M.cap id) (ρ.t 9)
  have av:=grownCap_le_maxLen w (n+ys.length) (M.cap id) (ρ.t 9) ah
  generalize grownCap w (n+ys.length) (M.cap id) (ρ.t 9)=gc at *
  generalize hROW:((cur.toList.take (n*sz)).take (i*sz)).toArray++Builtin.zeroCells z.cells (n+ys.length-i)++Builtin.zeroCells z.cells (gc-(n+ys.length))=ROW
  have a5:(n+ys.length-i)*sz=n*sz+ys.length*sz-i*sz:=by rw [Nat.sub_mul,K]
  have bi:(gc-(n+ys.length))*sz=gc*sz-(n*sz+ys.length*sz):=by rw [Nat.sub_mul,K]
  have bj:n*sz+ys.length*sz≤gc*sz:=by rw [←K];exact Nat.mul_le_mul_right _ aj
  have ao:ROW.size=gc*sz:=by
   rw [←hROW]
   simp only [Array.size_append,List.size_toArray,List.length_take,size_zeroCells,hzc,Array.length_toList]
   omega
  have H:((cur.toList.take (n*sz)).drop (i*sz)).length=n*sz-i*sz:=by rw [List.length_drop,h]
  have hX:(w.alloc (.cells ROW (ρ.t 9))).drew.heap[w.heap.size]? = some (.cells ROW (ρ.t 9) (0,0)):=heap_alloc_new w _
  rw [Hn P hX _ _ (by rw [m,ao];omega) O]
  have hX1:=setRow_heap (w.alloc (.cells ROW (ρ.t 9))).drew w.heap.size ROW (ROW.toList.take (i*sz)++flat ux ys.length++ROW.toList.drop (i*sz+(flat ux ys.length).length)).toArray (ρ.t 9) _ hX
  generalize hc1:(ROW.toList.take (i*sz)++flat ux ys.length++ROW.toList.drop (i*sz+(flat ux ys.length).length)).toArray=c1 at hX1 ⊢
  have bc:((w.alloc (.cells ROW (ρ.t 9))).drew.setRow w.heap.size c1).drew.heap[w.heap.size]? = some (.cells c1 (ρ.t 9) (0,0)):=hX1
  have Y:c1.size=gc*sz:=by
   rw [←hc1]
   simp only [List.size_toArray,List.length_append,List.length_take,List.length_drop,Array.length_toList,m,ao]
   omega
  rw [Hn P bc _ _ (by rw [H,Y];omega) (fun v hv=>C v (List.mem_of_mem_drop hv))]
  generalize hc2:(c1.toList.take (i*sz+ys.length*sz)++(cur.toList.take (n*sz)).drop (i*sz)++c1.toList.drop (i*sz+ys.length*sz+((cur.toList.take (n*sz)).drop (i*sz)).length)).toArray=cells
  have hW:(((w.alloc (.cells ROW (ρ.t 9))).drew.setRow w.heap.size c1).drew).setRow w.heap.size cells=w.drew.drew.alloc (.cells cells (ρ.t 9)):=by
   have a1:((w.alloc (.cells ROW (ρ.t 9))).drew.setRow w.heap.size c1).drew=(w.drew.drew.alloc (.cells ROW (ρ.t 9))).setRow w.heap.size c1:=rfl
   rw [a1,setRow_setRow]
   exact Xn w.drew.drew ROW cells (ρ.t 9)
  rw [hW]
  have G:cells.size=gc*sz:=by
   rw [←hc2]
   simp only [List.size_toArray,List.length_append,List.length_take,List.length_drop,Array.length_toList,H,Y]
   omega
  have af:(cur.toList.take (n*sz)).take (i*sz)=cur.toList.take (i*sz):=by rw [List.take_take,Nat.min_eq_left ad]
  have bg:(cur.toList.take (i*sz)).length=i*sz:=by simp;omega
  have bf:ROW.toList.take (i*sz)=cur.toList.take (i*sz):=by
   rw [←hROW,af]
   simp only [Array.toList_append,List.append_assoc]
   rw [List.take_append_of_le_length (by omega),List.take_of_length_le (by omega)]
  have U:cells.toList=cur.toList.take (i*sz)++flat ux ys.length++(cur.toList.take (n*sz)).drop (i*sz)++c1.toList.drop (i*sz+ys.length*sz+((cur.toList.take (n*sz)).drop (i*sz)).length):=by
   have e:c1.toList.take (i*sz+ys.length*sz)=cur.toList.take (i*sz)++flat ux ys.length:=by
    rw [←hc1,bf]
    simp only [List.append_assoc]
    rw [←List.append_assoc,List.take_append_of_le_length (by rw [List.length_append,m];omega),List.take_of_length_le (by rw [List.length_append,m];omega)]
   rw [←hc2,←e]
  obtain ⟨a7,ay⟩:=d1.drew
  have d:Ext w0 M w.drew.drew (M.growRow id w.drew.drew.heap.size gc (ver+1) 0) (w.drew.drew.alloc (.cells cells (ρ.t 9))):=by
   refine Pz _ _ (.inl rfl) (fun _ _=>rfl) (Nat.le_refl _) (fun i hi=>?_) (fun b hb=>?_)
   ·by_cases c:i=id
    ·subst c
     simp only [Mem.growRow,if_true,f1]
     exact ⟨by omega,fun q=>absurd q (by omega)⟩
    ·simp only [Mem.growRow,Af c]
     exact ⟨Nat.le_refl _,fun _=>⟨trivial,trivial,trivial⟩⟩
   ·simp only [Mem.growRow]
    rw [Af (by omega)]
    exact Nat.le_refl _
  have q:(M.growRow id w.drew.drew.heap.size gc (ver+1) 0).fr id=ver+1∧(M.growRow id w.drew.drew.heap.size gc (ver+1) 0).blk id=w.drew.drew.heap.size∧(M.growRow id w.drew.drew.heap.size gc (ver+1) 0).cap id=gc∧(M.growRow id w.drew.drew.heap.size gc (ver+1) 0).rsz id=M.rsz id∧(M.growRow id w.drew.drew.heap.size gc (ver+1) 0).top w.drew.drew.heap.size=0:=by simp [Mem.growRow]
  obtain ⟨q1,q2,q3,q4,q5⟩:=q
  have aa:∀ l,l<M.N→M.bx l≠w.drew.drew.heap.size:=fun l hl=>by have:=hst.box_lt hl;intro q;simp at q;omega
  have J:=a7.growRow' hrow (x := .vec (ver+1) sz (cs.take (i*sz)++ys.flatMap (fun y=>y.pub.cells)++cs.drop (i*sz))) (w':=w.drew.drew.alloc (.cells cells (ρ.t 9))) (b:=w.drew.drew.heap.size) (cap:=gc) (k:=ver+1) (tp:=0) ((Below.refl _ w.drew.drew).alloc hst.base_le _) (by simp) (by simp)
   (fun l hl=>by have:=hst.box_lt hl;exact ⟨aa l hl,BL _ _ this⟩) (fun i hi V=>by have:=hst.row_lt hi;exact ⟨fun q=>by simp at q;omega,BL _ _ this⟩) (by
    simp only [RowOk,q1,q2,q3,q4,q5]
    exact ⟨trivial,f2,hst.base_le,trivial,aa,av,h0,cells,ρ.t 9,heap_alloc_new w.drew.drew _,G,by rw [aq,G];exact Nat.mul_le_mul_right _ aj,ab,
     fun i a b=>(((E cells _ U i _ _ (Array.getElem?_eq_getElem a) (List.getElem?_eq_getElem b)).mono d2).mono ay).mono d⟩) d (KeepsObj.alloc _ _)
  exact ⟨_,_,_,_,rfl,⟨rfl,rfl⟩,(d2.trans ay).trans d,J,.vec D (by rw [q1];exact Nat.le_refl _) fun _=>⟨by rw [q2];simp,by rw [q3];rfl,aj⟩⟩
theorem YE {t el:TypeId} {ag:Bool} {o:VO} {n:Nat} {cs ys:List AV} {ow:Own} (he:Kq P t=some (el,sz,ag,bytes)) (hz:(C5 P el).isSome=true) (h0:0<sz) (hV:VAt 0 st.rows (o,sz,cs)) (hcs:cs.length=n*sz) (hm:0<ys.length)
  (hx:∀ y∈ys,y.cells.length=sz∧A5 y=true) (hb:(n+ys.length)*bytes≤140737488355328) (hb2:n+ys.length≤4611686018427387904) :
  (BA P st t (J5 o n) (.list ys ow)).1∧(BA P st t (J5 o n) (.list ys ow)).2.1=J5 (PN o st.rows) (n+ys.length)∧(BA P st t (J5 o n) (.list ys ow)).2.2={ st with rows:=Q1 o st.rows sz (cs++ys.flatMap fun y=>y.pub.cells) }:=by
 cases o with
 | nil =>
  rcases hV with ⟨_,q⟩ | ⟨id,ver,q,_⟩
  ·have q:cs=[]:=q
   subst q
   have en:n=0:=by
    rcases Nat.eq_zero_or_pos n with k | k
    ·exact k
    ·have:=Nat.mul_pos k h0
     simp at hcs;omega
   subst en
   rw [Nat.zero_add] at hb hb2
   simp only [J5,BA,he,AY,CE,CP,hz,PN,Q1,List.length_nil,List.nil_append,Nat.zero_add,true_and,and_true]
   exact ⟨⟨h0,hb,hb2,hx⟩,hm⟩
  ·cases q
 | row id ver =>
  rcases hV with ⟨q,_⟩ | ⟨id',ver',q,_,a⟩
  ·cases q
  ·cases q
   have hv:EW st.rows id ver=some (sz,cs):=by
    have a:st.rows[id]? = some (.vec ver sz cs):=a
    simp only [EW,a,if_true]
   have b:cs.take (n*sz)=cs:=List.take_of_length_le (by omega)
   simp only [J5,BA,he,hv,AY,CE,CP,hz,PN,Q1,b,Nat.le_of_eq hcs.symm,true_and,and_true]
   exact ⟨h0,hb,hb2,hx⟩
theorem Zas (L:InsLay P ρ nm sz bytes z) (hen:J0 P (ρ.f 22)) {ag:Bool} (he:Kq P (ρ.t 24)=some (ρ.t 9,sz,ag,bytes)) (hz:(C5 P (ρ.t 9)).isSome=true) (hzc:z.cells.size=sz) (h0:0<sz) {o:VO} {n i:Nat} {cs ys:List AV} {ow:Own}
  (hV:VAt 0 st.rows (o,sz,cs)) (hcs:cs.length=n*sz) (hi:i≤n) (hm:0<ys.length)
  (hx:∀ y∈ys,y.cells.length=sz∧A5 y=true) (hb:(n+ys.length)*bytes≤140737488355328) (hb2:n+ys.length≤4611686018427387904) :
  ACalls P w0 (ρ.f 22) [J5 o n,.val (.int .i64 i),.list ys ow] st fun r s=>r=J5 (PN o st.rows) (n+ys.length)∧s={ st with rows:=Q1 o st.rows sz (cs.take (i*sz)++ys.flatMap (fun y=>y.pub.cells)++cs.drop (i*sz)) }:=by
 refine ⟨hen,fun M w j m d=>?_⟩
 obtain ⟨v0,v1,vx,rfl⟩:∃ v0 v1 vx,j = #[v0,v1,vx]:=by
  have:=d.1
  simp only [List.length_cons,List.length_nil] at this
  obtain ⟨l⟩:=j
  match l,this with
  | [a,b,c],_=>exact ⟨a,b,c,rfl⟩
 have hv0:R w0 M w v0 (J5 o n):=d.2 0 (by simp) (by simp)
 have F:R w0 M w v1 (.val (.int .i64 i)):=d.2 1 (by simp) (by simp)
 have hvx:R w0 M w vx (.list ys ow):=d.2 2 (by simp) (by simp)
 obtain ⟨rfl,_⟩:=F.val_inv
 by_cases hin:i<n
 ·-- in the middle
  cases o with
  | nil =>
   rcases hV with ⟨_,q⟩ | ⟨id,ver,q,_⟩
   ·have q:cs=[]:=q
    rw [q] at hcs
    have:=Nat.mul_pos (show 0<n by omega) h0
    simp at hcs;omega
   ·cases q
  | row id ver =>
   rcases hV with ⟨q,_⟩ | ⟨id',ver',q,_,q3⟩
   ·cases q
   ·cases q
    exact Zad L hzc h0 q3 hcs hin hm hx hb hb2 m hv0 hvx
 ·have hin:i=n:=by omega
  subst hin
  -- at the end: as append
  obtain ⟨g1,g2,g3⟩:=YE (st:=st) (ow:=ow) he hz h0 hV hcs hm hx hb hb2
  have Z:Rel w0 2 M [(0,true,J5 o i),(1,true,.list ys ow)] st ⟨#[v0,vx],[]⟩ w:=⟨m,rfl,fun s x hs=>by
   simp only [D2] at hs
   split at hs
   ·subst s;cases hs;simpa [entryOk] using hv0
   ·split at hs
    ·subst s;cases hs;simpa [entryOk] using hvx
    ·cases hs⟩
  obtain ⟨v,J,M',g,V,K,H⟩:=WO Z (.tmp 0) (.tmp 1) (ρ.t 24) (ρ.t 24) (by simp [AP,D2]) (by simp [AP,D2]) g1
  have a0:(⟨#[v0,vx],[]⟩:Act).eval (.tmp 0)=v0:=rfl
  have a1:(⟨#[v0,vx],[]⟩:Act).eval (.tmp 1)=vx:=rfl
  rw [a0,a1] at g
  have E:(BA P st (ρ.t 24) (Ar [(0,true,J5 o i),(1,true,AV.list ys ow)] (.tmp 0)) (Ar [(0,true,J5 o i),(1,true,AV.list ys ow)] (.tmp 1))).2.1=J5 (PN o st.rows) (i+ys.length):=g2
  have G:(BA P st (ρ.t 24) (Ar [(0,true,J5 o i),(1,true,AV.list ys ow)] (.tmp 0)) (Ar [(0,true,J5 o i),(1,true,AV.list ys ow)] (.tmp 1))).2.2={ st with rows:=Q1 o st.rows sz (cs++ys.flatMap fun y=>y.pub.cells) }:=g3
  rw [G] at K
  rw [E] at H
  have Y:cs.take (i*sz)=cs:=List.take_of_length_le (by omega)
  have hd:cs.drop (i*sz)=[]:=List.drop_of_length_le (by omega)
  rw [Y,hd,List.append_nil]
  have C:(Builtin.append_ #[ρ.t 24,ρ.t 24] (ρ.t 24) #[v0,vx]).run P w = .ok v J:=by
   cases hq:(Builtin.append_ #[ρ.t 24,ρ.t 24] (ρ.t 24) #[v0,vx]).run P w with
   | ok u w1 =>
    rcases g with g | ⟨g,_⟩
    ·simp [hq] at g
     rw [g.1,g.2]
    ·simp [hq] at g
   | _=>rcases g with g | ⟨g,_⟩<;>simp [hq] at g
  obtain ⟨ux,x1,x2⟩:=hvx.list_open (fun y U=>(hx y U).1)
  rcases x2 with ⟨_,q,_⟩ | ⟨bx,ox,cx',sz',rfl,_⟩
  ·subst q;simp at hm
  have h:∀ (base:Option Addr) (c:Nat),v0 = .slice base i c→i≤c→(base=none→i=0)→Calls P (ρ.f 22) #[v0,.int .i64 i,.slice (some ⟨bx,ox,none⟩) ys.length cx'] w (Comes' w0 M w fun r s=>r=J5 (PN o st.rows) (i+ys.length)∧s={ st with rows:=Q1 o st.rows sz (cs++ys.flatMap fun y=>y.pub.cells) }):=fun base c e N Q=>by
   subst e
   exact (Zfi L base i c ⟨bx,ox,none⟩ ys.length cx' w J v hm N Q (fun ty=>C)).mono fun en aa ⟨q1,q2⟩=>by
    subst q1;subst q2
    exact ⟨_,_,_,_,rfl,⟨rfl,rfl⟩,V,K,H⟩
  cases o with
  | nil =>
   have ez:i=0:=by
    rcases hV with ⟨_,q⟩ | ⟨id,ver,q,_⟩
    ·have q:cs=[]:=q
     rw [q] at hcs
     rcases Nat.eq_zero_or_pos i with k | k
     ·exact k
     ·have:=Nat.mul_pos k h0
      simp at hcs;omega
    ·cases q
   subst ez
   have hv0':R w0 M w v0 (.list [] .seed):=hv0
   cases hv0' with
   | nil _=>exact h none 0 rfl (Nat.le_refl _) (fun _=>rfl)
   | @emp a _ _=>exact h (some a) 0 rfl (Nat.le_refl _) (fun _=>rfl)
   | list sz us N=>exact h _ _ rfl (Nat.zero_le _) (fun _=>rfl)
  | row id ver =>
   rcases hV with ⟨q,_⟩ | ⟨id',ver',q,_,q3⟩
   ·cases q
   ·cases q
    have O:=(m.row id _ q3).1
    have hv0':R w0 M w v0 (.vec id ver 0 i):=hv0
    cases hv0' with
    | @vec _ _ _ _ p cap hid' hver hh =>
     obtain ⟨rfl,_,D⟩:=hh O.symm
     exact h _ _ rfl D (fun q=>nomatch q)
end
def IU:List Bool→List AV→List AV
 | b::m,a::l=>(if b=true then a.pubA else a)::IU m l
 | [],l=>l.map AV.pubA
 | _::_,[]=>[]
@[go_sem] theorem Zl5 (m:List Bool) (a:AV) (l:List AV):IU (true::m) (a::l)=a.pubA::IU m l:=rfl
@[go_sem] theorem Zle (m:List Bool) (a:AV) (l:List AV):IU (false::m) (a::l)=a::IU m l:=rfl
@[go_sem] theorem Zk4 (l:List AV):IU [] l=l.map AV.pubA:=rfl
@[go_sem] theorem ZlS (m:List Bool):IU m []=[]:=by cases m<;>rfl
theorem Uo:∀ (m:List Bool) (l:List AV),(IU m l).length=l.length∧∀ (i:Nat) (h1:i<(IU m l).length) (h2:i<l.length),(IU m l)[i]=l[i]∨(IU m l)[i]=l[i].pubA
 | [],l=>⟨by simp [IU],fun i h1 h2 => .inr (by simp [IU])⟩
 | b::m,[]=>⟨rfl,fun i h1 h2=>absurd h2 (by simp)⟩
 | b::m,a::l=>by
  obtain ⟨h1,h2⟩:=Uo m l
  refine ⟨by simp [IU,h1],fun i c d=>?_⟩
  cases i with
  | zero=>cases b with
   | true=>exact .inr rfl
   | false=>exact .inl rfl
  | succ i=>exact h2 i (by simpa [IU] using c) (by simpa using d)
section
variable {P:Program} {w0:World} {st:St} {f:FuncId}
theorem ACalls.mask {m:List Bool} {args args':List AV} {Post:AV→St→Prop} (h:ACalls P w0 f args' st Post) (he:IU m args=args'):ACalls P w0 f args st Post:=by
 subst he
 obtain ⟨j,n⟩:=Uo m args
 refine ⟨h.1,fun M w c g d=>h.2 M w c g ?_⟩
 obtain ⟨l,k⟩:=d
 refine ⟨by rw [j];exact l,fun i a b=>?_⟩
 have e:i<args.length:=by rw [←j];exact b
 rcases n i b e with q | q
 ·rw [q];exact k i a e
 ·rw [q];exact (k i a e).pubA
theorem Zdz {c d:Bool} {cs args args':List AV} {k:AV→St→Prop} (m:List Bool) (v:AV)
  (h:ACalls P w0 f args' st fun r s=>r=v∧s=st) (he:IU m (args++cs)=args') (hk:k v st):MK P w0 c d (.clo f cs) args st k := .inl ⟨v,fun _=>h.mask he,hk⟩
theorem WP {cs args args':List AV} {k:AV→St→Prop} (m:List Bool) (Post:AV→St→Prop)
  (h:ACalls P w0 f args' st Post) (he:IU m (args++cs)=args') (hk:∀ v s,Post v s→k v s):MK P w0 true false (.clo f cs) args st k := .inr ⟨rfl,Post,fun _=>h.mask he,fun v s a _=>hk v s (a rfl)⟩
end
def JH:List Bool→List AV→List AV
 | b::m,a::l=>(if b=true then a.pubCell else a)::JH m l
 | [],l=>l.map AV.pubCell
 | _::_,[]=>[]
@[go_sem] theorem Zl4 (m:List Bool) (a:AV) (l:List AV):JH (true::m) (a::l)=a.pubCell::JH m l:=rfl
@[go_sem] theorem Zlr (m:List Bool) (a:AV) (l:List AV):JH (false::m) (a::l)=a::JH m l:=rfl
@[go_sem] theorem Zl8 (l:List AV):JH [] l=l.map AV.pubCell:=rfl
@[go_sem] theorem Zly (m:List Bool):JH m []=[]:=by cases m<;>rfl
def pubS (m:List Bool):AV→AV
 | .agg cs => .agg (JH m cs)
 | x=>x
@[go_sem] theorem Zj8 (m:List Bool) (cs:List AV):pubS m (.agg cs) = .agg (JH m cs):=rfl
theorem Ui:∀ (m:List Bool) (l:List AV),(JH m l).length=l.length∧∀ (i:Nat) (h1:i<(JH m l).length) (h2:i<l.length),(JH m l)[i]=l[i]∨(JH m l)[i]=l[i].pubCell
 | [],l=>⟨by simp [JH],fun i h1 h2 => .inr (by simp [JH])⟩
 | b::m,[]=>⟨rfl,fun i h1 h2=>absurd h2 (by simp)⟩
 | b::m,a::l=>by
  obtain ⟨h1,h2⟩:=Ui m l
  refine ⟨by simp [JH,h1],fun i c d=>?_⟩
  cases i with
  | zero=>cases b with
   | true=>exact .inr rfl
   | false=>exact .inl rfl
  | succ i=>exact h2 i (by simpa [JH] using c) (by simpa using d)
theorem R.pubS {w0:World} {M:Mem} {w:World} (m:List Bool) {v:Value} {x:AV} (h:R w0 M w v x):R w0 M w v (pubS m x):=by
 cases h with
 | @agg us xs hl h1 h =>
  obtain ⟨e,f⟩:=Ui m xs
  refine .agg (by rw [e];exact hl) (fun x g=>?_) (fun i a b=>?_)
  ·obtain ⟨i,d,rfl⟩:=List.mem_iff_getElem.1 g
   have c:i<xs.length:=by rw [←e];exact d
   rcases f i d c with q | q
   ·rw [q];exact h1 _ (List.getElem_mem _)
   ·rw [q,AV.one_pubCell];exact h1 _ (List.getElem_mem _)
  ·have c:i<xs.length:=by rw [←e];exact b
   rcases f i b c with q | q
   ·rw [q];exact h i a c
   ·rw [q];exact (h i a c).pubCell
 | nil ho=>exact .nil ho
 | emp ho=>exact .emp ho
 | list sz us hc hm hcell hu ho=>exact .list sz us hc hm hcell hu ho
 | flat hf=>exact .flat hf
 | tup hl h=>exact .tup hl h
 | elem u k hcell hu=>exact .elem u k hcell hu
 | box hl=>exact .box hl
 | clo hl h=>exact .clo hl h
 | yld hk=>exact .yld hk
 | vec d hv h=>exact .vec d hv h
 | vel d hv h=>exact .vel d hv h
def ZbV (P:Program) (e:Env) (st:St):ResultVar→AV
 | .tmp t=>Ar e (.tmp t)
 | .cell t ty=>(Be P e true st (.load ty (.tmp t))).2.1
def Zg5 (mk:List Bool) (P:Program) (rs:List ResultVar) (Post:AV→St→Prop):AQ:=fun x e st =>
 match x with
 | .normal | .ret=>(∀ r∈rs,Uy P e st r)∧Post (pubS mk (Zt (rs.map (ZbV P e st)))) st
 | _=>False
attribute [go_sem] ZbV Zg5
section
variable {P:Program} {w0:World} {n:Nat} {M:Mem} {e:Env} {st:St} {a:Act} {w:World}
theorem Zax (mk:List Bool) (h:Rel w0 n M e st a w) {fn:Func} {rs:List ResultVar} (hfn:fn.results=rs.toArray) (hrs:∀ r∈rs,Uy P e st r) :
  ∃ v,(results fn a.tmps).run P w = .ok v w∧R w0 M w v (pubS mk (Zt (rs.map (ZbV P e st)))):=by
 let f:ResultVar→Sem Value:=fun
  | .tmp t=>pure (a.tmps.getD t undef)
  | .cell b t=>do loadVar t (← asAddr (a.tmps.getD b undef))
 have c:∀ r∈rs,∃ v,(f r).run P w = .ok v w∧R w0 M w v (ZbV P e st r):=by
  intro r d
  have:=hrs r d
  cases r with
  | tmp t=>exact ⟨_,rfl,Bh h (x := .tmp t) this⟩
  | cell b t =>
   obtain ⟨v,k,l⟩:=U6 h t (.tmp b) this
   exact ⟨v,k,l⟩
 classical
 let g:ResultVar→Value:=fun r=>if d:r∈rs then Classical.choose (c r d) else undef
 have j:∀ r∈rs,(f r).run P w = .ok (g r) w∧R w0 M w (g r) (ZbV P e st r):=by
  intro r d
  have:=Classical.choose_spec (c r d)
  have e:g r=Classical.choose (c r d):=by simp only [g,dif_pos d]
  rw [e];exact this
 have m:(fn.results.mapM f).run P w = .ok ((rs.map g).toArray) w:=by
  rw [hfn,Array.mapM_eq_mapM_toList]
  simp only [Sem.run_map,OP f g rs (fun r d=>(j r d).1),Result.andThen_ok]
 have i:(results fn a.tmps).run P w = .ok (if h:(rs.map g).toArray.size=1 then (rs.map g).toArray[0] else .tuple (rs.map g).toArray) w:=by
  unfold results
  simp only [Sem.run_bind]
  refine Eq.trans (congrArg (fun x=>Result.andThen x _) m) ?_
  simp only [Result.andThen_ok,Sem.run_pure]
 refine ⟨_,i,?_⟩
 exact R.pubS mk (Vv rs g fun r d=>(j r d).2)
theorem UG (mk:List Bool) {f:FuncId} {fn:Func} {c:Code} {args:List AV} {rs:List ResultVar} {Post:AV→St→Prop} (hf:P.funcs[f]? = some fn) (hb:fn.body=some c) (hrs:fn.results=rs.toArray) (hn:fn.ntmps=n)
  (hen:J0 P f) (ha:args.length≤n)
  (h:∀ (M0:Mem) (W0:World),M0.N=st.boxes.length→M0.NR=st.rows.length→M0.NL=st.loops.length→Calm st.boxes.length st.rows.length st.loops.length st→(∀ x∈args,Under st.boxes.length st.rows.length st.loops.length x) →
   GL P w0 n M0 W0 none c (Zg5 mk P rs Post) (Au 0 args) st):ACalls P w0 f args st Post:=by
 refine ⟨hen,fun M w a b d=>?_⟩
 have Q:a.size=args.length:=d.1
 have O:∀ x∈args,Under st.boxes.length st.rows.length st.loops.length x:=by
  intro x V
  obtain ⟨i,q,rfl⟩:=List.mem_iff_getElem.1 V
  have:=(d.get (i:=i) (Array.getElem?_eq_getElem (by omega)) (List.getElem?_eq_getElem q)).under
  rwa [b.N,b.NR,b.loop.NL] at this
 have k:Rel w0 n M (Au 0 args) st { tmps:=a++Array.replicate (fn.ntmps-a.size) undef,defers:=[] } w:=by
  refine ⟨b,by simp;omega,fun s x hs=>?_⟩
  obtain ⟨i,j,y,u,rfl⟩:=Ql _ _ _ _ hs
  have q:i<args.length:=(Ag.1 u).1
  have hs':s=i:=by omega
  subst hs'
  simp only [entryOk,if_true]
  have J:(a++Array.replicate (fn.ntmps-a.size) undef).getD s undef=a[s]'(by omega):=by
   simp [Array.getD_eq_getD_getElem?,Array.getElem?_append_left (show s<a.size by omega),Array.getElem?_eq_getElem (show s<a.size by omega)]
  rw [J]
  exact d.get (Array.getElem?_eq_getElem (by omega)) u
 refine SQ (n:=0) (callsIn_of_wp_marks hf hb trivial (wpIn_mono (h M w b.N b.NR b.loop.NL b.calm O 0 M _ w ⟨k,.refl _ _ _,[],by simp⟩) ?_))
 rintro ex p z ⟨M',o,l,j,m⟩
 have e:∀ (t:∀ r∈rs,Uy P o l r) (D:Post (pubS mk (Zt (rs.map (ZbV P o l)))) l),
   LeavesInM (FW none) 0 P fn p.tmps (Comes' w0 M w Post) p.defers .returning z:=by
  intro t D
  obtain ⟨Ds,U,Y,E⟩:=j.marks
  rw [Y]
  refine NG Ds M' z U E b.base_le j.rel.st j.ext fun G C H k3=>?_
  have g:Rel w0 n M' o l p G:=⟨C,j.rel.size,fun s x hs=>by
   have:=j.rel.env s x hs
   unfold entryOk at *
   split
   ·rename_i c;rw [Ae c] at this;exact k3 _ _ this
   ·rename_i c;rw [Af c] at this;exact this⟩
  obtain ⟨v,K,F⟩:=Zax mk g hrs t
  exact ⟨v,K,v,M',_,l,rfl,D,H,C,F⟩
 cases ex with
 | normal=>exact e m.1 m.2
 | ret=>exact e m.1 m.2
 | _=>exact m.elim
end
structure DelLay (P:Program) (ρ:Ren) (nm:String) (sz bytes:Nat) (z:Value):Prop where
 mixed:P.follows .mixedOrders=true
 nmo:(nm == "runtime.NumGoroutine")=false
 f45:P.funcs[ρ.f 45]? = some { SlBodyN.n45 ρ with name:=nm }
 t0:P.underlying (ρ.t 0)=some (TypeDesc.tuple #[])
 a0:∀ w,(isAgg (ρ.t 0)).run P w = .ok false w
 z0:∀ w,(Go.sizeOf (ρ.t 0)).run P w = .ok 1 w
 v0:∀ w,(zeroValue (ρ.t 0)).run P w = .ok (Value.tuple #[]) w
 t3:P.underlying (ρ.t 3)=some (TypeDesc.int IntKind.i64)
 a3:∀ w,(isAgg (ρ.t 3)).run P w = .ok false w
 z3:∀ w,(Go.sizeOf (ρ.t 3)).run P w = .ok 1 w
 v3:∀ w,(zeroValue (ρ.t 3)).run P w = .ok (Value.int IntKind.i64 0) w
 t4:P.underlying (ρ.t 4)=some (TypeDesc.bool)
 a4:∀ w,(isAgg (ρ.t 4)).run P w = .ok false w
 z4:∀ w,(Go.sizeOf (ρ.t 4)).run P w = .ok 1 w
 v4:∀ w,(zeroValue (ρ.t 4)).run P w = .ok (Value.bool false) w
 t22:P.underlying (ρ.t 22)=some (TypeDesc.slice (ρ.t 23))
 a22:∀ w,(isAgg (ρ.t 22)).run P w = .ok false w
 z22:∀ w,(Go.sizeOf (ρ.t 22)).run P w = .ok 1 w
 v22:∀ w,(zeroValue (ρ.t 22)).run P w = .ok (Value.slice none 0 0) w
 z23:∀ w,(Go.sizeOf (ρ.t 23)).run P w = .ok sz w
 v23:∀ w,(zeroValue (ρ.t 23)).run P w = .ok z w
 i23:(P.info? (ρ.t 23)).map (fun i=>(i.zero,i.size,i.bytes))=some (some z,sz,bytes)
section
variable {P:Program} {ρ:Ren} {nm:String} {sz bytes:Nat} {z:Value}
theorem Xf (w:World) (t e ty:TypeId) (ht:P.underlying t=some (.slice e)) (hv:∀ w,(zeroValue e).run P w = .ok z w) (b o n c:Nat) (zs:List Value) (hzs:(Builtin.zeroCells z.cells n).toList=zs) (h1:∀ v∈zs,v.oneCell'=true) (hn:0<n)
  (hc:∀ j,j<zs.length→(w.cell? ⟨b,o+j,none⟩).isSome=true) (hf:∀ j,j<zs.length→w.frozen? ⟨b,o+j,none⟩=false) :
  (Builtin.clear_ #[t] ty #[.slice (some ⟨b,o,none⟩) n c]).run P w = .ok (.tuple #[]) (w.setCells b o zs):=by
 have a:=run_storeCells_cells (P:=P) b o zs 0 w (by simpa using hc) (by simpa using hf) h1
 simp only [Nat.add_zero] at a
 obtain ⟨m,rfl⟩:∃ m,n=m+1:=⟨n-1,by omega⟩
 simp [Builtin.clear_,run_underlying ht,hv,hzs,a]
set_option maxRecDepth 1000000 in
theorem Zcd (L:DelLay P ρ nm sz bytes z) (b off n c i j:Nat) (cs zs:List Value) (w:World) (hij:i<j) (hj:j≤n) (hnc:n≤c) (hc63:c≤9223372036854775807)
  (hcl:cs.length=n*sz) (hcs:∀ k v,cs[k]? = some v→w.cell? ⟨b,off+k,none⟩=some v) (hfz:∀ k,w.frozen? ⟨b,k,none⟩=false) (h1c:∀ v∈cs,v.oneCell'=true)
  (hzs:(Builtin.zeroCells z.cells (n-(i+(n-j)))).toList=zs) (hzl:zs.length=(j-i)*sz) (h1z:∀ v∈zs,v.oneCell'=true) :
  Calls P (ρ.f 45) #[.slice (some ⟨b,off,none⟩) n c,.int .i64 i,.int .i64 j] w fun e w' =>
   e = .returned (.slice (some ⟨b,off,none⟩) (i+(n-j)) c)∧w'=(w.drew.setCells b (off+i*sz) (cs.drop (j*sz))).setCells b (off+(i+(n-j))*sz) zs:=by
 have t0:=L.t0;have a0:=L.a0;have z0:=L.z0;have v0:=L.v0;have t3:=L.t3;have a3:=L.a3;have z3:=L.z3;have v3:=L.v3;have t4:=L.t4;have a4:=L.a4;have z4:=L.z4;have v4:=L.v4;have m:=L.t22;have K:=L.a22;have aa:=L.z22;have U:=L.v22;have ab:=L.z23;have s:=L.v23
 have u0:=run_underlying L.t0;have u3:=run_underlying L.t3;have u4:=run_underlying L.t4;have H:=run_underlying L.t22
 have x:=L.mixed
 obtain ⟨Z,q,G,r,E⟩:=info_parts L.i23
 have Y:j*sz+(n-j)*sz=n*sz:=by rw [←Nat.add_mul];congr 1;omega
 have Q:i*sz+(j-i)*sz=j*sz:=by rw [←Nat.add_mul];congr 1;omega
 have N:(i+(n-j))*sz=i*sz+(n-j)*sz:=Nat.add_mul ..
 have e4:n-(i+(n-j))=j-i:=by omega
 obtain ⟨news,hnews⟩:∃ news,news=cs.drop (j*sz):=⟨_,rfl⟩
 have d:news.length=(n-j)*sz:=by rw [hnews,List.length_drop,hcl];omega
 obtain ⟨A,hA,hsrc⟩:∃ A:Addr,(if c=j then some (⟨b,off,none⟩:Addr) else some ⟨b,off+j*sz,none⟩)=some A∧Hid (∀ t u,news[t]? = some u→w.drew.cell? (A.add t)=some u):=by
  by_cases h:c=j
  ·refine ⟨⟨b,off,none⟩,by simp [h],fun t u l=>?_⟩
   have F:news.length=0:=by rw [d,show n-j=0 by omega,Nat.zero_mul]
   rw [List.length_eq_zero_iff.1 F] at l
   simp at l
  ·refine ⟨⟨b,off+j*sz,none⟩,by simp [h],fun t u l=>?_⟩
   rw [hnews,List.getElem?_drop] at l
   rw [Addr.add_lit,Nat.add_assoc]
   exact hcs _ _ l
 have a:∀ k,k<n*sz→(w.cell? ⟨b,off+k,none⟩).isSome=true:=fun k y=>by
  rw [hcs k _ (List.getElem?_eq_getElem (by omega))];rfl
 have O:Hid (news.length=(n-j)*sz):=d
 have s2:Hid (∀ u∈news,u.oneCell'=true):=fun u l=>h1c u (by rw [hnews] at l;exact List.mem_of_mem_drop l)
 have s3:Hid (∀ t,t<news.length→(w.drew.cell? ⟨b,off+i*sz+t,none⟩).isSome=true∧w.drew.frozen? ⟨b,off+i*sz+t,none⟩=false):=by
  intro t o
  rw [d] at o
  rw [Nat.add_assoc]
  exact ⟨a _ (by omega),hfz _⟩
 obtain ⟨W1,hW1⟩:∃ W1,W1=w.drew.setCells b (off+i*sz) news:=⟨_,rfl⟩
 have g:∀ k,k<n*sz→(W1.cell? ⟨b,off+k,none⟩).isSome=true:=fun k y=>by
  rw [hW1]
  exact isSome_setCells b _ _ _ (fun t o=>by rw [Nat.add_assoc];exact a _ (by omega)) _ (a k y)
 have hcl:∀ p,(Builtin.clear_ #[ρ.t 22] p #[.slice (some ⟨b,off+(i+(n-j))*sz,none⟩) (n-(i+(n-j))) (c-(i+(n-j)))]).run P W1 = .ok (.tuple #[]) (W1.setCells b (off+(i+(n-j))*sz) zs) :=
  fun p=>Xf W1 _ _ p m s b _ _ _ zs hzs h1z (by omega) (fun t o=>by rw [Nat.add_assoc];exact g _ (by omega)) (fun t o=>by rw [hW1,World.frozen?_setCells];exact hfz _)
 have C:Hid (W1=w.drew.setCells b (off+i*sz) news):=hW1
 have J:Aside (news=cs.drop (j*sz)):=hnews
 have ad:i≤c:=by omega
 have V:j≤c:=by omega
 have D:i≤n:=by omega
 clear hW1 hcs hnews d a g Y Q N e4 hzs hzl h1z h1c hfz
 have FG:=L.f45
 go_enter FG,SlBodyN.n45_ntmps ρ
 go_wp2_with fail
 go_region_law_o (refine step_append_room rfl (.tmp 22) (.tmp 25) (ρ.t 22) rfl (ρ.t 23) Z sz m q r b off i c (by simp [Act.eval,Act.put]) A (n-j) (c-j) news (by simp [Act.eval,Act.put]) O.out hsrc.out s2.out (by omega) s3.out ?_;rw [←C.out])
 go_wp2
 go_ret
 refine ⟨rfl,?_⟩
 rw [C.out,J.out]
end
theorem ZkH {T rest:List Value} {cs:List AV} {a b N:Nat} {Rl:Value→AV→Prop} (hab:a≤b) (hbN:b≤N) (hN:N≤T.length) (hc:cs.length=N) (h:∀ (j:Nat) (v:Value) (x:AV),T[j]? = some v→cs[j]? = some x→Rl v x) (k:Nat) (v:Value) (x:AV)
  (h1:(T.take a++(T.take N).drop b++rest)[k]? = some v) (h2:(cs.take a++cs.drop b)[k]? = some x):Rl v x:=by
 have e:(T.take a).length=a:=by simp;omega
 have g:((T.take N).drop b).length=N-b:=by simp;omega
 have f:(cs.take a).length=a:=by simp;omega
 rw [List.append_assoc] at h1
 by_cases c:k<a
 ·rw [List.getElem?_append_left (by omega),List.getElem?_take,Ae c] at h1 h2
  exact h k v x h1 h2
 ·rw [List.getElem?_append_right (by omega),f,List.getElem?_drop] at h2
  have d:=(Ag.1 h2).1
  rw [List.getElem?_append_right (by omega),e,List.getElem?_append_left (by omega),List.getElem?_drop,List.getElem?_take,Ae (by omega)] at h1
  exact h _ v x h1 h2
theorem ZdY {z:Value} (h:∀ v∈z.cells.toList,v.oneCell'=true) (n:Nat):∀ v∈(Builtin.zeroCells z.cells n).toList,v.oneCell'=true:=by
 intro v hv
 rw [Builtin.zeroCells,Array.toList_map,List.mem_map] at hv
 obtain ⟨k,b,rfl⟩:=hv
 by_cases c:z.cells.size=0
 ·simp [c] at b
 ·have a:k % z.cells.size<z.cells.size:=Nat.mod_lt _ (by omega)
  rw [getElem!_pos z.cells _ a]
  exact h _ (by simp)
section
variable {P:Program} {w0:World} {ρ:Ren} {nm:String} {sz bytes:Nat} {z:Value} {st:St} {M:Mem} {w:World}
theorem ZaI (L:DelLay P ρ nm sz bytes z) (hzc:z.cells.size=sz) (hz1:∀ v∈z.cells.toList,v.oneCell'=true) (h0:0<sz) {id ver n i j:Nat} {cs:List AV} (hrow:st.rows[id]? = some (.vec ver sz cs)) (hcs:cs.length=n*sz) (hij:i<j) (hj:j≤n)
  {v0:Value} (hst:RelSt w0 M st w) (hv0:R w0 M w v0 (.vec id ver 0 n)) :
  Calls P (ρ.f 45) #[v0,.int .i64 i,.int .i64 j] w (Comes' w0 M w fun r s=>r = .vec id (ver+1) 0 (i+(n-j))∧s={ st with rows:=st.rows.set id (.vec (ver+1) sz (cs.take (i*sz)++cs.drop (j*sz))) }):=by
 have m:id<M.NR:=by rw [hst.NR];exact (Ag.1 hrow).1
 obtain ⟨f1,f2,f3,f4,f5,f6,f7,cur,J,f8,f9,ah,D,V⟩:=hst.row id _ hrow
 cases hv0 with
 | @vec _ _ _ _ p cap hid' hver hh =>
 obtain ⟨rfl,hcap,G⟩:=hh f1.symm
 simp only [Nat.add_zero,Nat.zero_mul] at hcap ⊢
 subst hcap
 have e1:j*sz+(n-j)*sz=n*sz:=by rw [←Nat.add_mul];congr 1;omega
 have e2:i*sz+(j-i)*sz=j*sz:=by rw [←Nat.add_mul];congr 1;omega
 have e3:(i+(n-j))*sz=i*sz+(n-j)*sz:=Nat.add_mul ..
 have e4:n-(i+(n-j))=j-i:=by omega
 have F:n*sz≤cur.size:=by rw [f9];exact Nat.mul_le_mul_right _ G
 have d:(cur.toList.take (n*sz)).length=n*sz:=by simp;omega
 have g:∀ v∈cur.toList.take (n*sz),v.oneCell'=true:=by
  intro v hv
  obtain ⟨k,hk,rfl⟩:=List.mem_iff_getElem.1 hv
  rw [d] at hk
  rw [List.getElem_take,Array.getElem_toList]
  exact (V k (by omega) (by omega)).oneCell (D _ (List.getElem_mem _))
 have E:∀ k v,(cur.toList.take (n*sz))[k]? = some v→w.cell? ⟨M.blk id,0+k,none⟩=some v:=by
  intro k u hk
  rw [List.getElem?_take] at hk
  split at hk
  ·rw [Nat.zero_add,cell_of_row w _ k cur J _ f8,←Array.getElem?_toList];exact hk
  ·cases hk
 have O:∀ x∈cs.take (i*sz)++cs.drop (j*sz),x.one=true:=by
  intro x hx
  rcases List.mem_append.1 hx with hx | hx
  ·exact D x (List.mem_of_mem_take hx)
  ·exact D x (List.mem_of_mem_drop hx)
 have ae:(cs.take (i*sz)++cs.drop (j*sz)).length=(i+(n-j))*sz:=by
  rw [List.length_append,List.length_take,List.length_drop,e3];omega
 have y:∀ (cells:Array Value) (rest:List Value),cells.toList=cur.toList.take (i*sz)++(cur.toList.take (n*sz)).drop (j*sz)++rest→∀ (k:Nat) (v:Value) (x:AV),cells[k]? = some v→(cs.take (i*sz)++cs.drop (j*sz))[k]? = some x→R w0 M w v x:=by
  intro cells rest U k v x Z af
  rw [←Array.getElem?_toList,U] at Z
  refine ZkH (T:=cur.toList) (rest:=rest) (N:=n*sz) (by omega) (by omega) (by simpa using F) hcs (fun j v x h1 h2=>?_) k v x Z af
  rw [Array.getElem?_toList] at h1
  obtain ⟨q1,rfl⟩:=Array.getElem?_eq_some_iff.1 h1
  obtain ⟨q2,rfl⟩:=Ag.1 h2
  exact V j q1 q2
 obtain ⟨d1,d2⟩:=hst.drew
 obtain ⟨zs,hzs⟩:∃ zs,(Builtin.zeroCells z.cells (n-(i+(n-j)))).toList=zs:=⟨_,rfl⟩
 have Q:zs.length=(j-i)*sz:=by rw [←hzs,Array.length_toList,size_zeroCells,hzc,e4]
 have Y:∀ v∈zs,v.oneCell'=true:=by rw [←hzs];exact ZdY hz1 _
 refine (Zcd L (M.blk id) 0 n (M.cap id) i j (cur.toList.take (n*sz)) zs w hij hj G (by unfold maxLen at f6;omega) d E (fun k=>by simp [World.frozen?,f8]) g hzs Q Y).mono ?_
 rintro en w' ⟨rfl,rfl⟩
 have h:w.drew.heap[M.blk id]? = some (.cells cur J (0,0)):=f8
 have H:((cur.toList.take (n*sz)).drop (j*sz)).length=(n-j)*sz:=by rw [List.length_drop,d];omega
 rw [Hn P h _ _ (by rw [H];omega) (fun v hv=>g v (List.mem_of_mem_drop hv))]
 have ad:=setRow_heap w.drew (M.blk id) cur (cur.toList.take (0+i*sz)++(cur.toList.take (n*sz)).drop (j*sz)++cur.toList.drop (0+i*sz+((cur.toList.take (n*sz)).drop (j*sz)).length)).toArray J _ h
 rw [Hn P ad _ _ (by simp only [List.size_toArray,List.length_append,List.length_take,List.length_drop,Array.length_toList];omega) Y,setRow_setRow]
 simp only [Nat.zero_add]
 generalize hc':((cur.toList.take (i*sz)++(cur.toList.take (n*sz)).drop (j*sz)++cur.toList.drop (i*sz+((cur.toList.take (n*sz)).drop (j*sz)).length)).take ((i+(n-j))*sz)++zs++(cur.toList.take (i*sz)++(cur.toList.take (n*sz)).drop (j*sz)++cur.toList.drop (i*sz+((cur.toList.take (n*sz)).drop (j*sz)).length)).drop ((i+(n-j))*sz+zs.length)).toArray=cur'
 have ag:(cur.toList.take (i*sz)++(cur.toList.take (n*sz)).drop (j*sz)).length=(i+(n-j))*sz:=by
  rw [List.length_append,H,List.length_take,Array.length_toList,e3];omega
 have t:cur'.toList=cur.toList.take (i*sz)++(cur.toList.take (n*sz)).drop (j*sz)++(zs++(cur.toList.take (i*sz)++(cur.toList.take (n*sz)).drop (j*sz)++cur.toList.drop (i*sz+((cur.toList.take (n*sz)).drop (j*sz)).length)).drop ((i+(n-j))*sz+zs.length)):=by
  rw [←hc',List.take_append_of_le_length (by omega),List.take_of_length_le (by omega)]
  simp only [List.append_assoc]
 have C:cur'.size=cur.size:=by
  rw [←Array.length_toList,t]
  simp only [List.length_append,List.length_take,List.length_drop,Array.length_toList,Q]
  omega
 have e:Ext w0 M w.drew (M.growRow id (M.blk id) (M.cap id) (ver+1) 0) (w.drew.setRow (M.blk id) cur'):=by
  refine I6 (M:=M) (M.growRow id (M.blk id) (M.cap id) (ver+1) 0) rfl (fun _ _=>rfl) rfl (fun i hi=>?_) (fun b=>?_) h f3 (fun j hj=>by rw [f4] at hj;omega)
  ·by_cases c:i=id
   ·subst c
    simp only [Mem.growRow,if_true,f1]
    exact ⟨by omega,fun q=>absurd q (by omega)⟩
   ·simp only [Mem.growRow,Af c]
    exact ⟨Nat.le_refl _,fun _=>⟨trivial,trivial,trivial⟩⟩
  ·simp only [Mem.growRow]
   split
   ·rename_i c
    rw [c,f4]
    exact Nat.le_refl _
   ·exact Nat.le_refl _
 have aa:=hst.row_lt m
 have q:(M.growRow id (M.blk id) (M.cap id) (ver+1) 0).fr id=ver+1∧(M.growRow id (M.blk id) (M.cap id) (ver+1) 0).blk id=M.blk id∧(M.growRow id (M.blk id) (M.cap id) (ver+1) 0).cap id=M.cap id∧(M.growRow id (M.blk id) (M.cap id) (ver+1) 0).rsz id=M.rsz id∧(M.growRow id (M.blk id) (M.cap id) (ver+1) 0).top (M.blk id)=0:=by simp [Mem.growRow]
 obtain ⟨q1,q2,q3,q4,q5⟩:=q
 have o:i+(n-j)≤M.cap id:=by omega
 have K:=d1.growRow' hrow (x := .vec (ver+1) sz (cs.take (i*sz)++cs.drop (j*sz))) (w':=w.drew.setRow (M.blk id) cur') (b:=M.blk id) (cap:=M.cap id) (k:=ver+1) (tp:=0) (Below.setRow (Below.refl _ _) f3 _) (by simp) (by simpa using aa)
  (fun l hl=>⟨f5 l hl,setRow_other w.drew _ _ _ (f5 l hl)⟩) (fun i hi ab=>by
   have:M.blk i≠M.blk id:=fun q=>ab (hst.rowinj i id hi m q)
   exact ⟨this,setRow_other w.drew _ _ _ this⟩) (by
   simp only [RowOk,q1,q2,q3,q4,q5]
   exact ⟨trivial,f2,f3,trivial,f5,f6,h0,cur',J,setRow_heap w.drew _ cur cur' J _ h,C.trans f9,by rw [ae,C,f9];exact Nat.mul_le_mul_right _ o,O,
    fun i a b=>((y cur' _ t i _ _ (Array.getElem?_eq_getElem a) (List.getElem?_eq_getElem b)).mono d2).mono e⟩) e (KeepsObj.setRow h _)
 exact ⟨_,_,_,_,rfl,⟨rfl,rfl⟩,d2.trans e,K,.vec m (by rw [q1];exact Nat.le_refl _) fun _=>⟨by rw [q2];simp,by rw [q3];rfl,o⟩⟩
theorem ZJ (L:DelLay P ρ nm sz bytes z) (hen:J0 P (ρ.f 45)) (hzc:z.cells.size=sz) (hz1:∀ v∈z.cells.toList,v.oneCell'=true) (h0:0<sz) {id ver n i j:Nat} {cs:List AV} (hrow:st.rows[id]? = some (.vec ver sz cs)) (hcs:cs.length=n*sz) (hij:i<j) (hj:j≤n) :
  ACalls P w0 (ρ.f 45) [.vec id ver 0 n,.val (.int .i64 i),.val (.int .i64 j)] st fun r s=>r = .vec id (ver+1) 0 (i+(n-j))∧s={ st with rows:=st.rows.set id (.vec (ver+1) sz (cs.take (i*sz)++cs.drop (j*sz))) }:=by
 refine ⟨hen,fun M w e m d=>?_⟩
 obtain ⟨v0,v1,v2,rfl⟩:∃ v0 v1 v2,e = #[v0,v1,v2]:=by
  have:=d.1
  simp only [List.length_cons,List.length_nil] at this
  obtain ⟨l⟩:=e
  match l,this with
  | [a,b,c],_=>exact ⟨a,b,c,rfl⟩
 have h:R w0 M w v0 (.vec id ver 0 n):=d.2 0 (by simp) (by simp)
 have k:R w0 M w v1 (.val (.int .i64 i)):=d.2 1 (by simp) (by simp)
 have g:R w0 M w v2 (.val (.int .i64 j)):=d.2 2 (by simp) (by simp)
 obtain ⟨rfl,_⟩:=k.val_inv
 obtain ⟨rfl,_⟩:=g.val_inv
 exact ZaI L hzc hz1 h0 hrow hcs hij hj m h
end
end Go.Ev
namespace Go.Proofs.YtgpmlelfkjfbiaaGreatDoor
open Go Go.RowKit Go.Ev
@[go_sem] theorem Zmm (n:Nat):J5 .nil n = .list [] .seed:=rfl
def MV {α:Type} (l:List α) (i:Int) (y:α):List α:=l.take i.toNat++y::l.drop i.toNat
theorem Sl {α:Type} {g:α→List AV} {sz:Nat} (hg:∀ x,(g x).length=sz):∀ (xs:List α) (k:Nat),(xs.flatMap g).take (k*sz)=(xs.take k).flatMap g
 | [],k=>by simp
 | x::xs,0=>by simp
 | x::xs,k+1=>by
  have a:=hg x
  rw [List.flatMap_cons,List.take_succ_cons,List.flatMap_cons,←Sl hg xs k,Nat.succ_mul,Nat.add_comm,List.take_append,List.take_of_length_le (by omega)]
  congr 2
  omega
theorem SC {α:Type} {g:α→List AV} {sz:Nat} (hg:∀ x,(g x).length=sz):∀ (xs:List α) (k:Nat),(xs.flatMap g).drop (k*sz)=(xs.drop k).flatMap g
 | [],k=>by simp
 | x::xs,0=>by simp
 | x::xs,k+1=>by
  have a:=hg x
  rw [List.flatMap_cons,List.drop_succ_cons,←SC hg xs k,Nat.succ_mul,Nat.add_comm,List.drop_append,List.drop_of_length_le (by omega),List.nil_append]
  congr 1
  omega
def insR:Go.Shelf.Ren:=⟨fun x=>if x=22 then 69 else if x=29 then 125 else if x=30 then 126 else x,
 fun x=>if x=9 then 75 else if x=24 then 44 else if x=3 then 3 else if x=4 then 4 else if x=0 then 0 else x,fun x=>x⟩
theorem Znb:∃ z,InsLay Tryz.prog insR Tryz.f69.name 7 104 z∧z.cells.size=7:=by
 obtain ⟨j,z,g,b,d,a,c⟩:=Uw (by kernel_rfl:Zbr Tryz.prog 75 7 104=true)
 exact ⟨z,{
  mixed:=by kernel_rfl
  nmo:=by decide
  f22:=Tryz.func69.trans (congrArg some (by kernel_rfl))
  ov:=fun w x y h=>by
   show (callFunc 125 #[x,y]).run Tryz.prog w=_
   rw [run_callFunc_extern Tryz.func125 (by kernel_rfl) (by kernel_rfl) (by kernel_rfl) (e:=Extern.SlicesOverlaps.overlaps #[44,44] #[4]) (by kernel_rfl)]
   have f:(Extern.SlicesOverlaps.overlaps #[44,44] #[4] #[x,y]).run Tryz.prog w = .ok (.bool false) w:=h
   first | (rw [f];rfl) | simp [f]
  t0:=Tryz.underlying0
  a0:=Tryz.isAgg0
  z0:=Tryz.sizeOf0
  v0:=Tryz.zeroValue0
  t3:=Tryz.underlying3
  a3:=Tryz.isAgg3
  z3:=Tryz.sizeOf3
  v3:=Tryz.zeroValue3
  t4:=Tryz.underlying4
  a4:=Tryz.isAgg4
  z4:=Tryz.sizeOf4
  v4:=Tryz.zeroValue4
  z9:=Tryz.sizeOf75
  t24:=Tryz.underlying44
  a24:=Tryz.isAgg44
  z24:=Tryz.sizeOf44
  v24:=Tryz.zeroValue44
  i9:=by
   show (Tryz.prog.info? 75).map (fun i=>(i.zero,i.size,i.bytes))=_
   rw [g];simp [b,d,a] },c⟩
theorem ZR (w0:World) {Rw rows:List RowA} {l:List (Nat × Nat × Ev.Own)} {ho:Ev.Own} {o:VO} {v:List VE} {xs:List (ByteArray × Vl)} (hO:Owns Rw rows l ho ((o,7,xs.flatMap fun x=>(BM x).cells)::v)) (i:Int)
  (hg:(0≤i∧i≤(xs.length:Int))∧(xs.length+1)*104≤140737488355328∧xs.length+1≤4611686018427387904) (y:ByteArray × Vl) :
  ∃ id' ver' rows',Owns Rw rows' l ho ((.row id' ver',7,(MV xs i y).flatMap fun x=>(BM x).cells)::v)∧∀ (B:List (List AV)) (L:List LoopA) (ow:Ev.Own),ACalls Tryz.prog w0 69 [J5 o xs.length,.val (.int .i64 i),.list [BM y] ow] ⟨B,rows,L⟩ fun r s=>r = .vec id' ver' 0 (MV xs i y).length∧s=⟨B,rows',L⟩:=by
 obtain ⟨⟨u,w⟩,p,g⟩:=hg
 obtain ⟨k,rfl⟩:∃ k:Nat,i=(k:Int):=⟨i.toNat,by omega⟩
 obtain ⟨z,m,h⟩:=Znb
 have a:∀ x:ByteArray × Vl,((fun x=>(BM x).cells) x).length=7:=fun x=>by simp +decide only [go_sem]
 have e:(xs.flatMap fun x=>(BM x).cells).length=xs.length*7:=Hg (f:=BM) (fun _=>by simp +decide only [go_sem]) xs
 have b:(MV xs (k:Int) y).length=xs.length+1:=by
  unfold MV
  rw [List.length_append,List.length_cons,List.length_take,List.length_drop]
  simp only [Int.toNat_natCast]
  omega
 have c:(xs.flatMap fun x=>(BM x).cells).take (k*7)++[BM y].flatMap (fun y=>y.pub.cells)++(xs.flatMap fun x=>(BM x).cells).drop (k*7)=(MV xs (k:Int) y).flatMap fun x=>(BM x).cells:=by
  unfold MV
  rw [Sl a,SC a,List.flatMap_append,List.flatMap_cons,List.flatMap_cons,List.flatMap_nil,List.append_nil,VA,Int.toNat_natCast,List.append_assoc]
 obtain ⟨id',ver',hrow⟩:∃ id' ver',PN o rows = .row id' ver':=by
  cases o with
  | nil=>exact ⟨_,_,rfl⟩
  | row id ver=>exact ⟨_,_,rfl⟩
 refine ⟨id',ver',_,hrow▸hO.bump ((MV xs (k:Int) y).flatMap fun x=>(BM x).cells),fun B L ow=>?_⟩
 have:=Zas (P:=Tryz.prog) (w0:=w0) (st:=⟨B,rows,L⟩) (ow:=ow) (ys:=[BM y]) (ag:=true) (i:=k) m (A1 Tryz.func69 rfl (by decide)) OW (by rw [show insR.t 9=75 from rfl,JD];rfl) h (by decide) hO.vp e (by omega) (by simp)
  (fun q n=>by rw [List.mem_singleton.1 n];exact ⟨by simp +decide only [go_sem],by simp +decide only [go_sem]⟩) p g
 rw [c] at this
 exact this.mono fun r s ⟨j,d⟩=>⟨by rw [j,b,hrow];rfl,d⟩
def ZmA:Go.Shelf.Ren:=⟨fun x=>if x=45 then 97 else x,
 fun x=>if x=23 then 75 else if x=22 then 44 else if x=3 then 3 else if x=4 then 4 else if x=0 then 0 else x,fun x=>x⟩
def ZjE:Value := .agg #[.string ⟨#[]⟩,.int .i64 0,.int .i64 0,.int .i64 0,.string ⟨#[]⟩,.slice none 0 0,.slice none 0 0]
theorem ZmX:DelLay Tryz.prog ZmA Tryz.f97.name 7 104 ZjE:={
  mixed:=by kernel_rfl
  nmo:=by kernel_rfl
  f45:=Tryz.func97.trans (congrArg some (by kernel_rfl))
  t0:=Tryz.underlying0
  a0:=Tryz.isAgg0
  z0:=Tryz.sizeOf0
  v0:=Tryz.zeroValue0
  t3:=Tryz.underlying3
  a3:=Tryz.isAgg3
  z3:=Tryz.sizeOf3
  v3:=Tryz.zeroValue3
  t4:=Tryz.underlying4
  a4:=Tryz.isAgg4
  z4:=Tryz.sizeOf4
  v4:=Tryz.zeroValue4
  t22:=Tryz.underlying44
  a22:=Tryz.isAgg44
  z22:=Tryz.sizeOf44
  v22:=Tryz.zeroValue44
  z23:=Tryz.sizeOf75
  v23:=Tryz.zeroValue75
  i23:=by kernel_rfl }
def PT {α:Type} (l:List α) (i:Int):List α:=l.take i.toNat++l.drop (i.toNat+1)
theorem ZaA (w0:World) {Rw rows:List RowA} {l:List (Nat × Nat × Ev.Own)} {ho:Ev.Own} {o:VO} {v:List VE} {xs:List (ByteArray × Vl)} (hO:Owns Rw rows l ho ((o,7,xs.flatMap fun x=>(BM x).cells)::v)) (i:Int)
  (hg:0≤i∧i<(xs.length:Int)) :
  ∃ id' ver' rows',Owns Rw rows' l ho ((.row id' ver',7,(PT xs i).flatMap fun x=>(BM x).cells)::v)∧∀ (B:List (List AV)) (L:List LoopA),ACalls Tryz.prog w0 97 [J5 o xs.length,.val (.int .i64 i),.val (.int .i64 (i+1))] ⟨B,rows,L⟩ fun r s=>r = .vec id' ver' 0 (PT xs i).length∧s=⟨B,rows',L⟩:=by
 obtain ⟨k,rfl⟩:∃ k:Nat,i=(k:Int):=⟨i.toNat,by omega⟩
 have a:∀ x:ByteArray × Vl,((fun x=>(BM x).cells) x).length=7:=fun x=>by simp +decide only [go_sem]
 have g:(xs.flatMap fun x=>(BM x).cells).length=xs.length*7:=Hg (f:=BM) (fun _=>by simp +decide only [go_sem]) xs
 have b:(PT xs (k:Int)).length=k+(xs.length-(k+1)):=by
  unfold PT
  rw [List.length_append,List.length_take,List.length_drop]
  simp only [Int.toNat_natCast]
  omega
 have c:(xs.flatMap fun x=>(BM x).cells).take (k*7)++(xs.flatMap fun x=>(BM x).cells).drop ((k+1)*7)=(PT xs (k:Int)).flatMap fun x=>(BM x).cells:=by
  unfold PT
  rw [Sl a,SC a,List.flatMap_append,Int.toNat_natCast]
 obtain ⟨id,ver,rfl,hrow⟩:∃ id ver,o = .row id ver∧rows[id]? = some (.vec ver 7 (xs.flatMap fun x=>(BM x).cells)):=by
  rcases hO.veach _ (List.mem_cons_self ..) with q | ⟨id,ver,e,_,q3⟩
  ·have d:(xs.flatMap fun x=>(BM x).cells)=[]:=q.2
   rw [d] at g
   simp at g;omega
  ·exact ⟨id,ver,e,q3⟩
 refine ⟨id,ver+1,_,hO.setV (ver+1) ((PT xs (k:Int)).flatMap fun x=>(BM x).cells),fun B L=>?_⟩
 have:=ZJ (P:=Tryz.prog) (w0:=w0) (st:=⟨B,rows,L⟩) (i:=k) (j:=k+1) (n:=xs.length) ZmX (A1 Tryz.func97 rfl (by decide)) rfl (by decide) (by decide) hrow g (by omega) (by omega)
 rw [c] at this
 exact this.mono fun r s ⟨e,d⟩=>⟨by rw [e,b],d⟩
theorem ZaL {B B':List (List AV)} {R0 rows:List RowA} {L:List LoopA} {Post:AV→St→Prop} {v:AV} {ow:List (Nat × Nat × Ev.Own)} {oh:Ev.Own} (ho:Owns R0 rows ow oh) (hc:Go.Ev.Calm B.length rows.length L.length ⟨B',R0,L⟩) (hB:B'.length=B.length) (hu:Go.Ev.Under B.length rows.length L.length v.pubA) (hp:Post v.pubA ⟨B',rows,L⟩) :
  Go.Ev.finG ⟨B,R0,L⟩ Post v ⟨B',rows,L⟩:=by
 have:=R9 (X:=[]) ho hc hB hu hp
 rwa [List.append_nil] at this
def FH (b:ByteArray × Vl) (g:ByteArray):Int :=
 ER b.1 g
theorem Qv (w0:World) (B:List (List AV)) (Rw:List RowA) (L:List LoopA) (a0:ByteArray × Vl) (a1:ByteArray) (r:Int) (h:FH a0 a1=r) :
  ACalls Tryz.prog w0 140 [.agg (.val (.string a0.1)::(a0.2.cs)),.val (.string a1)] ⟨B,Rw,L⟩ fun x st=>x = .val (.int .i64 r)∧st=⟨B,Rw,L⟩:=by
 rw [FH] at h
 refine hd [.tmp 4] Tryz.func140 Tryz.ntmps140 fun M0 W0 g e c a f d hs=>?_
 simp only [Au]
 refine rg [1,2] hs ?_
 refine rc 2 [4] hs ?_;intro K2 b
 refine Ai _ (NP w0 _ _ _ a0.1 a1) (hv hs) ?_
 refine ne hs b ?_
 clear b
 exact rT h hs a d
theorem Qf (w0:World) (B:List (List AV)) (Rw:List RowA) (L:List LoopA) (a0:ByteArray × Vl) (a1:ByteArray) :
  ACalls Tryz.prog w0 140 [.agg (.val (.string a0.1)::(a0.2.cs)),.val (.string a1)] ⟨B,Rw,L⟩ fun x st=>x = .val (.int .i64 (FH a0 a1))∧st=⟨B,Rw,L⟩:=Qv w0 B Rw L a0 a1 _ rfl
def Nv (b:ByteArray):Option Bool :=
 if b.size≤maxLen then
  some (Lib.validD b.data.toList)
 else none
theorem Zw (w0:World) (hT:Lib.Utf8Tabs 0 1 w0) (B:List (List AV)) (Rw:List RowA) (L:List LoopA) (a0:ByteArray) (r:Bool) (h:Nv a0=some r) :
  ACalls Tryz.prog w0 196 [.val (.string a0)] ⟨B,Rw,L⟩ fun x st=>x = .val (.bool r)∧st=⟨B,Rw,L⟩:=by
 rw [Nv] at h
 refine hd [.tmp 2] Tryz.func196 Tryz.ntmps196 fun M0 W0 i f d a g e hs=>?_
 simp only [Au]
 refine rg [0] hs ?_
 obtain ⟨c,h⟩:=Aj h
 refine rc 2 [2] hs ?_;intro K2 b
 refine Ai _ (Uh w0 _ _ _ hT a0 c) (hv hs) ?_
 refine ne hs b ?_
 clear b
 exact rt h hs a e
def Cc (n:Nat)  (b1_k4:Vl):Option Bool :=
 some (((((decide (b1_k4.int=0))&&(decide (b1_k4.scale=0)))&&(Cb b1_k4.text ((⟨#[]⟩:ByteArray))))&&(decide ((b1_k4.list.length:Int)=0)))&&(decide ((b1_k4.fields.length:Int)=0)))
def IJ (n:Nat) (b:Vl):Option Bool :=
 Cc n (Vl.mk b.kind b.int b.scale b.text b.list ([]))
def D5 (n:Nat) (g:Vl):Nat→Int→Option Bool
 | 0,_=>none
 | m+1,b =>
  if decide (b<(g.fields.length:Int)) then
   if BQ (b-1) then
    (B7 g.fields (b-1)).bind fun q =>
    (B7 g.fields b).bind fun h =>
    if !(WT q.1 h.1) then
     some (false)
    else
     if BQ (b+1) then
      (D5 n g m) (b+1)
     else none
   else none
  else
   IJ n g 
def DD (n:Nat) (b:Vl) (g:Bool):Option Bool :=
 if g then
  Cc n (Vl.mk b.kind 0 b.scale b.text b.list b.fields)
 else
  if decide (b.kind=3) then
   Cc n (Vl.mk b.kind 0 0 b.text b.list b.fields)
  else
   if decide (b.kind=4) then
    (Nv b.text).bind fun h =>
    if !h then
     some (false)
    else
     Cc n (Vl.mk b.kind b.int b.scale ((⟨#[]⟩:ByteArray)) b.list b.fields)
   else
    if decide (b.kind=5) then
     Cc n (Vl.mk b.kind b.int b.scale ((⟨#[]⟩:ByteArray)) b.list b.fields)
    else
     if decide (b.kind=8) then
      Cc n (Vl.mk b.kind b.int b.scale b.text ([]) b.fields)
     else
      if decide (b.kind=9) then
       D5 n b n 1
      else
       if decide (b.kind=10) then
        if !(decide ((b.list.length:Int)=1)) then
         some (false)
        else
         Cc n (Vl.mk b.kind b.int b.scale ((⟨#[]⟩:ByteArray)) ([]) b.fields)
       else
        Cc n b
def Hy (n:Nat) (b:Vl):Option Bool :=
 if decide (b.kind=1) then
  if (!(decide (b.int=0)))&&(!(decide (b.int=1))) then
   some (false)
  else
   Cc n (Vl.mk b.kind 0 b.scale b.text b.list b.fields)
 else
  if decide (b.kind=2) then
   DD n b true
  else
   if decide (b.kind=6) then
    DD n b true
   else
    DD n b (decide (b.kind=7))
theorem PL (w0:World) (hT:Lib.Utf8Tabs 0 1 w0) (n:Nat) (B:List (List AV)) (Rw:List RowA) (L:List LoopA) (a0:Vl) (r:Bool) (h:Hy n a0=some r) :
  ACalls Tryz.prog w0 137 [.agg (a0.cs)] ⟨B,Rw,L⟩ fun x st=>x = .val (.bool r)∧st=⟨B,Rw,L⟩:=by
 rw [Hy] at h
 refine hd [.tmp 2] Tryz.func137 Tryz.ntmps137 fun M0 W0 J l o a hu b hs=>?_
 simp only [Au]
 refine rg [1] hs ?_
 refine rg [1,3] hs ?_
 refine Aw (fun e st=>∃ (i:Vl) (j:List AV),Ck e st B Rw L [(3,true,.box (B.length+1) 0)] [a0.cs,j] [] (j.map AV.pubCell=i.cs∧Cc n i=some r)) ?_ ?_
 ·intro K5 g
  refine rg [1,3,7] hs ?_
  apply Ak
  refine rg [1,3,7,8] hs ?_
  refine AN h hs (fun hs h=>?_) (fun hs h=>?_)
  ·apply Ah;intro K9 D
   refine rg [3,17] hs ?_
   refine AN h hs (fun hs h=>?_) (fun hs h=>?_)
   ·refine rg [2] hs ?_
    exact rt h hs a b
   refine sk [3] hs D ?_
   clear D
   have hs:=Aa (Vl.cs_eqs a0) hs
   refine rl [3] hs g ?_
   exact ⟨(Vl.mk a0.kind 0 a0.scale a0.text a0.list a0.fields),([.val (.int .i64 a0.kind),.val (.int .i64 0),.val (.int .i64 a0.scale),.val (.string a0.text),.list (a0.list.map Bo) .none,.list (a0.fields.map BM) .none]),([]),Rw,ef (cm hs),ef (cm hs),b,ef (cm hs),h⟩
  refine Aw (fun e st=>∃ (d:Bool),Ck e st B Rw L [(1,true,.box B.length 0),(3,true,.box (B.length+1) 0),(7,true,.val (.int .i64 a0.kind)),(19,true,.val (.bool d))] [a0.cs,a0.cs] [] (DD n a0 d=some r)) ?_ ?_
  ·intro K15 k
   refine rg [1,3,7,19] hs ?_
   refine AN h hs (fun hs h=>?_) (fun hs h=>?_)
   ·refine sk [1,3,7,19] hs k ?_
    exact ⟨true,([]),Rw,ef hs,ef hs,b,h⟩
   refine rg [1,3,7,19] hs ?_
   refine AN h hs (fun hs h=>?_) (fun hs h=>?_)
   ·refine sk [1,3,7,19] hs k ?_
    exact ⟨true,([]),Rw,ef hs,ef hs,b,h⟩
   refine rl [1,3,7,19] hs k ?_
   exact ⟨(decide (a0.kind=7)),([]),Rw,ef hs,ef hs,b,h⟩
  ·clear h;rintro e st ⟨d,Xk14,Rk14,rfl,rfl,b,h⟩
   rw [DD] at h
   refine td J l o a b ?_
   refine AN h hs (fun hs h=>?_) (fun hs h=>?_)
   ·have hs:=Aa (Vl.cs_eqs a0) hs
    refine rl [3] hs g ?_
    exact ⟨(Vl.mk a0.kind 0 a0.scale a0.text a0.list a0.fields),([.val (.int .i64 a0.kind),.val (.int .i64 0),.val (.int .i64 a0.scale),.val (.string a0.text),.list (a0.list.map Bo) .none,.list (a0.fields.map BM) .none]),([]),Rk14,ef (cm hs),ef (cm hs),b,ef (cm hs),h⟩
   refine rg [1,3,7,24] hs ?_
   refine AN h hs (fun hs h=>?_) (fun hs h=>?_)
   ·have hs:=Aa (Vl.cs_eqs a0) hs
    refine rl [3] hs g ?_
    exact ⟨(Vl.mk a0.kind 0 0 a0.text a0.list a0.fields),([.val (.int .i64 a0.kind),.val (.int .i64 0),.val (.int .i64 0),.val (.string a0.text),.list (a0.list.map Bo) .none,.list (a0.fields.map BM) .none]),([]),Rk14,ef (cm hs),ef (cm hs),b,ef (cm hs),h⟩
   refine rg [1,3,7,28] hs ?_
   refine AN h hs (fun hs h=>?_) (fun hs h=>?_)
   ·apply Ah;intro K25 p
    obtain ⟨ab,F,h⟩:=bind_some h
    refine rc 2 [3,33] hs ?_;intro K26 q
    refine Ai _ (Zw w0 hT _ _ _ a0.text _ F) (hv hs) ?_
    refine ne hs q ?_
    clear q
    refine AN h hs (fun hs h=>?_) (fun hs h=>?_)
    ·refine rg [2] hs ?_
     exact rt h hs a b
    refine sk [3] hs p ?_
    clear p
    have hs:=Aa (Vl.cs_eqs a0) hs
    refine rl [3] hs g ?_
    exact ⟨(Vl.mk a0.kind a0.int a0.scale ((⟨#[]⟩:ByteArray)) a0.list a0.fields),([.val (.int .i64 a0.kind),.val (.int .i64 a0.int),.val (.int .i64 a0.scale),.val (.string ((⟨#[]⟩:ByteArray))),.list (a0.list.map Bo) .none,.list (a0.fields.map BM) .none]),([]),Rk14,ef (cm hs),ef (cm hs),b,ef (cm hs),h⟩
   refine rg [1,3,7,35] hs ?_
   refine AN h hs (fun hs h=>?_) (fun hs h=>?_)
   ·have hs:=Aa (Vl.cs_eqs a0) hs
    refine rl [3] hs g ?_
    exact ⟨(Vl.mk a0.kind a0.int a0.scale ((⟨#[]⟩:ByteArray)) a0.list a0.fields),([.val (.int .i64 a0.kind),.val (.int .i64 a0.int),.val (.int .i64 a0.scale),.val (.string ((⟨#[]⟩:ByteArray))),.list (a0.list.map Bo) .none,.list (a0.fields.map BM) .none]),([]),Rk14,ef (cm hs),ef (cm hs),b,ef (cm hs),h⟩
   refine rg [1,3,7,38] hs ?_
   refine AN h hs (fun hs h=>?_) (fun hs h=>?_)
   ·have hs:=Aa (Vl.cs_eqs a0) hs
    refine rl [3] hs g ?_
    exact ⟨(Vl.mk a0.kind a0.int a0.scale a0.text ([]) a0.fields),([.val (.int .i64 a0.kind),.val (.int .i64 a0.int),.val (.int .i64 a0.scale),.val (.string a0.text),.list ([]) .full,.list (a0.fields.map BM) .none]),([]),Rk14,ef (cm hs),ef (cm hs),b,ef (cm hs),h⟩
   refine rg [1,3,7,41] hs ?_
   refine AN h hs (fun hs h=>?_) (fun hs h=>?_)
   ·refine Aw (fun e st=>Ck e st B Rw L [(3,true,.box (B.length+1) 0)] [a0.cs,a0.cs] [] (IJ n a0  = some r)) ?_ ?_
    ·intro K38 E
     refine rg [1,3,4] hs ?_
     apply Ak
     refine AC (fun m e st=>∃ (c:Int),Ck e st B Rw L [(1,true,.box B.length 0),(3,true,.box (B.length+1) 0),(4,true,.val (.int .i64 c))] [a0.cs,a0.cs] [] (D5 n a0 m c=some r)) n ⟨1,([]),Rk14,ef hs,ef hs,b,h⟩ ?_
     rintro ml40 e st ⟨c,Xl40,Rl40,rfl,rfl,b,h⟩ Ul40 Vl40
     cases ml40 with
     | zero=>cases h
     | succ ml40 =>
     rw [D5] at h
     refine td J l o a b ?_
     apply Ah;intro K41 u
     refine rg [1,3,4,47] hs ?_
     refine AN h hs (fun hs h=>?_) (fun hs h=>?_)
     rotate_left
     ·refine sx [3] hs E ?_
      exact ⟨([]),Rl40,ef hs,ef hs,b,h⟩
     refine sk [1,3,4] hs u ?_
     clear u
     apply Ah;intro K44 t
     apply Ak
     obtain ⟨V,h⟩:=Aj h
     obtain ⟨Z,G,h⟩:=bind_some h
     obtain ⟨K,N,z⟩:=AA G
     have w:=AB (f:=BM) z
     obtain ⟨aa,H,h⟩:=bind_some h
     obtain ⟨Q,U,C⟩:=AA H
     have y:=AB (f:=BM) C
     have hs:=Aa w hs
     have hs:=Aa y hs
     refine dg 14 1 1 [1,3,4,63] hs HH ?_
     refine AN h hs (fun hs h=>?_) (fun hs h=>?_)
     ·refine rg [2] hs ?_
      exact rt h hs a b
     refine sk [1,3,4] hs t ?_
     clear t
     obtain ⟨Y,h⟩:=Aj h
     refine rl [1,3,4] hs (fun e s=>Vl40 ml40 e s (Nat.lt_succ_self _)) ?_
     exact ⟨(c+1),([]),Rl40,ef hs,ef hs,b,h⟩
    ·clear h;rintro e st ⟨Xk37,Rk37,rfl,rfl,b,h⟩
     rw [IJ] at h
     refine td J l o a b ?_
     have hs:=Aa (Vl.cs_eqs a0) hs
     refine rl [3] hs g ?_
     exact ⟨(Vl.mk a0.kind a0.int a0.scale a0.text a0.list ([])),([.val (.int .i64 a0.kind),.val (.int .i64 a0.int),.val (.int .i64 a0.scale),.val (.string a0.text),.list (a0.list.map Bo) .none,.list ([]) .full]),([]),Rk37,ef (cm hs),ef (cm hs),b,ef (cm hs),h⟩
   refine rg [1,3,65] hs ?_
   refine AN h hs (fun hs h=>?_) (fun hs h=>?_)
   ·apply Ah;intro K54 v
    refine rg [3,70] hs ?_
    refine AN h hs (fun hs h=>?_) (fun hs h=>?_)
    ·refine rg [2] hs ?_
     exact rt h hs a b
    refine sk [3] hs v ?_
    clear v
    have hs:=Aa (Vl.cs_eqs a0) hs
    refine rl [3] hs g ?_
    exact ⟨(Vl.mk a0.kind a0.int a0.scale ((⟨#[]⟩:ByteArray)) ([]) a0.fields),([.val (.int .i64 a0.kind),.val (.int .i64 a0.int),.val (.int .i64 a0.scale),.val (.string ((⟨#[]⟩:ByteArray))),.list ([]) .full,.list (a0.fields.map BM) .none]),([]),Rk14,ef (cm hs),ef (cm hs),b,ef (cm hs),h⟩
   refine sk [3] hs g ?_
   exact ⟨a0,_,([]),Rk14,ef hs,ef hs,b,ef hs,h⟩
 ·clear h;rintro e st ⟨i,j,Xk4,Rk4,rfl,rfl,b,O,h⟩
  rw [Cc] at h
  refine Jn (B.length+1) (by first | rfl | (simp only [HQ,Gw,IG,Hw];rfl)) O ?_;simp +decide only [go_sem,Nat.reduceAdd]
  show GL _ _ _ _ _ _ _ _ [(3,true,.box (B.length+1) 0)] ⟨B++([a0.cs,i.cs]++Xk4),Rk4,L⟩
  refine td J l o a b ?_
  refine rg [2] hs ?_
  exact rt h hs a b
def Jl (n:Nat) (g:Int→(List (ByteArray × Vl))→Option Vl) (b:Int) (b3_k37_5:List (ByteArray × Vl)) (b4_k37:ByteArray × Vl):Option Vl :=
 if (b3_k37_5.length+1)*104≤140737488355328∧b3_k37_5.length+1≤4611686018427387904 then
  if BQ (b+1) then
   g (b+1) (b3_k37_5++([b4_k37]))
  else none
 else none
def Dc (n:Nat) (b:Vl) (b3_k4_4:List Vl) (b3_k4_5:List (ByteArray × Vl)):Option Vl :=
 some (Vl.mk b.kind b.int b.scale b.text b3_k4_4 b3_k4_5)
def E8 (n:Nat) (y:Ty) (g:Vl) (a2:Ty→Vl→Option Vl):Nat→Int→(List Vl)→Option Vl
 | 0,_,_=>none
 | m+1,b,b3_l10_4 =>
  if decide (b<(g.list.length:Int)) then
   (B7 g.list b).bind fun h =>
   (B7 y.elem 0).bind fun s =>
   (a2 s h).bind fun q =>
   if (b3_l10_4.length+1)*88≤140737488355328∧b3_l10_4.length+1≤4611686018427387904 then
    if BQ (b+1) then
     (E8 n y g a2 m) (b+1) (b3_l10_4++([q]))
    else none
   else none
  else
   Dc n g b3_l10_4 g.fields
def GH (n:Nat) (s:Ty) (h:Vl) (a2:Ty→Vl→Option Vl):Nat→Int→(List (ByteArray × Vl))→Option Vl
 | 0,_,_=>none
 | m+1,b,b3_l29_5 =>
  if decide (b<(h.fields.length:Int)) then
   (B7 h.fields b).bind fun g =>
   (Di n s g.1).bind fun q =>
   if q.2 then
    (a2 q.1.2.2.2.1 g.2).bind fun y =>
    Jl n (GH n s h a2 m) b b3_l29_5 ((g.1,y))
   else
    Jl n (GH n s h a2 m) b b3_l29_5 g
  else
   Dc n h h.list b3_l29_5
def LD (n:Nat) (g:Ty) (b:Vl) (s:Ty→Vl→Option Vl):Option Vl :=
 if (decide (g.kind=8))&&(decide ((g.elem.length:Int)=1)) then
  E8 n g b s n 0 ([])
 else
  if decide (g.kind=9) then
   GH n g b s n 0 ([])
  else
   if decide (g.kind=10) then
    (Di n g b.text).bind fun h =>
    if h.2 then
     (B7 b.list 0).bind fun q =>
     (s h.1.2.2.2.1 q).bind fun y =>
     Dc n b ([y]) b.fields
    else
     Dc n b b.list b.fields
   else
    Dc n b b.list b.fields
theorem X3 (w0:World) (n:Nat) (B:List (List AV)) (Rw:List RowA) (L:List LoopA) (a0:Ty) (a1:Vl) (fa2:FuncId) (ca2:List AV) (a2:Ty→Vl→Option Vl) (ha2:∀ (x0:Ty) (x1:Vl) r,a2 x0 x1=some r→∀ B' rows,B <+: B'→Rw <+: rows→ACalls Tryz.prog w0 fa2 ([.agg (x0.cs),.agg (x1.cs)]++ca2) ⟨B',rows,L⟩ fun v s=>v = .agg (r.cs)∧s=⟨B',rows,L⟩) (r:Vl) (h:LD n a0 a1 a2=some r) :
  ACalls Tryz.prog w0 138 [.agg (a0.cs),.agg (a1.cs),.clo fa2 ca2] ⟨B,Rw,L⟩ fun x st=>x = .agg (r.cs)∧st=⟨B,Rw,L⟩:=by
 rw [LD] at h
 refine hd [.cell 6 46] Tryz.func138 Tryz.ntmps138 fun M0 W0 hN U V G hu l hs=>?_
 simp only [Au]
 have o:=CH (hu (.clo fa2 ca2) (by simp))
 refine rg [2,3,4,6] hs ?_
 refine rg [2,3,4,6,7] hs ?_
 refine Aw (fun e st=>∃ (q:List Vl) (p:List (ByteArray × Vl)) (C:AV) (w:AV),Ck e st B Rw L [(6,true,.box (B.length+2) 0),(7,true,.box (B.length+3) 0)] [a0.cs,a1.cs,[.val (.int .i64 0),.val (.int .i64 0),.val (.int .i64 0),.val (.string ((⟨#[]⟩:ByteArray))),.list ([]) .full,.list ([]) .full],[.val (.int .i64 a1.kind),.val (.int .i64 a1.int),.val (.int .i64 a1.scale),.val (.string a1.text),C,w]] [] (C.pub = .list (q.map Bo) .none∧w.pub = .list (p.map BM) .none∧Dc n a1 q p=some r)) ?_ ?_
 ·intro K5 N
  apply Ak
  refine rg [2,3,4,6,7,17] hs ?_
  refine AN h hs (fun hs h=>?_) (fun hs h=>?_)
  ·have hs:=Aa (Vl.cs_eqs a1) hs
   refine rg [2,3,4,6,7] hs ?_
   refine rg [2,3,6,7,29,30,31] hs ?_
   apply Ak
   refine AC (fun m e st=>∃ (t:Int) (b:List Vl) (i:Ev.Own),Ck e st B Rw L [(2,true,.clo fa2 ca2),(3,true,.box B.length 0),(6,true,.box (B.length+2) 0),(7,true,.box (B.length+3) 0),(29,true,.list (a1.list.map Bo) .none),(30,true,.val (.int .i64 (a1.list.length:Int))),(31,true,.val (.int .i64 t))] [a0.cs,a1.cs,[.val (.int .i64 0),.val (.int .i64 0),.val (.int .i64 0),.val (.string ((⟨#[]⟩:ByteArray))),.list ([]) .full,.list ([]) .full],[.val (.int .i64 a1.kind),.val (.int .i64 a1.int),.val (.int .i64 a1.scale),.val (.string a1.text),.list (b.map Bo) i,.list (a1.fields.map BM) .none]] [(6,b.length,i)] (E8 n a0 a1 a2 m t b=some r)) n ⟨0,([]),.full,([]),Rw,ef hs,ef hs,Owns.of_eq ((l).full 6 0) EA,h⟩ ?_
   rintro ml10 e st ⟨t,b,i,Xl10,Rl10,rfl,rfl,l,h⟩ Ul10 Vl10
   cases ml10 with
   | zero=>cases h
   | succ ml10 =>
   rw [E8] at h
   have hU:=l.unders
   simp only [List.mem_cons,List.not_mem_nil,or_false,forall_eq_or_imp,forall_eq] at hU
   refine AM hN U V rfl G l (Ju o l) (Ju o l) ?_
   refine rg [2,3,6,7,29,30,31,32] hs ?_
   apply Ah;intro K12 Z
   refine AN h hs (fun hs h=>?_) (fun hs h=>?_)
   rotate_left
   ·refine sx [6,7] hs N ?_
    exact ⟨b,a1.fields,(.list (b.map Bo) i),(.list (a1.fields.map BM) .none),([]),Rl10,ef hs,ef hs,(l).sub (List.sublist_append_left [] [(6,b.length,i)]),ef hs,ef hs,h⟩
   refine sk [2,3,6,7,29,30,31] hs Z ?_
   clear Z
   apply Ah;intro K14 aa
   apply Ak
   obtain ⟨ay,a4,h⟩:=bind_some h
   obtain ⟨bg,bd,au⟩:=AA a4
   have ak:=AB (f:=Bo) au
   have hs:=Aa ak hs
   refine rg [2,3,6,7,9,29,30,31] hs ?_
   obtain ⟨a8,bh,be,K,h⟩:=ix HF h
   have ap:(a0.elem.map HF).getD 0 .junk=_:=K
   obtain ⟨bi,a5,h⟩:=bind_some h
   have aq:=l.pre
   obtain ⟨ab,h⟩:=Aj h
   obtain ⟨a7,Y,l,u⟩:=l.append (P:=Tryz.prog) RY (by rw [MR];rfl) (by decide) 1 ab.1 ab.2
   replace u:=fun (ys:List AV) B L o2=>u (b.map Bo) ys B L o2 EA
   replace u:=fun (y:AV) B L o2=>u [y] B L o2 EA ev
   try simp only [List.mem_singleton,List.mem_cons,List.not_mem_nil,or_false,forall_eq_or_imp,forall_eq,List.map_append,List.map_cons,List.map_nil,FP,FN,Fz,FB,FK,Fa,Ea,Eb,FA,Db,Da,Ed,Ek,Ef] at u
   have hs:=Aa K hs
   have hs:=Aa ap hs
   have hs:=Aa u hs
   refine dk 10 2 1 [2,3,6,7,29,30,31] hs HH ?_
   refine F7 _ (ha2 a8 ay _ a5 _ _ px aq) (hv hs) ?_
   refine dn hs aa ?_
   clear aa
   obtain ⟨bl,h⟩:=Aj h
   refine rl [2,3,6,7,29,30,31] hs (fun e s=>Vl10 ml10 e s (Nat.lt_succ_self _)) ?_
   exact ⟨(t+1),(b++([bi])),a7,([ay.cs]),Y,ef hs,ef hs,Owns.of_eq (l) EA,h⟩
  refine rg [2,3,4,6,7,48] hs ?_
  refine AN h hs (fun hs h=>?_) (fun hs h=>?_)
  ·have hs:=Aa (Vl.cs_eqs a1) hs
   refine rg [2,3,4,6,7] hs ?_
   refine rg [2,3,6,7,54,55,56] hs ?_
   apply Ak
   refine AC (fun m e st=>∃ (j:Int) (a:List (ByteArray × Vl)) (c:Ev.Own),Ck e st B Rw L [(2,true,.clo fa2 ca2),(3,true,.box B.length 0),(6,true,.box (B.length+2) 0),(7,true,.box (B.length+3) 0),(54,true,.list (a1.fields.map BM) .none),(55,true,.val (.int .i64 (a1.fields.length:Int))),(56,true,.val (.int .i64 j))] [a0.cs,a1.cs,[.val (.int .i64 0),.val (.int .i64 0),.val (.int .i64 0),.val (.string ((⟨#[]⟩:ByteArray))),.list ([]) .full,.list ([]) .full],[.val (.int .i64 a1.kind),.val (.int .i64 a1.int),.val (.int .i64 a1.scale),.val (.string a1.text),.list (a1.list.map Bo) .none,.list (a.map BM) c]] [(7,a.length,c)] (GH n a0 a1 a2 m j a=some r)) n ⟨0,([]),.full,([]),Rw,ef hs,ef hs,Owns.of_eq ((l).full 7 0) EA,h⟩ ?_
   rintro ml29 e st ⟨j,a,c,Xl29,Rl29,rfl,rfl,l,h⟩ Ul29 Vl29
   cases ml29 with
   | zero=>cases h
   | succ ml29 =>
   rw [GH] at h
   have hU:=l.unders
   simp only [List.mem_cons,List.not_mem_nil,or_false,forall_eq_or_imp,forall_eq] at hU
   refine AM hN U V rfl G l (Ju o l) (Ju o l) ?_
   refine rg [2,3,6,7,54,55,56,57] hs ?_
   apply Ah;intro K31 ah
   refine AN h hs (fun hs h=>?_) (fun hs h=>?_)
   rotate_left
   ·refine sx [6,7] hs N ?_
    exact ⟨a1.list,a,(.list (a1.list.map Bo) .none),(.list (a.map BM) c),([]),Rl29,ef hs,ef hs,(l).sub (List.sublist_append_left [] [(7,a.length,c)]),ef hs,ef hs,h⟩
   refine sk [2,3,6,7,54,55,56] hs ah ?_
   clear ah
   apply Ah;intro K33 ad
   apply Ak
   obtain ⟨H,a3,h⟩:=bind_some h
   obtain ⟨bk,bb,aj⟩:=AA a3
   have ao:=AB (f:=BM) aj
   have hs:=Aa ao hs
   refine rg [2,3,6,7,11,54,55,56] hs ?_
   refine Aw (fun e st=>∃ (d:List (ByteArray × Vl)) (g:ByteArray × Vl) (k:Ev.Own) (D:List AV),Ck e st B Rw L [(2,true,.clo fa2 ca2),(3,true,.box B.length 0),(6,true,.box (B.length+2) 0),(7,true,.box (B.length+3) 0),(11,true,.box (B.length+4) 0),(54,true,.list (a1.fields.map BM) .none),(55,true,.val (.int .i64 (a1.fields.length:Int))),(56,true,.val (.int .i64 j))] [a0.cs,a1.cs,[.val (.int .i64 0),.val (.int .i64 0),.val (.int .i64 0),.val (.string ((⟨#[]⟩:ByteArray))),.list ([]) .full,.list ([]) .full],[.val (.int .i64 a1.kind),.val (.int .i64 a1.int),.val (.int .i64 a1.scale),.val (.string a1.text),.list (a1.list.map Bo) .none,.list (d.map BM) k],D] [(7,d.length,k)] (D.map AV.pubCell = .val (.string g.1)::(g.2.cs)∧Jl n (GH n a0 a1 a2 ml29) j d g=some r)) ?_ ?_
   ·intro K38 af
    obtain ⟨E,av,h⟩:=bind_some h
    refine rc 2 [2,3,6,7,11,12,13,54,55,56] hs ?_;intro K39 ag
    refine Ai _ (Ft w0 n _ _ _ a0 H.1 _ av) (hv hs) ?_
    refine ne hs ag ?_
    clear ag
    refine rg [2,3,6,7,11,12,54,55,56,67] hs ?_
    refine AN h hs (fun hs h=>?_) (fun hs h=>?_)
    ·obtain ⟨J,aw,h⟩:=bind_some h
     have hs:=Aa (Vl.cs_eqs H.2) hs
     have hs:=Aa (Vl.cs_eqs J) hs
     refine rk 2 [2,3,6,7,11,54,55,56] hs ?_
     refine F7 _ (ha2 E.1.2.2.2.1 H.2 _ aw _ _ px l.pre) (hv hs) ?_
     refine ne hs af ?_
     exact ⟨a,((H.1,J)),c,([.val (.string H.1),.val (.int .i64 J.kind),.val (.int .i64 J.int),.val (.int .i64 J.scale),.val (.string J.text),.list (J.list.map Bo) .none,.list (J.fields.map BM) .none]),([.val (.int .i64 E.1.1)::(.val (.string E.1.2.1)::(.val (.int .i64 E.1.2.2.1)::((E.1.2.2.2.1.cs)++([.list (E.1.2.2.2.2.map Bo) .none]))))]),Rl29,ef (cm hs),ef (cm hs),Owns.of_eq (l) EA,ef (cm hs),h⟩
    refine sk [2,3,6,7,11,54,55,56] hs af ?_
    exact ⟨a,H,c,(.val (.string H.1)::(H.2.cs)),([.val (.int .i64 E.1.1)::(.val (.string E.1.2.1)::(.val (.int .i64 E.1.2.2.1)::((E.1.2.2.2.1.cs)++([.list (E.1.2.2.2.2.map Bo) .none]))))]),Rl29,ef (cm hs),ef (cm hs),Owns.of_eq (l) EA,ef (cm hs),h⟩
   ·clear h;rintro e st ⟨d,g,k,D,Xk37,Rk37,rfl,rfl,l,am,h⟩
    rw [Jl] at h
    refine Jn (B.length+4) (by first | rfl | (simp only [HQ,Gw,IG,Hw];rfl)) am ?_;simp +decide only [go_sem,Nat.reduceAdd]
    show GL _ _ _ _ _ _ _ _ [(2,true,.clo fa2 ca2),(3,true,.box B.length 0),(6,true,.box (B.length+2) 0),(7,true,.box (B.length+3) 0),(11,true,.box (B.length+4) 0),(54,true,.list (a1.fields.map BM) .none),(55,true,.val (.int .i64 (a1.fields.length:Int))),(56,true,.val (.int .i64 j))] ⟨B++([a0.cs,a1.cs,[.val (.int .i64 0),.val (.int .i64 0),.val (.int .i64 0),.val (.string ((⟨#[]⟩:ByteArray))),.list ([]) .full,.list ([]) .full],[.val (.int .i64 a1.kind),.val (.int .i64 a1.int),.val (.int .i64 a1.scale),.val (.string a1.text),.list (a1.list.map Bo) .none,.list (d.map BM) k],.val (.string g.1)::(g.2.cs)]++Xk37),Rk37,L⟩
    have hU:=l.unders
    simp only [List.mem_cons,List.not_mem_nil,or_false,forall_eq_or_imp,forall_eq] at hU
    refine AM hN U V rfl G l (Ju o l) (Ju o l) ?_
    obtain ⟨ae,h⟩:=Aj h
    obtain ⟨ba,Q,l,z⟩:=l.append (P:=Tryz.prog) OW (by rw [JD];rfl) (by decide) 1 ae.1 ae.2
    replace z:=fun (ys:List AV) B L o2=>z (d.map BM) ys B L o2 EA
    replace z:=fun (y:AV) B L o2=>z [y] B L o2 EA ev
    try simp only [List.mem_singleton,List.mem_cons,List.not_mem_nil,or_false,forall_eq_or_imp,forall_eq,List.map_append,List.map_cons,List.map_nil,FP,FN,Fz,FB,FK,Fa,Ea,Eb,FA,Db,Da,Ed,Ek,Ef] at z
    have hs:=Aa z hs
    refine rl [2,3,6,7,54,55,56] hs ad ?_
    clear ad
    obtain ⟨bm,h⟩:=Aj h
    refine rl [2,3,6,7,54,55,56] hs (fun e s=>Vl29 ml29 e s (Nat.lt_succ_self _)) ?_
    exact ⟨(j+1),(d++([g])),ba,([.val (.string g.1)::(g.2.cs)]),Q,ef hs,ef hs,Owns.of_eq (l) EA,h⟩
  refine rg [2,3,4,6,7,82] hs ?_
  refine AN h hs (fun hs h=>?_) (fun hs h=>?_)
  ·obtain ⟨F,a6,h⟩:=bind_some h
   refine rc 2 [2,4,6,7,14,15] hs ?_;intro K51 ai
   refine Ai _ (Ft w0 n _ _ _ a0 a1.text _ a6) (hv hs) ?_
   refine ne hs ai ?_
   clear ai
   refine rg [2,4,6,7,14,93] hs ?_
   refine AN h hs (fun hs h=>?_) (fun hs h=>?_)
   ·obtain ⟨bc,bf,bj,O,h⟩:=ix Bo h
    have ar:(a1.list.map Bo).getD 0 .junk=_:=O
    obtain ⟨ax,az,h⟩:=bind_some h
    have hs:=Aa O hs
    have hs:=Aa ar hs
    have hs:=Aa (Vl.cs_eqs a1) hs
    refine dk 10 2 1 [6,7] hs HH ?_
    refine F7 _ (ha2 F.1.2.2.2.1 bc _ az _ _ px l.pre) (hv hs) ?_
    refine dn hs N ?_
    exact ⟨([ax]),a1.fields,(.list (([ax]).map Bo) .full),(.list (a1.fields.map BM) .none),([.val (.int .i64 F.1.1)::(.val (.string F.1.2.1)::(.val (.int .i64 F.1.2.2.1)::((F.1.2.2.2.1.cs)++([.list (F.1.2.2.2.2.map Bo) .none]))))]),Rw,ef hs,ef hs,l,ef hs,ef hs,h⟩
   have hs:=Aa (Vl.cs_eqs a1) hs
   refine sk [6,7] hs N ?_
   exact ⟨a1.list,a1.fields,(.list (a1.list.map Bo) .none),(.list (a1.fields.map BM) .none),([.val (.int .i64 F.1.1)::(.val (.string F.1.2.1)::(.val (.int .i64 F.1.2.2.1)::((F.1.2.2.2.1.cs)++([.list (F.1.2.2.2.2.map Bo) .none]))))]),Rw,ef hs,ef hs,l,ef hs,ef hs,h⟩
  have hs:=Aa (Vl.cs_eqs a1) hs
  refine sk [6,7] hs N ?_
  exact ⟨a1.list,a1.fields,(.list (a1.list.map Bo) .none),(.list (a1.fields.map BM) .none),([]),Rw,ef hs,ef hs,l,ef hs,ef hs,h⟩
 ·clear h;rintro e st ⟨q,p,C,w,Xk4,Rk4,rfl,rfl,l,am,a9,h⟩
  rw [Dc] at h
  refine QQ (B.length+3) 4 (by first | rfl | (simp only [HQ,Gw,IG,Hw];rfl)) rfl am ?_;simp +decide only [go_sem,Nat.reduceAdd]
  refine QQ (B.length+3) 5 (by first | rfl | (simp only [HQ,Gw,IG,Hw];rfl)) rfl a9 ?_;simp +decide only [go_sem,Nat.reduceAdd]
  show GL _ _ _ _ _ _ _ _ [(6,true,.box (B.length+2) 0),(7,true,.box (B.length+3) 0)] ⟨B++([a0.cs,a1.cs,[.val (.int .i64 0),.val (.int .i64 0),.val (.int .i64 0),.val (.string ((⟨#[]⟩:ByteArray))),.list ([]) .full,.list ([]) .full],[.val (.int .i64 a1.kind),.val (.int .i64 a1.int),.val (.int .i64 a1.scale),.val (.string a1.text),.list (q.map Bo) .none,.list (p.map BM) .none]]++Xk4),Rk4,L⟩
  refine AM hN U V rfl G l (Ju o l) (Ju o l) ?_
  refine rg [6] hs ?_
  exact rt h hs G l
def FD (n:Nat) (g:Int→(List (ByteArray × Vl))→Option Vl) (b:Int) (b3_k24_5:List (ByteArray × Vl)) (b4_k24:ByteArray × Vl):Option Vl :=
 if (b3_k24_5.length+1)*104≤140737488355328∧b3_k24_5.length+1≤4611686018427387904 then
  if BQ (b+1) then
   g (b+1) (b3_k24_5++[b4_k24])
  else none
 else none
def LX (n:Nat) (b:Vl) (b3_k7_5:List (ByteArray × Vl)):Option Vl :=
 some (Vl.mk b.kind b.int b.scale b.text b.list b3_k7_5)
def DF (n:Nat) (s:Ty) (q:Vl) (y:Ty→Vl→Option Vl):Nat→Int→(List (ByteArray × Vl))→Option Vl
 | 0,_,_=>none
 | m+1,b,b3_l15_5 =>
  if decide (b<(q.fields.length:Int)) then
   (B7 q.fields b).bind fun g =>
   (Di n s g.1).bind fun h =>
   if h.2 then
    (y h.1.2.2.2.1 g.2).bind fun y30 =>
    FD n (DF n s q y m) b b3_l15_5 ((g.1,y30))
   else
    FD n (DF n s q y m) b b3_l15_5 g
  else
   LX n q b3_l15_5
def Ku (n:Nat) (b:Ty) (g:Vl) (h:Ty→Vl→Option Vl):Option Vl :=
 if b.kind=9 then
  DF n b g h n 0 ([])
 else none
theorem VK (w0:World) (n:Nat) (B:List (List AV)) (Rw:List RowA) (L:List LoopA) (a0:Ty) (a1:Vl) (fa2:FuncId) (ca2:List AV) (a2:Ty→Vl→Option Vl) (ha2:∀ (x0:Ty) (x1:Vl) r,a2 x0 x1=some r→∀ B' rows,B <+: B'→Rw <+: rows→ACalls Tryz.prog w0 fa2 ([.agg (x0.cs),.agg (x1.cs)]++ca2) ⟨B',rows,L⟩ fun v s=>v = .agg (r.cs)∧s=⟨B',rows,L⟩) (r:Vl) (h:Ku n a0 a1 a2=some r) :
  ACalls Tryz.prog w0 138 [.agg (a0.cs),.agg (a1.cs),.clo fa2 ca2] ⟨B,Rw,L⟩ fun x st=>∃ (o0:VO) (rows:List RowA),x = .agg ([.val (.int .i64 r.kind),.val (.int .i64 r.int),.val (.int .i64 r.scale),.val (.string r.text),.list (r.list.map Bo) .none,J5 o0 r.fields.length])∧st=⟨B,rows,L⟩∧Owns Rw rows [] .none [(o0,7,(r.fields).flatMap fun x=>(BM x).cells)]:=by
 rw [Ku] at h
 refine ACalls.finV (UG [true,true,true,true,true,false] (rs:=[.cell 6 46]) Tryz.func138 rfl rfl Tryz.ntmps138 (A1 Tryz.func138 rfl (by decide)) (Nat.le_of_ble_eq_true rfl) ?_)
 intro M0 W0 hN E G q hu
 dsimp only at hN E G q hu
 simp only [Au]
 have k:=Owns.none Rw
 have hs:=Yc
 have o:=CH (hu (.clo fa2 ca2) (by simp))
 obtain ⟨ae,h⟩:=Aj h
 have z:(decide (a0.kind=9))=true:=Ad ae
 have C:(decide (a0.kind=8))=false:=Ac (by omega)
 have hs:=Aa z hs
 have hs:=Aa C hs
 refine rg [2,3,4,6] hs ?_
 refine rg [2,3,4,6,7] hs ?_
 refine Aw (fun e st=>∃ (j:List (ByteArray × Vl)) (l:VO) (Xk7:List (List AV)) (Rk7:List RowA),e=[(6,true,.box (B.length+2) 0),(7,true,.box (B.length+3) 0)]∧st=⟨B++([a0.cs,a1.cs,[.val (.int .i64 0),.val (.int .i64 0),.val (.int .i64 0),.val (.string ((⟨#[]⟩:ByteArray))),.list ([]) .full,.list ([]) .full],[.val (.int .i64 a1.kind),.val (.int .i64 a1.int),.val (.int .i64 a1.scale),.val (.string a1.text),.list (a1.list.map Bo) .none,J5 l j.length]]++Xk7),Rk7,L⟩∧Owns Rw Rk7 [] .none [(l,7,j.flatMap fun x=>(BM x).cells)]∧LX n a1 j=some r) ?_ ?_
 ·intro K8 aa
  apply Ak
  refine rg [2,3,4,6,7,17] hs ?_
  refine A4 false ev (ef hs) (fun hb10=>by cases hb10) (fun hb10=>?_)
  refine rg [2,3,4,6,7,48] hs ?_
  refine A4 true ev (ef hs) (fun hb12=>?_) (fun hb12=>by cases hb12)
  have hs:=Aa (Vl.cs_eqs a1) hs
  refine rg [2,3,4,6,7] hs ?_
  refine rg [2,3,6,7,54,55,56] hs ?_
  apply Ak
  refine NI (B.length+3) 5 (by simp only [HQ,Gw,IG,Hw];rfl) rfl ?_;simp +decide only [go_sem,Nat.reduceAdd,List.set_cons_zero,List.set_cons_succ]
  have k:=k.nilV 7
  refine AC (fun m e st=>∃ (g:Int) (c:List (ByteArray × Vl)) (d:VO) (Xl15:List (List AV)) (Rl15:List RowA),e=[(2,true,.clo fa2 ca2),(3,true,.box B.length 0),(6,true,.box (B.length+2) 0),(7,true,.box (B.length+3) 0),(54,true,.list (a1.fields.map BM) .none),(55,true,.val (.int .i64 (a1.fields.length:Int))),(56,true,.val (.int .i64 g))]∧st=⟨B++([a0.cs,a1.cs,[.val (.int .i64 0),.val (.int .i64 0),.val (.int .i64 0),.val (.string ((⟨#[]⟩:ByteArray))),.list ([]) .full,.list ([]) .full],[.val (.int .i64 a1.kind),.val (.int .i64 a1.int),.val (.int .i64 a1.scale),.val (.string a1.text),.list (a1.list.map Bo) .none,J5 d c.length]]++Xl15),Rl15,L⟩∧Owns Rw Rl15 [] .none [(d,7,c.flatMap fun x=>(BM x).cells)]∧DF n a0 a1 a2 m g c=some r) n ⟨0,([]),.nil,([]),Rw,ef hs,ef hs,Owns.eqV (k) Yo,h⟩ ?_
  rintro ml15 e st ⟨g,c,d,Xl15,Rl15,rfl,rfl,k,h⟩ Ul15 Vl15
  cases ml15 with
  | zero=>cases h
  | succ ml15 =>
  rw [DF] at h
  have y:=k.underV
  simp only [List.mem_cons,List.not_mem_nil,or_false,forall_eq_or_imp,forall_eq] at y
  refine AM hN E G rfl q k (Ju o k) (Ju o k) ?_ (vu @J2)
  refine rg [2,3,6,7,54,55,56,57] hs ?_
  apply Ah;intro K18 N
  refine AN h hs (fun hs h=>?_) (fun hs h=>?_)
  rotate_left
  ·refine sx [6,7] hs aa ?_
   exact ⟨c,d,([]),Rl15,ef hs,ef hs,Owns.eqV (k) Yo,h⟩
  refine sk [2,3,6,7,54,55,56] hs N ?_
  clear N
  apply Ah;intro K20 O
  apply Ak
  obtain ⟨w,Z,h⟩:=bind_some h
  obtain ⟨af,ag,Q⟩:=AA Z
  have U:=AB (f:=BM) Q
  have hs:=Aa U hs
  refine rg [2,3,6,7,11,54,55,56] hs ?_
  refine Aw (fun e st=>∃ (a:List (ByteArray × Vl)) (b:ByteArray × Vl) (i:VO) (p:List AV) (Xk24:List (List AV)) (Rk24:List RowA),e=[(2,true,.clo fa2 ca2),(3,true,.box B.length 0),(6,true,.box (B.length+2) 0),(7,true,.box (B.length+3) 0),(11,true,.box (B.length+4) 0),(54,true,.list (a1.fields.map BM) .none),(55,true,.val (.int .i64 (a1.fields.length:Int))),(56,true,.val (.int .i64 g))]∧st=⟨B++([a0.cs,a1.cs,[.val (.int .i64 0),.val (.int .i64 0),.val (.int .i64 0),.val (.string ((⟨#[]⟩:ByteArray))),.list ([]) .full,.list ([]) .full],[.val (.int .i64 a1.kind),.val (.int .i64 a1.int),.val (.int .i64 a1.scale),.val (.string a1.text),.list (a1.list.map Bo) .none,J5 i a.length],p]++Xk24),Rk24,L⟩∧Owns Rw Rk24 [] .none [(i,7,a.flatMap fun x=>(BM x).cells)]∧p.map AV.pubCell = .val (.string b.1)::(b.2.cs)∧FD n (DF n a0 a1 a2 ml15) g a b=some r) ?_ ?_
  ·intro K25 J
   obtain ⟨t,V,h⟩:=bind_some h
   refine rc 2 [2,3,6,7,11,12,13,54,55,56] hs ?_;intro K26 K
   refine Ai _ (Ft w0 n _ _ _ a0 w.1 _ V) (hv hs) ?_
   refine ne hs K ?_
   clear K
   refine rg [2,3,6,7,11,12,54,55,56,67] hs ?_
   refine AN h hs (fun hs h=>?_) (fun hs h=>?_)
   ·obtain ⟨u,Y,h⟩:=bind_some h
    have hs:=Aa (Vl.cs_eqs w.2) hs
    have hs:=Aa (Vl.cs_eqs u) hs
    refine rk 2 [2,3,6,7,11,54,55,56] hs ?_
    refine F7 _ (ha2 t.1.2.2.2.1 w.2 _ Y _ _ px k.pre) (hv hs) ?_
    refine ne hs J ?_
    exact ⟨c,((w.1,u)),d,([.val (.string w.1),.val (.int .i64 u.kind),.val (.int .i64 u.int),.val (.int .i64 u.scale),.val (.string u.text),.list (u.list.map Bo) .none,.list (u.fields.map BM) .none]),([.val (.int .i64 t.1.1)::(.val (.string t.1.2.1)::(.val (.int .i64 t.1.2.2.1)::((t.1.2.2.2.1.cs)++([.list (t.1.2.2.2.2.map Bo) .none]))))]),Rl15,ef (cm hs),ef (cm hs),Owns.eqV (k) Yo,ef (cm hs),h⟩
   refine sk [2,3,6,7,11,54,55,56] hs J ?_
   exact ⟨c,w,d,(.val (.string w.1)::(w.2.cs)),([.val (.int .i64 t.1.1)::(.val (.string t.1.2.1)::(.val (.int .i64 t.1.2.2.1)::((t.1.2.2.2.1.cs)++([.list (t.1.2.2.2.2.map Bo) .none]))))]),Rl15,ef (cm hs),ef (cm hs),Owns.eqV (k) Yo,ef (cm hs),h⟩
  ·clear h;rintro e st ⟨a,b,i,p,Xk24,Rk24,rfl,rfl,k,ab,h⟩
   rw [FD] at h
   refine Jn (B.length+4) (by first | rfl | (simp only [HQ,Gw,IG,Hw];rfl)) ab ?_;simp +decide only [go_sem,Nat.reduceAdd]
   show GL _ _ _ _ _ _ _ _ [(2,true,.clo fa2 ca2),(3,true,.box B.length 0),(6,true,.box (B.length+2) 0),(7,true,.box (B.length+3) 0),(11,true,.box (B.length+4) 0),(54,true,.list (a1.fields.map BM) .none),(55,true,.val (.int .i64 (a1.fields.length:Int))),(56,true,.val (.int .i64 g))] ⟨B++([a0.cs,a1.cs,[.val (.int .i64 0),.val (.int .i64 0),.val (.int .i64 0),.val (.string ((⟨#[]⟩:ByteArray))),.list ([]) .full,.list ([]) .full],[.val (.int .i64 a1.kind),.val (.int .i64 a1.int),.val (.int .i64 a1.scale),.val (.string a1.text),.list (a1.list.map Bo) .none,J5 i a.length],.val (.string b.1)::(b.2.cs)]++Xk24),Rk24,L⟩
   have y:=k.underV
   simp only [List.mem_cons,List.not_mem_nil,or_false,forall_eq_or_imp,forall_eq] at y
   refine AM hN E G rfl q k (Ju o k) (Ju o k) ?_ (vu @J2)
   obtain ⟨H,h⟩:=Aj h
   obtain ⟨ad,F,k,D⟩:=k.appendV (P:=Tryz.prog) (n:=a.length) (m:=1) OW (by rw [JD];rfl) (by decide) ((Hg (f:=BM) (sz:=7) (fun _=>by simp +decide only [go_sem]) _)) (by decide) H.1 H.2 [BM b] rfl ((a++[b]).flatMap fun x=>(BM x).cells) (by simp only [List.flatMap_append,List.flatMap_cons,List.flatMap_nil,List.append_nil,List.nil_append,VA])
   simp only [List.mem_singleton,forall_eq,FP,FN,Fz,FB,FK,Fa,Ea,Eb,FA,Db,Da,Ed,Ek,Ef] at D
   have hs:=Aa D hs
   refine rl [2,3,6,7,54,55,56] hs O ?_
   clear O
   obtain ⟨ah,h⟩:=Aj h
   refine rl [2,3,6,7,54,55,56] hs (fun e s=>Vl15 ml15 e s (Nat.lt_succ_self _)) ?_
   exact ⟨(g+1),(a++[b]),ad,([.val (.string b.1)::(b.2.cs)]),F,ef hs,ef hs,Owns.eqV (k) Yo,h⟩
 ·clear h;rintro e st ⟨j,l,Xk7,Rk7,rfl,rfl,k,h⟩
  rw [LX] at h
  have y:=k.underV
  simp only [List.mem_cons,List.not_mem_nil,or_false,forall_eq_or_imp,forall_eq] at y
  refine AM hN E G rfl q k (Ju o k) (Ju o k) ?_ (vu @J2)
  refine rg [6] hs ?_
  apply A2;simp +decide only [go_sem,Nat.reduceAdd,z,C]
  have hgt:=Option.some.inj h;subst hgt
  have y:=k.underV
  simp only [List.mem_cons,List.not_mem_nil,or_false,forall_eq_or_imp,forall_eq] at y
  refine ZdJ k q rfl (by (simp +decide only [go_sem,Nat.reduceAdd,z,C])<;>(try (repeat' apply Aa))<;>first | omega | assumption) (vu @J2) ⟨_,_,?_,rfl,k.sub (List.nil_sublist _)⟩
  first | rfl | (simp +decide only [go_sem,Nat.reduceAdd,z,C];done) | (simp +decide only [go_sem,Nat.reduceAdd,Vl.cs,Ty.cs,z,C];done)
def CW (n:Nat) (q:List (ByteArray × Vl)) (y:ByteArray) (s:(ByteArray × Vl)→ByteArray→Option Int) (b:Int):Option (Int × Bool) :=
 if decide (b<(q.length:Int)) then
  (B7 q b).bind fun g =>
  (s g y).bind fun h =>
  some ((b,decide (h=0)))
 else
  some ((b,false))
def A8 (n:Nat) (h:List (ByteArray × Vl)) (s:ByteArray) (q:(ByteArray × Vl)→ByteArray→Option Int):Nat→Int→Int→Option (Int × Bool)
 | 0,_,_=>none
 | m+1,g,b =>
  if decide (g<b) then
   if BQ (g+b) then
    if 0≤(g+b)∧(g+b)≤18446744073709551615 then
     if 0≤(g+b) then
      if BQ ((g+b) / 2) then
       (B7 h ((g+b) / 2)).bind fun y =>
       (q y s).bind fun y21 =>
       if decide (y21<0) then
        if BQ (((g+b) / 2)+1) then
         (A8 n h s q m) (((g+b) / 2)+1) b
        else none
       else
        (A8 n h s q m) g ((g+b) / 2)
      else none
     else none
    else none
   else none
  else
   CW n h s q g
def Dk (n:Nat) (b:List (ByteArray × Vl)) (g:ByteArray) (h:(ByteArray × Vl)→ByteArray→Option Int):Option (Int × Bool) :=
 A8 n b g h n 0 (b.length:Int)
theorem Jw (w0:World) (n:Nat) (B:List (List AV)) (Rw:List RowA) (L:List LoopA) (oa0:VO) (a0:List (ByteArray × Vl)) (hVa0:VP Rw oa0 7 (a0.flatMap fun x=>(BM x).cells)) (a1:ByteArray) (fa2:FuncId) (ca2:List AV) (a2:(ByteArray × Vl)→ByteArray→Option Int) (ha2:∀ (x0:ByteArray × Vl) (x1:ByteArray) r,a2 x0 x1=some r→∀ B' rows,B <+: B'→Rw <+: rows→ACalls Tryz.prog w0 fa2 ([.agg (.val (.string x0.1)::(x0.2.cs)),.val (.string x1)]++ca2) ⟨B',rows,L⟩ fun v s=>v = .val (.int .i64 r)∧s=⟨B',rows,L⟩) (r:Int × Bool) (h:Dk n a0 a1 a2=some r) :
  ACalls Tryz.prog w0 139 [J5 oa0 a0.length,.val (.string a1),.clo fa2 ca2] ⟨B,Rw,L⟩ fun x st=>x = .tup [.val (.int .i64 r.1),.val (.bool r.2)]∧st=⟨B,Rw,L⟩:=by
 rw [Dk] at h
 refine hd [.tmp 6,.tmp 7] Tryz.func139 Tryz.ntmps139 fun M0 W0 hN H O g hu c hs=>?_
 simp only [Au]
 have j:=CH (hu (.clo fa2 ca2) (by simp))
 refine rg [0,1,2] hs ?_
 apply Ah;intro K2 Q
 have G:=(hVa0.up c).lenV (by decide:0<7) (Hg (f:=BM) (sz:=7) (fun _=>by simp +decide only [go_sem]) a0) Tryz.prog 44
 simp +decide only [go_sem] at G
 have hs:=Aa G hs
 refine rl [0,1,2,8] hs Q ?_
 clear Q
 refine rg [0,1,2,8,9,10] hs ?_
 refine Aw (fun e st=>∃ (d:Int),Ck e st B Rw L [(0,true,J5 oa0 a0.length),(1,true,.val (.string a1)),(2,true,.clo fa2 ca2),(8,true,.val (.int .i64 (a0.length:Int))),(9,true,.val (.int .i64 d))] [] [] (CW n a0 a1 a2 d=some r)) ?_ ?_
 ·intro K7 af
  apply Ak
  refine AC (fun m e st=>∃ (b:Int) (a:Int),Ck e st B Rw L [(0,true,J5 oa0 a0.length),(1,true,.val (.string a1)),(2,true,.clo fa2 ca2),(8,true,.val (.int .i64 (a0.length:Int))),(9,true,.val (.int .i64 b)),(10,true,.val (.int .i64 a))] [] [] (A8 n a0 a1 a2 m b a=some r)) n ⟨0,(a0.length:Int),([]),Rw,ef hs,ef hs,c,h⟩ ?_
  rintro ml8 e st ⟨b,a,Xl8,Rl8,rfl,rfl,c,h⟩ Ul8 Vl8
  cases ml8 with
  | zero=>cases h
  | succ ml8 =>
  rw [A8] at h
  have i:=(hVa0.up c).under;(try simp only [QR] at i)
  refine AM hN H O rfl g c (Ju j c) (Ju j c) ?_
  apply Ah;intro K9 F
  refine rg [0,1,2,8,9,10,17] hs ?_
  refine AN h hs (fun hs h=>?_) (fun hs h=>?_)
  rotate_left
  ·refine sx [0,1,2,8,9] hs af ?_
   exact ⟨b,([]),Rl8,ef hs,ef hs,c,h⟩
  refine sk [0,1,2,8,9,10] hs F ?_
  clear F
  apply Ak
  obtain ⟨aj,h⟩:=Aj h
  obtain ⟨ai,h⟩:=Aj h
  obtain ⟨ak,h⟩:=Aj h
  obtain ⟨ao,h⟩:=Aj h
  refine rg [0,1,2,8,9,10,11] hs ?_
  apply Ah;intro K17 D
  obtain ⟨ad,K,h⟩:=bind_some h
  obtain ⟨Z,aa,u⟩:=AA K
  obtain ⟨ap,V,hqx18,Y,z⟩:=(hVa0.up c).row (by rw [(Hg (f:=BM) (sz:=7) (fun _=>by simp +decide only [go_sem]) _)];exact Nat.mul_pos (by omega) (by decide))
  subst hqx18
  have q:=YY (f:=BM) (sz:=7) (fun _=>by simp +decide only [go_sem]) u
  have l:=Ht (f:=fun x=>(BM x).cells) 7 (fun _=>by simp +decide only [go_sem]) u
  have w:=Hg (f:=BM) (sz:=7) (fun _=>by simp +decide only [go_sem]) a0
  simp only [FP,FN,Fz,FB,FK,Fa,Ea,Eb,FA,Db,Da,Ed,Ek,Ef,JZ] at q l z w
  obtain ⟨ar,E,h⟩:=bind_some h
  have hs:=Aa q hs
  have hs:=Aa l hs
  have hs:=Aa z hs
  have hs:=Aa w hs
  refine rk 2 [0,1,2,8,9,10,11,31] hs ?_
  refine F7 _ (ha2 ad a1 _ E _ _ px c.pre) (hv hs) ?_
  refine ne hs D ?_
  clear D
  refine AN h hs (fun hs h=>?_) (fun hs h=>?_)
  ·obtain ⟨am,h⟩:=Aj h
   refine rl [0,1,2,8,9,10] hs (fun e s=>Vl8 ml8 e s (Nat.lt_succ_self _)) ?_
   exact ⟨(((b+a) / 2)+1),a,([]),Rl8,ef hs,ef hs,c,h⟩
  refine rl [0,1,2,8,9,10] hs (fun e s=>Vl8 ml8 e s (Nat.lt_succ_self _)) ?_
  exact ⟨b,((b+a) / 2),([]),Rl8,ef hs,ef hs,c,h⟩
 ·clear h;rintro e st ⟨d,Xk6,Rk6,rfl,rfl,c,h⟩
  rw [CW] at h
  have i:=(hVa0.up c).under;(try simp only [QR] at i)
  refine AM hN H O rfl g c (Ju j c) (Ju j c) ?_
  apply Ah;intro K24 k
  rcases Bool.eq_false_or_eq_true (decide (d<(a0.length:Int))) with hf25 | hf25
  ·replace h:=Ba h hf25
   obtain ⟨ag,N,h⟩:=bind_some h
   obtain ⟨ab,ae,C⟩:=AA N
   obtain ⟨aq,U,hqx26,ah,o⟩:=(hVa0.up c).row (by rw [(Hg (f:=BM) (sz:=7) (fun _=>by simp +decide only [go_sem]) _)];exact Nat.mul_pos (by omega) (by decide))
   subst hqx26
   have y:=YY (f:=BM) (sz:=7) (fun _=>by simp +decide only [go_sem]) C
   have t:=Ht (f:=fun x=>(BM x).cells) 7 (fun _=>by simp +decide only [go_sem]) C
   have p:=Hg (f:=BM) (sz:=7) (fun _=>by simp +decide only [go_sem]) a0
   simp only [FP,FN,Fz,FB,FK,Fa,Ea,Eb,FA,Db,Da,Ed,Ek,Ef,JZ] at y t o p
   obtain ⟨au,J,h⟩:=bind_some h
   have hs:=Aa hf25 hs
   have hs:=Aa y hs
   have hs:=Aa t hs
   have hs:=Aa o hs
   have hs:=Aa p hs
   refine rk 2 [6,7] hs ?_
   refine F7 _ (ha2 ag a1 _ J _ _ px c.pre) (hv hs) ?_
   refine ne hs k ?_
   clear k
   exact rt h hs g c
  ·replace h:=A9 h hf25
   have hs:=Aa hf25 hs
   refine rk 2 [6,7] hs ?_
   refine AD ?_
   refine ne hs k ?_
   clear k
   exact rt h hs g c
def D1 (rec:Ty→Vl→Option Vl) (n:Nat) (g:Int→(List (ByteArray × Vl))→Option Vl) (b:Int) (b3_k28_5:List (ByteArray × Vl)):Option Vl :=
 if BQ (b+1) then
  g (b+1) b3_k28_5
 else none
def Jj (rec:Ty→Vl→Option Vl) (n:Nat) (b:Vl) (b3_k20_5:List (ByteArray × Vl)):Option Vl :=
 some (Vl.mk b.kind b.int b.scale b.text b.list b3_k20_5)
def BE (rec:Ty→Vl→Option Vl) (n:Nat) (s:Ty) (h:Vl):Nat→Int→(List (ByteArray × Vl))→Option Vl
 | 0,_,_=>none
 | m+1,b,b3_l23_5 =>
  if decide (b<(s.fields.length:Int)) then
   (B7 s.fields b).bind fun g =>
   if (!(decide (g.2.2.1=3)))||(!(decide ((g.2.2.2.2.length:Int)=1))) then
    D1 rec n (BE rec n s h m) b b3_l23_5
   else
    (Dk n b3_l23_5 g.2.1 (fun (x0:ByteArray × Vl) (x1:ByteArray)=>some (FH x0 x1))).bind fun q =>
    if !q.2 then
     (B7 g.2.2.2.2 0).bind fun y =>
     if (0≤q.1∧q.1≤(b3_l23_5.length:Int))∧(b3_l23_5.length+1)*104≤140737488355328∧b3_l23_5.length+1≤4611686018427387904 then
      D1 rec n (BE rec n s h m) b (MV b3_l23_5 q.1 ((g.2.1,y)))
     else none
    else
     D1 rec n (BE rec n s h m) b b3_l23_5
  else
   Jj rec n h b3_l23_5
def IC (rec:Ty→Vl→Option Vl) (n:Nat) (g:Ty) (b:Vl):Option Vl :=
 if !(decide (b.kind=g.kind)) then
  some (b)
 else
  (Hy n b).bind fun y7 =>
  if !y7 then
   some (b)
  else
   if decide (g.kind=9) then
    (Ku n g b (fun (q:Ty) (y:Vl)=>rec q y)).bind fun h =>
    BE rec n g h n 0 h.fields
   else
    (LD n g b (fun (q:Ty) (y:Vl)=>rec q y)).bind fun s =>
    some (s)
def C9:Nat→Ty→Vl→Option Vl
 | 0,_,_=>none
 | n+1,b,g=>IC (C9 n) n b g
def KI (w0:World) (F:Ty→Vl→Option Vl):Prop:=∀ (B:List (List AV)) (Rw:List RowA) (L:List LoopA) (b:Ty) (g:Vl) (r:Vl),F b g=some r→ACalls Tryz.prog w0 82 [.agg (b.cs),.agg (g.cs)] ⟨B,Rw,L⟩ fun x st=>x = .agg (r.cs)∧st=⟨B,Rw,L⟩
theorem QH (w0:World) (hT:Lib.Utf8Tabs 0 1 w0) (rec:Ty→Vl→Option Vl) (ih:KI w0 rec) (n:Nat):KI w0 (IC rec n):=by
 intro B Rw L a0 a1 r h
 rw [IC] at h
 refine hd [.cell 4 46] Tryz.func82 Tryz.ntmps82 fun M0 W0 hN H Q o hu p hs=>?_
 simp only [Au]
 refine rg [2,3,4] hs ?_
 apply Ah;intro K2 aj
 apply Ah;intro K3 y
 rcases Bool.eq_false_or_eq_true (!(decide (a1.kind=a0.kind))) with hf4 | hf4
 ·replace h:=Ba h hf4
  have hs:=Aa hf4 hs
  refine rk 2 [2,3,4,19] hs ?_
  refine AD ?_
  refine ne hs y ?_
  clear y
  refine A4 true ev (ef hs) (fun hb5=>?_) (fun hb5=>by cases hb5)
  refine rg [4] hs ?_
  exact rt h hs o p
 ·replace h:=A9 h hf4
  obtain ⟨y7,am,h⟩:=bind_some h
  have hs:=Aa hf4 hs
  refine rk 2 [2,3,4,19] hs ?_
  refine Ai _ (PL w0 hT n _ _ _ a1 _ am) (hv hs) ?_
  refine ne hs y ?_
  clear y
  refine AN h hs (fun hs h=>?_) (fun hs h=>?_)
  ·have Z:=hs.1
   refine rg [4] hs ?_
   exact rt h hs o p
  have Z:=hs.1
  refine sk [2,3,4] hs aj ?_
  clear aj
  apply Ah;intro K10 q
  rcases Bool.eq_false_or_eq_true (decide (a0.kind=9)) with hf11 | hf11
  ·replace h:=Ba h hf11
   obtain ⟨g,ah,h⟩:=bind_some h
   have hs:=Aa hf11 hs
   refine rk 2 [2,4,5] hs ?_
   refine BB _ (VK w0 n _ _ _ a0 a1 82 [] (fun (x0:Ty) (x1:Vl)=>rec x0 x1) (fun x0 x1 r hx B' v Y ab=>by exact ih _ _ _ x0 x1 _ hx) _ ah) (hv hs) ?_;rintro _ _ ⟨ap,Rv15,rfl,rfl,C⟩
   have p:=p.callV C
   refine ne hs q ?_
   clear q
   apply Ah;intro K16 E
   refine rg [2,4,5,26] hs ?_
   refine A4 false ev (ef hs) (fun hb18=>by cases hb18) (fun hb18=>?_)
   refine sk [2,4,5] hs E ?_
   clear E
   refine Aw (fun e st=>∃ (k:List (ByteArray × Vl)) (l:VO) (Xk20:List (List AV)) (Rk20:List RowA),e=[(4,true,.box (B.length+2) 0),(5,true,.box (B.length+3) 0)]∧st=⟨B++([a0.cs,a1.cs,[.val (.int .i64 0),.val (.int .i64 0),.val (.int .i64 0),.val (.string ((⟨#[]⟩:ByteArray))),.list ([]) .full,.list ([]) .full],[.val (.int .i64 g.kind),.val (.int .i64 g.int),.val (.int .i64 g.scale),.val (.string g.text),.list (g.list.map Bo) .none,J5 l k.length]]++Xk20),Rk20,L⟩∧Owns Rw Rk20 [] .none [(l,7,k.flatMap fun x=>(BM x).cells)]∧Jj rec n g k=some r) ?_ ?_
   ·intro K21 ag
    refine rg [4,5,29,30,31] hs ?_
    apply Ak
    refine AC (fun m e st=>∃ (c:Int) (a:List (ByteArray × Vl)) (b:VO) (Xl23:List (List AV)) (Rl23:List RowA),e=[(4,true,.box (B.length+2) 0),(5,true,.box (B.length+3) 0),(29,true,.list (a0.fields.map Cm) .none),(30,true,.val (.int .i64 (a0.fields.length:Int))),(31,true,.val (.int .i64 c))]∧st=⟨B++([a0.cs,a1.cs,[.val (.int .i64 0),.val (.int .i64 0),.val (.int .i64 0),.val (.string ((⟨#[]⟩:ByteArray))),.list ([]) .full,.list ([]) .full],[.val (.int .i64 g.kind),.val (.int .i64 g.int),.val (.int .i64 g.scale),.val (.string g.text),.list (g.list.map Bo) .none,J5 b a.length]]++Xl23),Rl23,L⟩∧Owns Rw Rl23 [] .none [(b,7,a.flatMap fun x=>(BM x).cells)]∧BE rec n a0 g m c a=some r) n ⟨0,g.fields,ap,([]),Rv15,ef hs,ef hs,Owns.eqV (p) Yo,h⟩ ?_
    rintro ml23 e st ⟨c,a,b,Xl23,Rl23,rfl,rfl,p,h⟩ Ul23 Vl23
    cases ml23 with
    | zero=>cases h
    | succ ml23 =>
    rw [BE] at h
    have w:=p.underV
    simp only [List.mem_cons,List.not_mem_nil,or_false,forall_eq_or_imp,forall_eq] at w
    refine AM hN H Q rfl o p ow ow ?_ (vu @J2)
    refine rg [4,5,29,30,31,32] hs ?_
    apply Ah;intro K25 D
    refine AN h hs (fun hs h=>?_) (fun hs h=>?_)
    rotate_left
    ·refine sx [4,5] hs ag ?_
     exact ⟨a,b,([]),Rl23,ef hs,ef hs,Owns.eqV (p) Yo,h⟩
    refine sk [4,5,29,30,31] hs D ?_
    clear D
    refine Aw (fun e st=>∃ (d:List (ByteArray × Vl)) (j:VO) (Xk28:List (List AV)) (Rk28:List RowA),e=[(4,true,.box (B.length+2) 0),(5,true,.box (B.length+3) 0),(29,true,.list (a0.fields.map Cm) .none),(30,true,.val (.int .i64 (a0.fields.length:Int))),(31,true,.val (.int .i64 c))]∧st=⟨B++([a0.cs,a1.cs,[.val (.int .i64 0),.val (.int .i64 0),.val (.int .i64 0),.val (.string ((⟨#[]⟩:ByteArray))),.list ([]) .full,.list ([]) .full],[.val (.int .i64 g.kind),.val (.int .i64 g.int),.val (.int .i64 g.scale),.val (.string g.text),.list (g.list.map Bo) .none,J5 j d.length]]++Xk28),Rk28,L⟩∧Owns Rw Rk28 [] .none [(j,7,d.flatMap fun x=>(BM x).cells)]∧D1 rec n (BE rec n a0 g ml23) c d=some r) ?_ ?_
    ·intro K29 t
     apply Ak
     obtain ⟨i,ae,h⟩:=bind_some h
     obtain ⟨aq,ar,N⟩:=AA ae
     have U:=AB (f:=Cm) N
     have hs:=Aa U hs
     refine rg [4,5,7,29,30,31] hs ?_
     apply Ah;intro K32 F
     refine rg [4,5,7,29,30,31,43] hs ?_
     refine AN h hs (fun hs h=>?_) (fun hs h=>?_)
     ·refine sx [4,5,29,30,31] hs t ?_
      exact ⟨a,b,([.val (.int .i64 i.1)::(.val (.string i.2.1)::(.val (.int .i64 i.2.2.1)::((i.2.2.2.1.cs)++([.list (i.2.2.2.2.map Bo) .none]))))]),Rl23,ef hs,ef hs,Owns.eqV (p) Yo,h⟩
     refine sk [4,5,7,29,30,31] hs F ?_
     clear F
     apply Ah;intro K35 G
     obtain ⟨ai,hy36,h⟩:=bind_some h
     refine Vy 0 (by decide) ?_
     refine rk 2 [4,5,7,8,9,29,30,31] hs ?_
     refine Zdz [false,true,true] _ (Jw w0 n _ _ _ b a p.vp i.2.1 140 [] (fun (x0:ByteArray × Vl) (x1:ByteArray)=>some (FH x0 x1)) (fun x0 x1 r hx B' v Y ab=>by cases hx;exact Qf w0 _ _ _ x0 x1) _ hy36) (hv hs) ?_
     refine ne hs G ?_
     clear G
     refine rg [4,5,7,8,29,30,31,53] hs ?_
     refine AN h hs (fun hs h=>?_) (fun hs h=>?_)
     ·obtain ⟨V,au,ao,u,h⟩:=ix Bo h
      have O:(i.2.2.2.2.map Bo).getD 0 .junk=_:=u
      obtain ⟨ad,h⟩:=Aj h
      obtain ⟨aa,K,z,p,J⟩:=ZR w0 p ai.1 ad ((i.2.1,V))
      refine Vy 0 (by decide) ?_
      have hs:=Aa u hs
      have hs:=Aa O hs
      refine dj 11 1 2 [4,5,29,30,31] hs HH ?_
      refine WP [false,true,true] _ (J _ _ _) (hv hs) ?_;rintro _ _ ⟨rfl,rfl⟩
      refine ne hs t ?_
      exact ⟨(MV a ai.1 ((i.2.1,V))),((.row aa K)),([.val (.int .i64 i.1)::(.val (.string i.2.1)::(.val (.int .i64 i.2.2.1)::((i.2.2.2.1.cs)++([.list (i.2.2.2.2.map Bo) .none]))))]),z,ef hs,ef hs,Owns.eqV (p) Yo,h⟩
     refine sk [4,5,29,30,31] hs t ?_
     exact ⟨a,b,([.val (.int .i64 i.1)::(.val (.string i.2.1)::(.val (.int .i64 i.2.2.1)::((i.2.2.2.1.cs)++([.list (i.2.2.2.2.map Bo) .none]))))]),Rl23,ef hs,ef hs,Owns.eqV (p) Yo,h⟩
    ·clear h;rintro e st ⟨d,j,Xk28,Rk28,rfl,rfl,p,h⟩
     rw [D1] at h
     have w:=p.underV
     simp only [List.mem_cons,List.not_mem_nil,or_false,forall_eq_or_imp,forall_eq] at w
     refine AM hN H Q rfl o p ow ow ?_ (vu @J2)
     obtain ⟨aw,h⟩:=Aj h
     refine rl [4,5,29,30,31] hs (fun e s=>Vl23 ml23 e s (Nat.lt_succ_self _)) ?_
     exact ⟨(c+1),d,j,([]),Rk28,ef hs,ef hs,Owns.eqV (p) Yo,h⟩
   ·clear h;rintro e st ⟨k,l,Xk20,Rk20,rfl,rfl,p,h⟩
    rw [Jj] at h
    have w:=p.underV
    simp only [List.mem_cons,List.not_mem_nil,or_false,forall_eq_or_imp,forall_eq] at w
    refine AM hN H Q rfl o p ow ow ?_ (vu @J2)
    refine rg [4] hs ?_
    refine S9 (B.length+2) 5 (by first | rfl | (simp only [HQ,Gw];rfl) | (simp +decide only [go_sem,Nat.reduceAdd,hf4,Z,hf11])) (by first | rfl | (simp only [ZaQ,List.length_set];rfl)) p true (.inl rfl) (by decide) ((Hg (f:=BM) (sz:=7) (fun _=>by simp +decide only [go_sem]) _)) (Zbc (f:=BM) 7 (fun _=>rfl) (fun _=>by simp +decide only [go_sem]) _) (fun ak p=>?_)
    simp +decide only [go_sem,Nat.reduceAdd,List.set_cons_zero,List.set_cons_succ]
    exact rt h hs o p
  ·replace h:=A9 h hf11
   obtain ⟨ax,af,h⟩:=bind_some h
   have hs:=Aa hf11 hs
   refine rk 2 [2,4,5] hs ?_
   refine Ai _ (X3 w0 n _ _ _ a0 a1 82 [] (fun (x0:Ty) (x1:Vl)=>rec x0 x1) (fun x0 x1 r hx B' v Y ab=>by exact ih _ _ _ x0 x1 _ hx) _ af) (hv hs) ?_
   refine ne hs q ?_
   clear q
   apply Ah;intro K49 av
   refine rg [2,4,5,26] hs ?_
   refine A4 true ev (ef hs) (fun hb51=>?_) (fun hb51=>by cases hb51)
   refine rg [4] hs ?_
   exact rt h hs o p
theorem N7 (w0:World) (hT:Lib.Utf8Tabs 0 1 w0):∀ n:Nat,KI w0 (C9 n)
 | 0=>fun _ _ _ _ _ _ h=>(nomatch h)
 | n+1=>QH w0 hT (C9 n) (N7 w0 hT n) n
end Go.Proofs.YtgpmlelfkjfbiaaGreatDoor
namespace Go.Ev
open Go Go.RowKit
theorem Rb {i j:Nat} (h:i≠j):∀ (B:List (List AV)) (a b:List AV),(B.set i a).set j b=(B.set j b).set i a:=fun B a b=>List.set_comm _ _ h
theorem JV (i:Nat):∀ (B:List (List AV)) (a b:List AV),(B.set i a).set i b=B.set i b:=fun B a b=>List.set_set a
theorem LL {B:List (List AV)} {l:Nat} {cs:List AV} (h:B[l]? = some cs) (i j:Nat):∀ (X:List (List AV)) (a b c:List AV),((B.set i a).set j b++X).set l c=((B.set i a).set j b).set l c++X:=fun X a b c=>List.set_append_left _ _ (by rw [List.length_set,List.length_set];exact (Ag.1 h).1)
theorem W5 {B:List (List AV)} {l j:Nat} {cs:List AV} (h:B[l]? = some cs) (hne:j≠l) :
  (∀ a b X R L o,DK ⟨(B.set l a).set j b++X,R,L⟩ (.box l o)=true)∧(∀ a b R L o,DK ⟨(B.set l a).set j b,R,L⟩ (.box l o)=true)∧(∀ a b X R L o,Bq ⟨(B.set l a).set j b++X,R,L⟩ (.box l o)=a)∧(∀ a b R L o,Bq ⟨(B.set l a).set j b,R,L⟩ (.box l o)=a) ∧
  (∀ a b X,((B.set l a).set j b++X)[l]? = some a)∧(∀ a b,((B.set l a).set j b)[l]? = some a)∧(∀ a b X,((B.set l a).set j b++X).getD l []=a)∧(∀ a b,((B.set l a).set j b).getD l []=a):=by
 have c:∀ a,(B.set l a)[l]? = some a:=fun a=>List.getElem?_set_self (Ag.1 h).1
 exact ⟨fun a b X R L o=>(Df (c a) hne).1 X R L o b,fun a b R L o=>(Df (c a) hne).2.1 R L o b,fun a b X R L o=>(Df (c a) hne).2.2.1 X R L o b,fun a b R L o=>(Df (c a) hne).2.2.2.1 R L o b,
  fun a b X=>(Df (c a) hne).2.2.2.2.1 X b,fun a b=>(Df (c a) hne).2.2.2.2.2.1 b,fun a b X=>(Df (c a) hne).2.2.2.2.2.2.1 X b,fun a b=>(Df (c a) hne).2.2.2.2.2.2.2 b⟩
theorem TD {B:List (List AV)} {l i:Nat} {cs:List AV} (h:B[l]? = some cs) (hne:i≠l) :
  (∀ a b X R L o,DK ⟨(B.set i a).set l b++X,R,L⟩ (.box l o)=true)∧(∀ a b R L o,DK ⟨(B.set i a).set l b,R,L⟩ (.box l o)=true)∧(∀ a b X R L o,Bq ⟨(B.set i a).set l b++X,R,L⟩ (.box l o)=b)∧(∀ a b R L o,Bq ⟨(B.set i a).set l b,R,L⟩ (.box l o)=b) ∧
  (∀ a b X,((B.set i a).set l b++X)[l]? = some b)∧(∀ a b,((B.set i a).set l b)[l]? = some b)∧(∀ a b X,((B.set i a).set l b++X).getD l []=b)∧(∀ a b,((B.set i a).set l b).getD l []=b):=by
 have c:∀ a b,((B.set i a).set l b)[l]? = some b:=fun a b=>List.getElem?_set_self (by rw [List.length_set];exact (Ag.1 h).1)
 exact ⟨fun a b X R L o=>(An (c a b)).1 X R L o,fun a b R L o=>(An (c a b)).2.1 R L o,fun a b X R L o=>(An (c a b)).2.2.1 X R L o,fun a b R L o=>(An (c a b)).2.2.2.1 R L o,
  fun a b X=>(An (c a b)).2.2.2.2.1 X,c,fun a b X=>(An (c a b)).2.2.2.2.2.2.1 X,fun a b=>(An (c a b)).2.2.2.2.2.2.2.1⟩
theorem Ze (B:List (List AV)) (i j:Nat) (c d:List AV):((B.set i c).set j d).length=B.length:=by simp only [List.length_set]
@[go_sem] theorem Zjq (B X:List (List AV)) (R:List RowA) (L:List LoopA) (i j k o:Nat) (c d:List AV):DK ⟨(B.set i c).set j d++X,R,L⟩ (.box (B.length+k) o)=decide (k<X.length):=by have h:=Zcp ((B.set i c).set j d) X R L k o;rwa [Ze] at h
@[go_sem] theorem Zin (B X:List (List AV)) (R:List RowA) (L:List LoopA) (i j o:Nat) (c d:List AV):DK ⟨(B.set i c).set j d++X,R,L⟩ (.box B.length o)=decide (0<X.length):=by have h:=ZM ((B.set i c).set j d) X R L o;rwa [Ze] at h
@[go_sem] theorem ZcF (B X:List (List AV)) (i j k:Nat) (c d:List AV):((B.set i c).set j d++X).getD (B.length+k) []=X.getD k []:=by have h:=WN (B.set i c) X j k d;rwa [List.length_set] at h
@[go_sem] theorem Zcm (B X:List (List AV)) (i j:Nat) (c d:List AV):((B.set i c).set j d++X).getD B.length []=X.getD 0 []:=by have h:=Um (B.set i c) X j d;rwa [List.length_set] at h
@[go_sem] theorem ZgU (B X:List (List AV)) (R:List RowA) (L:List LoopA) (i j k o:Nat) (c d:List AV):Bq ⟨(B.set i c).set j d++X,R,L⟩ (.box (B.length+k) o)=X.getD k []:=ZcF B X i j k c d
@[go_sem] theorem ZfB (B X:List (List AV)) (R:List RowA) (L:List LoopA) (i j o:Nat) (c d:List AV):Bq ⟨(B.set i c).set j d++X,R,L⟩ (.box B.length o)=X.getD 0 []:=Zcm B X i j c d
@[go_sem] theorem ZlO (B X:List (List AV)) (i j k:Nat) (c d x:List AV):((B.set i c).set j d++X).set (B.length+k) x=(B.set i c).set j d++X.set k x:=by have h:=Zdo (B.set i c) X j k d x;rwa [List.length_set] at h
@[go_sem] theorem Zki (B X:List (List AV)) (i j:Nat) (c d x:List AV):((B.set i c).set j d++X).set B.length x=(B.set i c).set j d++X.set 0 x:=by have h:=Zcg (B.set i c) X j d x;rwa [List.length_set] at h
@[go_sem] theorem ZlX (B X:List (List AV)) (i j k:Nat) (c d:List AV):((B.set i c).set j d++X)[B.length+k]? = X[k]? := by have h:=IG (B.set i c) X j k d;rwa [List.length_set] at h
@[go_sem] theorem ZkR (B X:List (List AV)) (i j:Nat) (c d:List AV):((B.set i c).set j d++X)[B.length]? = X[0]? := by have h:=Hw (B.set i c) X j d;rwa [List.length_set] at h
theorem Zgd {P:Program} {w0:World} {n:Nat} {M0:Mem} {W0:World} {ro:Option Nat} {c:Code} {Q:AQ} {e:Env} {B B' X:List (List AV)} {R:List RowA} {L:List LoopA} (h:B'=B) (k:GL P w0 n M0 W0 ro c Q e ⟨B'++X,R,L⟩):GL P w0 n M0 W0 ro c Q e ⟨B++X,R,L⟩:=h▸k
end Go.Ev
namespace Go.Proofs.YtgpmlelfkjfbiaaGreatDoor
open Go Go.RowKit Go.Ev
def NN (b:ByteArray × Int) (g:Bool):Option (Bool × Bool) :=
 some ((false,false))
theorem VG (w0:World) (B:List (List AV)) (Rw:List RowA) (L:List LoopA) (a0:ByteArray × Int) (la1:Nat) (a1:Bool) (hla1:B[la1]? = some ([.val (.bool a1)])) (r:Bool × Bool) (h:NN a0 a1=some r) :
  ACalls Tryz.prog w0 92 [.agg (.val (.string a0.1)::([.val (.int .i64 a0.2)])),.box la1 0] ⟨B,Rw,L⟩ fun x st=>x = .val (.bool r.1)∧st=⟨(B.set la1 [.val (.bool r.2)]),Rw,L⟩:=by
 rw [NN] at h
 refine hd [.tmp 3] Tryz.func92 Tryz.ntmps92 fun M0 W0 g e d a f c hs=>?_
 simp only [Au]
 have b:=(Ag.1 hla1).1
 have hs:=Aa (An hla1) hs
 refine rg [1] hs ?_
 refine rg [] hs ?_
 refine rg [3] hs ?_
 apply A2;simp +decide only [go_sem,Nat.reduceAdd,An hla1]
 have hgt:=Option.some.inj h;subst hgt
 first | refine DT (Ap a ev) HN c.pre ev ⟨?_,rfl⟩ | refine Fg (Ap a ev) HN c.pre ev ⟨?_,rfl⟩
 first | rfl | (simp +decide only [go_sem,Nat.reduceAdd,An hla1];done) | (simp +decide only [go_sem,Nat.reduceAdd,Vl.cs,Ty.cs,An hla1];done)
def Bl (a0_done:Bool) (x0_ok:Bool) (g:ByteArray) (h:Int):Option (Bool × Bool) :=
 if !a0_done then
  (NN ((g,h)) x0_ok).bind fun b =>
  if !b.1 then
   some ((true,b.2))
  else
   some ((a0_done,b.2))
 else
  some ((a0_done,x0_ok))
theorem CB (w0:World) (B:List (List AV)) (Rw:List RowA) (L:List LoopA) (lx0_ok:Nat) (la0:Nat) (a0_done:Bool) (hla0:B[la0]? = some ([.clo 92 [.box lx0_ok 0],.val (.bool a0_done)])) (x0_ok:Bool) (hlx0_ok:B[lx0_ok]? = some ([.val (.bool x0_ok)])) (hne_lx0_ok_la0:lx0_ok≠la0) (a1:ByteArray) (a2:Int) (r:Bool × Bool) (h:Bl a0_done x0_ok a1 a2=some r) :
  ACalls Tryz.prog w0 155 [.box la0 0,.val (.string a1),.val (.int .i64 a2)] ⟨B,Rw,L⟩ fun x st=>x = .tup []∧st=⟨((B.set la0 ([.clo 92 [.box lx0_ok 0],.val (.bool r.1)])).set lx0_ok [.val (.bool r.2)]),Rw,L⟩:=by
 rw [Bl] at h
 refine hd [] Tryz.func155 Tryz.ntmps155 fun M0 W0 m k j a l f hs=>?_
 simp only [Au]
 have g:=(Ag.1 hla0).1
 have e:=(Ag.1 hlx0_ok).1
 have b:=Aa (An hla0) (Aa (An hlx0_ok) (Aa (Df hla0 hne_lx0_ok_la0) (Aa (Df hlx0_ok (Ne.symm hne_lx0_ok_la0)) (Aa (Rb hne_lx0_ok_la0) (Aa (LP hla0 lx0_ok) (Aa (LP hlx0_ok la0) (Aa (LL hla0 la0 lx0_ok) (Aa (LL hlx0_ok la0 lx0_ok) (Aa (JV lx0_ok) (Aa (JV la0) (Aa (W5 hla0 hne_lx0_ok_la0) (TD hlx0_ok (Ne.symm hne_lx0_ok_la0)))))))))))))
 apply Ah;intro K1 d
 rcases Bool.eq_false_or_eq_true (!a0_done) with hf2 | hf2
 ·replace h:=Ba h hf2
  obtain ⟨n,i,h⟩:=bind_some h
  have hs:=Aa b hs
  have hs:=Aa hf2 hs
  refine rk 2 [0,21] hs ?_
  refine BB _ (VG w0 _ _ _ ((a1,a2)) lx0_ok x0_ok (ef hs) _ i) (hv hs) ?_;rintro _ _ ⟨rfl,rfl⟩
  refine ne hs d ?_
  clear d
  refine AN h hs (fun hs h=>?_) (fun hs h=>?_)
  ·have c:=hs.1
   apply Ao 1 []
   rw [Am];simp +decide only [go_sem,Nat.reduceAdd,b,hf2,c]
   (repeat' with_reducible apply Aa)<;>first | exact cl | skip
   have hgt:=Option.some.inj h;subst hgt
   first | refine DT (Ap (Ap a ow) ow) HN f.pre ev ⟨?_,by first | rfl | (simp only [Aq hla0,Aq hlx0_ok];done)⟩ | refine Fg (Ap (Ap a ow) ow) HN f.pre ev ⟨?_,by first | rfl | (simp only [Aq hla0,Aq hlx0_ok];done)⟩
   first | rfl | (simp +decide only [go_sem,Nat.reduceAdd,b,hf2,c];done) | (simp +decide only [go_sem,Nat.reduceAdd,Vl.cs,Ty.cs,b,hf2,c];done)
  have c:=hs.1
  refine D3 (Dz [] _) ?_ (Bm _ _)
  apply Br;simp +decide only [go_sem,Nat.reduceAdd]
  (repeat' with_reducible apply Aa)<;>first | exact cl | skip
  have hgt:=Option.some.inj h;subst hgt
  first | refine DT (Ap a ow) HN f.pre ev ⟨?_,by first | rfl | (simp only [Aq hla0,Aq hlx0_ok];done)⟩ | refine Fg (Ap a ow) HN f.pre ev ⟨?_,by first | rfl | (simp only [Aq hla0,Aq hlx0_ok];done)⟩
  first | rfl | (simp +decide only [go_sem,Nat.reduceAdd,b,hf2,c];done) | (simp +decide only [go_sem,Nat.reduceAdd,Vl.cs,Ty.cs,b,hf2,c];done)
 ·replace h:=A9 h hf2
  have hs:=Aa b hs
  have hs:=Aa hf2 hs
  refine rk 2 [0,21] hs ?_
  refine AD ?_
  refine ne hs d ?_
  clear d
  refine A4 false ev (ef hs) (fun hb5=>by cases hb5) (fun hb5=>?_)
  refine D3 (Dz [] _) ?_ (Bm _ _)
  apply Br;simp +decide only [go_sem,Nat.reduceAdd]
  (repeat' with_reducible apply Aa)<;>first | exact cl | skip
  have hgt:=Option.some.inj h;subst hgt
  first | refine DT a rfl f.pre ev ⟨?_,by first | rfl | (simp only [Aq hla0,Aq hlx0_ok];done)⟩ | refine Fg a rfl f.pre ev ⟨?_,by first | rfl | (simp only [Aq hla0,Aq hlx0_ok];done)⟩
  first | rfl | (simp +decide only [go_sem,Nat.reduceAdd,b,hf2];done) | (simp +decide only [go_sem,Nat.reduceAdd,Vl.cs,Ty.cs,b,hf2];done)
def BF (a0_done:Bool) (x0_ok:Bool) (b:Ty) (q:ByteArray) (h:Int):Option (Bool × Bool) :=
 if (decide (h<b.min))||(decide (b.max<h)) then
  (Bl a0_done x0_ok q 2).bind fun g =>
  some ((g.1,g.2))
 else
  some ((a0_done,x0_ok))
theorem EN (w0:World) (B:List (List AV)) (Rw:List RowA) (L:List LoopA) (lx0_ok:Nat) (la0:Nat) (a0_done:Bool) (hla0:B[la0]? = some ([.clo 92 [.box lx0_ok 0],.val (.bool a0_done)])) (x0_ok:Bool) (hlx0_ok:B[lx0_ok]? = some ([.val (.bool x0_ok)])) (hne_lx0_ok_la0:lx0_ok≠la0) (a1:Ty) (a2:ByteArray) (a3:Int) (r:Bool × Bool) (h:BF a0_done x0_ok a1 a2 a3=some r) :
  ACalls Tryz.prog w0 156 [.box la0 0,.agg (a1.cs),.val (.string a2),.val (.int .i64 a3)] ⟨B,Rw,L⟩ fun x st=>x = .tup []∧st=⟨((B.set la0 ([.clo 92 [.box lx0_ok 0],.val (.bool r.1)])).set lx0_ok [.val (.bool r.2)]),Rw,L⟩:=by
 rw [BF] at h
 refine hd [] Tryz.func156 Tryz.ntmps156 fun M0 W0 m j i a l e hs=>?_
 simp only [Au]
 have f:=(Ag.1 hla0).1
 have d:=(Ag.1 hlx0_ok).1
 have c:=Aa (An hla0) (Aa (An hlx0_ok) (Aa (Df hla0 hne_lx0_ok_la0) (Aa (Df hlx0_ok (Ne.symm hne_lx0_ok_la0)) (Aa (Rb hne_lx0_ok_la0) (Aa (LP hla0 lx0_ok) (Aa (LP hlx0_ok la0) (Aa (LL hla0 la0 lx0_ok) (Aa (LL hlx0_ok la0 lx0_ok) (Aa (JV lx0_ok) (Aa (JV la0) (Aa (W5 hla0 hne_lx0_ok_la0) (TD hlx0_ok (Ne.symm hne_lx0_ok_la0)))))))))))))
 have hs:=Aa c hs
 refine rg [0,2,3,5] hs ?_
 refine rg [0,2,17] hs ?_
 refine AN h hs (fun hs h=>?_) (fun hs h=>?_)
 ·have b:=hs.1
  obtain ⟨k,g,h⟩:=bind_some h
  apply Ao 2 []
  rw [Am];simp +decide only [go_sem,Nat.reduceAdd,c,b]
  (repeat' apply Aa)<;>first | (refine BB _ (CB w0 _ _ _ lx0_ok la0 a0_done (ef hs) x0_ok (ef hs) nq a2 2 _ g) (hv hs) ?_;rintro _ _ ⟨rfl,rfl⟩) | exact cl
  rw [Am];simp +decide only [go_sem,Nat.reduceAdd,c,b]
  (repeat' with_reducible apply Aa)<;>first | exact cl | skip
  have hgt:=Option.some.inj h;subst hgt
  first | refine DT (Ap (Ap a ow) ow) HN e.pre ev ⟨?_,by first | rfl | (simp only [Aq hla0,Aq hlx0_ok];done)⟩ | refine Fg (Ap (Ap a ow) ow) HN e.pre ev ⟨?_,by first | rfl | (simp only [Aq hla0,Aq hlx0_ok];done)⟩
  first | rfl | (simp +decide only [go_sem,Nat.reduceAdd,c,b];done) | (simp +decide only [go_sem,Nat.reduceAdd,Vl.cs,Ty.cs,c,b];done)
 have b:=hs.1
 refine D3 (Dz [] _) ?_ (Bm _ _)
 apply Br;simp +decide only [go_sem,Nat.reduceAdd]
 (repeat' with_reducible apply Aa)<;>first | exact cl | skip
 have hgt:=Option.some.inj h;subst hgt
 first | refine DT a rfl e.pre ev ⟨?_,by first | rfl | (simp only [Aq hla0,Aq hlx0_ok];done)⟩ | refine Fg a rfl e.pre ev ⟨?_,by first | rfl | (simp only [Aq hla0,Aq hlx0_ok];done)⟩
 first | rfl | (simp +decide only [go_sem,Nat.reduceAdd,c,b];done) | (simp +decide only [go_sem,Nat.reduceAdd,Vl.cs,Ty.cs,c,b];done)
def Hi (b:ByteArray) (g:ByteArray):Option ByteArray :=
 if Cb b ((⟨#[]⟩:ByteArray)) then
  some (g)
 else
  if b.size+((⟨#[46]⟩:ByteArray)).size≤9223372036854775807 then
   if (b++((⟨#[46]⟩:ByteArray))).size+g.size≤9223372036854775807 then
    some ((b++((⟨#[46]⟩:ByteArray)))++g)
   else none
  else none
theorem Ni (w0:World) (B:List (List AV)) (Rw:List RowA) (L:List LoopA) (a0:ByteArray) (a1:ByteArray) (r:ByteArray) (h:Hi a0 a1=some r) :
  ACalls Tryz.prog w0 202 [.val (.string a0),.val (.string a1)] ⟨B,Rw,L⟩ fun x st=>x = .val (.string r)∧st=⟨B,Rw,L⟩:=by
 rw [Hi] at h
 refine hd [.tmp 4] Tryz.func202 Tryz.ntmps202 fun M0 W0 l j i a k g hs=>?_
 simp only [Au]
 refine rg [0,1] hs ?_
 apply Ah;intro K2 d
 refine rg [0,1,6] hs ?_
 refine AN h hs (fun hs h=>?_) (fun hs h=>?_)
 ·refine rg [4] hs ?_
  exact rt h hs a g
 refine sk [0,1] hs d ?_
 clear d
 obtain ⟨f,h⟩:=Aj h
 have b:=f
 try simp +decide only [go_sem] at b
 obtain ⟨e,h⟩:=Aj h
 have c:=e
 try simp +decide only [go_sem] at c
 refine rg [4] hs ?_
 exact rt h hs a g
def BO (rec:Bool→Bool→Ty→Vl→ByteArray→Option (Bool × Bool)) (n:Nat) (g:Int→Bool→Bool→Option (Bool × Bool)) (b:Int) (pla0_k11_1:Bool) (plx0_ok_k11:Bool):Option (Bool × Bool) :=
 if BQ (b+1) then
  g (b+1) pla0_k11_1 plx0_ok_k11
 else none
def CZ (rec:Bool→Bool→Ty→Vl→ByteArray→Option (Bool × Bool)) (n:Nat) (g:Int→Bool→Bool→Option (Bool × Bool)) (b:Int) (pla0_k32_1:Bool) (plx0_ok_k32:Bool):Option (Bool × Bool) :=
 if BQ (b+1) then
  g (b+1) pla0_k32_1 plx0_ok_k32
 else none
def Bt (rec:Bool→Bool→Ty→Vl→ByteArray→Option (Bool × Bool)) (n:Nat) (a1:Ty) (q:Vl) (y:ByteArray):Nat→Int→Bool→Bool→Option (Bool × Bool)
 | 0,_,_,_=>none
 | m+1,b,pla0_l27_1,plx0_ok_l27 =>
  if decide (b<(q.fields.length:Int)) then
   (B7 q.fields b).bind fun h =>
   (Di n a1 h.1).bind fun s =>
   if !s.2 then
    (Hi y h.1).bind fun y40 =>
    (Bl pla0_l27_1 plx0_ok_l27 y40 6).bind fun g =>
    CZ rec n (Bt rec n a1 q y m) b g.1 g.2
   else
    CZ rec n (Bt rec n a1 q y m) b pla0_l27_1 plx0_ok_l27
  else
   some ((pla0_l27_1,plx0_ok_l27))
def E3 (rec:Bool→Bool→Ty→Vl→ByteArray→Option (Bool × Bool)) (n:Nat) (b:Ty) (h:Vl) (g:ByteArray) (pla0_k3_1:Bool) (plx0_ok_k3:Bool):Option (Bool × Bool) :=
 Bt rec n b h g n 0 pla0_k3_1 plx0_ok_k3
def Bg (rec:Bool→Bool→Ty→Vl→ByteArray→Option (Bool × Bool)) (n:Nat) (q:Ty) (y:Vl) (h:ByteArray):Nat→Int→Bool→Bool→Option (Bool × Bool)
 | 0,_,_,_=>none
 | m+1,b,pla0_l6_1,plx0_ok_l6 =>
  if decide (b<(q.fields.length:Int)) then
   (B7 q.fields b).bind fun g =>
   (HB n y g.2.1).bind fun y16 =>
   if y16.2 then
    (Hi h g.2.1).bind fun y19 =>
    (rec pla0_l6_1 plx0_ok_l6 g.2.2.2.1 y16.1 y19).bind fun s =>
    BO rec n (Bg rec n q y h m) b s.1 s.2
   else
    if !(decide (g.2.2.1=2)) then
     (Hi h g.2.1).bind fun y23 =>
     (Bl pla0_l6_1 plx0_ok_l6 y23 5).bind fun y24 =>
     BO rec n (Bg rec n q y h m) b y24.1 y24.2
    else
     BO rec n (Bg rec n q y h m) b pla0_l6_1 plx0_ok_l6
  else
   E3 rec n q y h pla0_l6_1 plx0_ok_l6
def HG (rec:Bool→Bool→Ty→Vl→ByteArray→Option (Bool × Bool)) (n:Nat) (a0_done:Bool) (x0_ok:Bool) (b:Ty) (h:Vl) (g:ByteArray):Option (Bool × Bool) :=
 Bg rec n b h g n 0 a0_done x0_ok
theorem Oe (w0:World) (rec:Bool→Bool→Ty→Vl→ByteArray→Option (Bool × Bool)) (ih:∀ (B:List (List AV)) (Rw:List RowA) (L:List LoopA) (lx0_ok:Nat) (la0:Nat) (a0_done:Bool) (hla0:B[la0]? = some ([.clo 92 [.box lx0_ok 0],.val (.bool a0_done)])) (x0_ok:Bool) (hlx0_ok:B[lx0_ok]? = some ([.val (.bool x0_ok)])) (hne_lx0_ok_la0:lx0_ok≠la0) (a1:Ty) (a2:Vl) (a3:ByteArray) (r:Bool × Bool) (h:rec a0_done x0_ok a1 a2 a3=some r),ACalls Tryz.prog w0 93 [.box la0 0,.agg (a1.cs),.agg (a2.cs),.val (.string a3)] ⟨B,Rw,L⟩ fun x st=>x = .tup []∧st=⟨((B.set la0 ([.clo 92 [.box lx0_ok 0],.val (.bool r.1)])).set lx0_ok [.val (.bool r.2)]),Rw,L⟩) (n:Nat) (B:List (List AV)) (Rw:List RowA) (L:List LoopA) (lx0_ok:Nat) (la0:Nat) (a0_done:Bool) (hla0:B[la0]? = some ([.clo 92 [.box lx0_ok 0],.val (.bool a0_done)])) (x0_ok:Bool) (hlx0_ok:B[lx0_ok]? = some ([.val (.bool x0_ok)])) (hne_lx0_ok_la0:lx0_ok≠la0) (a1:Ty) (a2:Vl) (a3:ByteArray) (r:Bool × Bool) (h:HG rec n a0_done x0_ok a1 a2 a3=some r) :
  ACalls Tryz.prog w0 158 [.box la0 0,.agg (a1.cs),.agg (a2.cs),.val (.string a3)] ⟨B,Rw,L⟩ fun x st=>x = .tup []∧st=⟨((B.set la0 ([.clo 92 [.box lx0_ok 0],.val (.bool r.1)])).set lx0_ok [.val (.bool r.2)]),Rw,L⟩:=by
 rw [HG] at h
 refine hd [] Tryz.func158 Tryz.ntmps158 fun M0 W0 hN H O w hu z hs=>?_
 simp only [Au]
 have ax:=(Ag.1 hla0).1
 have ae:=(Ag.1 hlx0_ok).1
 have D:=Aa (An hla0) (Aa (An hlx0_ok) (Aa (Df hla0 hne_lx0_ok_la0) (Aa (Df hlx0_ok (Ne.symm hne_lx0_ok_la0)) (Aa (Rb hne_lx0_ok_la0) (Aa (LP hla0 lx0_ok) (Aa (LP hlx0_ok la0) (Aa (LL hla0 la0 lx0_ok) (Aa (LL hlx0_ok la0 lx0_ok) (Aa (JV lx0_ok) (Aa (JV la0) (Aa (W5 hla0 hne_lx0_ok_la0) (TD hlx0_ok (Ne.symm hne_lx0_ok_la0)))))))))))))
 have hs:=Aa D hs
 refine rg [0,3,5,6] hs ?_
 refine Aw (fun e st=>∃ (t:Bool) (p:Bool) (Xk3:List (List AV)) (Rk3:List RowA),e=[(0,true,.box la0 0),(3,true,.val (.string a3)),(5,true,.box B.length 0),(6,true,.box (B.length+1) 0)]∧st=⟨((B.set la0 ([.clo 92 [.box lx0_ok 0],.val (.bool t)])).set lx0_ok ([.val (.bool p)]))++([a1.cs,a2.cs]++Xk3),Rk3,L⟩∧Owns Rw Rk3 []∧E3 rec n a1 a2 a3 t p=some r) ?_ ?_
 ·intro K4 a8
  refine rg [0,3,5,6,17,18,19] hs ?_
  apply Ak
  refine AC (fun m e st=>∃ (v:Int) (b:Bool) (a:Bool) (Xl6:List (List AV)) (Rl6:List RowA),e=[(0,true,.box la0 0),(3,true,.val (.string a3)),(5,true,.box B.length 0),(6,true,.box (B.length+1) 0),(17,true,.list (a1.fields.map Cm) .none),(18,true,.val (.int .i64 (a1.fields.length:Int))),(19,true,.val (.int .i64 v))]∧st=⟨((B.set la0 ([.clo 92 [.box lx0_ok 0],.val (.bool b)])).set lx0_ok ([.val (.bool a)]))++([a1.cs,a2.cs]++Xl6),Rl6,L⟩∧Owns Rw Rl6 []∧Bg rec n a1 a2 a3 m v b a=some r) n ⟨0,a0_done,x0_ok,([]),Rw,ef hs,ef hs,z,h⟩ ?_
  rintro ml6 e st ⟨v,b,a,Xl6,Rl6,rfl,rfl,z,h⟩ Ul6 Vl6
  cases ml6 with
  | zero=>cases h
  | succ ml6 =>
  rw [Bg] at h
  refine AM hN H O HN (Ap (Ap w ow) ow) z ow ow ?_
  refine rg [0,3,5,6,17,18,19,20] hs ?_
  apply Ah;intro K8 am
  refine AN h hs (fun hs h=>?_) (fun hs h=>?_)
  rotate_left
  ·have E:=hs.1
   refine sx [0,3,5,6] hs a8 ?_
   exact ⟨b,a,([]),Rl6,ef hs,ef hs,z,h⟩
  have E:=hs.1
  refine sk [0,3,5,6,17,18,19] hs am ?_
  clear am
  refine Aw (fun e st=>∃ (l:Bool) (g:Bool) (Xk11:List (List AV)) (Rk11:List RowA),e=[(0,true,.box la0 0),(3,true,.val (.string a3)),(5,true,.box B.length 0),(6,true,.box (B.length+1) 0),(17,true,.list (a1.fields.map Cm) .none),(18,true,.val (.int .i64 (a1.fields.length:Int))),(19,true,.val (.int .i64 v))]∧st=⟨((B.set la0 ([.clo 92 [.box lx0_ok 0],.val (.bool l)])).set lx0_ok ([.val (.bool g)]))++([a1.cs,a2.cs]++Xk11),Rk11,L⟩∧Owns Rw Rk11 []∧BO rec n (Bg rec n a1 a2 a3 ml6) v l g=some r) ?_ ?_
  ·intro K12 J
   apply Ak
   obtain ⟨j,au,h⟩:=bind_some h
   obtain ⟨a5,az,ab⟩:=AA au
   have u:=AB (f:=Cm) ab
   have hs:=Aa u hs
   refine rg [0,3,5,6,9,17,18,19] hs ?_
   obtain ⟨N,av,h⟩:=bind_some h
   refine rc 2 [0,3,5,6,9,10,11,17,18,19] hs ?_;intro K15 V
   refine Ai _ (Qp w0 n _ _ _ a2 j.2.1 _ av) (hv hs) ?_
   refine ne hs V ?_
   clear V
   refine rg [0,3,5,6,9,10,17,18,19,30] hs ?_
   refine AN h hs (fun hs h=>?_) (fun hs h=>?_)
   ·have y:=hs.1
    obtain ⟨a7,aj,h⟩:=bind_some h
    obtain ⟨ai,aq,h⟩:=bind_some h
    apply Ho HH [8] [0,3,5,6,17,18,19] kr (fun s=>∃ (X:List (List AV)) (rows:List RowA) (Y:List AV) (F:List AV),s=⟨((B.set la0 Y).set lx0_ok F)++([a1.cs,a2.cs,.val (.int .i64 j.1)::(.val (.string j.2.1)::(.val (.int .i64 j.2.2.1)::((j.2.2.2.1.cs)++([.list (j.2.2.2.2.map Bo) .none])))),N.1.cs]++X),rows,L⟩) 2 (B.length+4)
    ·simp +decide only [go_sem,Nat.reduceAdd]
    ·rintro s ⟨X,rows,Y,F,rfl⟩
     refine ⟨2,?_⟩
     rw [Am];simp +decide only [go_sem,Nat.reduceAdd,Eh,D,E,u,y]
     (repeat' apply Aa)<;>first | refine Ai _ (Ni w0 _ _ _ a3 j.2.1 _ aj) (hv hs) ?_ | exact cl
     rw [Am];simp +decide only [go_sem,Nat.reduceAdd,D,E,u,y]
     (repeat' apply Aa)<;>first | rfl | exact cl
    ·refine Good.mk [8] kr ⟨[],_,_,_,by first | rfl | simp only [List.append_nil,List.nil_append]⟩ ?_ ?_
     ·intro h;exact absurd h (by decide)
     ·intro i hi;simp only [List.mem_cons,List.not_mem_nil,or_false] at hi
      subst hi
      ·apply BU rfl rfl ev
       ·simp +decide only [go_sem,Nat.reduceAdd,DU,D,E,u,y]
        (repeat' with_reducible apply Aa)<;>first | exact Rx (ih _ _ _ lx0_ok la0 b (ef hs) a (ef hs) nq j.2.2.2.1 N.1 a7 _ aq) (hv hs) | rfl | exact cl
       ·simp +decide only [go_sem,Nat.reduceAdd,D,E,u,y]
        refine Good.mk [] kr ⟨[],_,_,_,by first | rfl | simp only [List.append_nil,List.nil_append]⟩ ?_ ?_
        ·intro _;apply CO [0,3,5,6,17,18,19];first | (simp +decide only [go_sem,Nat.reduceAdd,D,E,u,y];done) | (simp +decide only [go_sem,Nat.reduceAdd,D,E,u,y];rfl)
        ·intro i hi;cases hi
    simp +decide only [go_sem,Nat.reduceAdd,D,E,u,y]
    (repeat' apply Aa)<;>first | refine J _ _ ⟨ai.1,ai.2,([.val (.int .i64 j.1)::(.val (.string j.2.1)::(.val (.int .i64 j.2.2.1)::((j.2.2.2.1.cs)++([.list (j.2.2.2.2.map Bo) .none])))),N.1.cs]),Rl6,ef hs,ef hs,z,h⟩ | exact cl
   have y:=hs.1
   refine rg [0,3,5,6,9,17,18,19,42] hs ?_
   refine AN h hs (fun hs h=>?_) (fun hs h=>?_)
   ·obtain ⟨ay,ap,h⟩:=bind_some h
    obtain ⟨ao,ag,h⟩:=bind_some h
    refine rk 3 [0,3,5,6,17,18,19] hs ?_
    refine Ai _ (Ni w0 _ _ _ a3 j.2.1 _ ap) (hv hs) ?_
    refine nc hs ?_
    refine BB _ (CB w0 _ _ _ lx0_ok la0 b (ef hs) a (ef hs) nq ay 5 _ ag) (hv hs) ?_;rintro _ _ ⟨rfl,rfl⟩
    refine ne hs J ?_
    exact ⟨ao.1,ao.2,([.val (.int .i64 j.1)::(.val (.string j.2.1)::(.val (.int .i64 j.2.2.1)::((j.2.2.2.1.cs)++([.list (j.2.2.2.2.map Bo) .none])))),N.1.cs]),Rl6,ef hs,ef hs,z,h⟩
   refine sk [0,3,5,6,17,18,19] hs J ?_
   exact ⟨b,a,([.val (.int .i64 j.1)::(.val (.string j.2.1)::(.val (.int .i64 j.2.2.1)::((j.2.2.2.1.cs)++([.list (j.2.2.2.2.map Bo) .none])))),N.1.cs]),Rl6,ef hs,ef hs,z,h⟩
  ·clear h;rintro e st ⟨l,g,Xk11,Rk11,rfl,rfl,z,h⟩
   rw [BO] at h
   refine AM hN H O HN (Ap (Ap w ow) ow) z ow ow ?_
   obtain ⟨ba,h⟩:=Aj h
   refine rl [0,3,5,6,17,18,19] hs (fun e s=>Vl6 ml6 e s (Nat.lt_succ_self _)) ?_
   exact ⟨(v+1),l,g,([]),Rk11,ef hs,ef hs,z,h⟩
 ·clear h;rintro e st ⟨t,p,Xk3,Rk3,rfl,rfl,z,h⟩
  rw [E3] at h
  refine AM hN H O HN (Ap (Ap w ow) ow) z ow ow ?_
  refine rg [0,3,5,51,52,53] hs ?_
  apply Ak
  refine AC (fun m e st=>∃ (q:Int) (d:Bool) (c:Bool) (Xl27:List (List AV)) (Rl27:List RowA),e=[(0,true,.box la0 0),(3,true,.val (.string a3)),(5,true,.box B.length 0),(51,true,.list (a2.fields.map BM) .none),(52,true,.val (.int .i64 (a2.fields.length:Int))),(53,true,.val (.int .i64 q))]∧st=⟨((B.set la0 ([.clo 92 [.box lx0_ok 0],.val (.bool d)])).set lx0_ok ([.val (.bool c)]))++([a1.cs,a2.cs]++Xl27),Rl27,L⟩∧Owns Rw Rl27 []∧Bt rec n a1 a2 a3 m q d c=some r) n ⟨0,t,p,([]),Rk3,ef hs,ef hs,z,h⟩ ?_
  rintro ml27 e st ⟨q,d,c,Xl27,Rl27,rfl,rfl,z,h⟩ Ul27 Vl27
  cases ml27 with
  | zero=>cases h
  | succ ml27 =>
  rw [Bt] at h
  refine AM hN H O HN (Ap (Ap w ow) ow) z ow ow ?_
  refine rg [0,3,5,51,52,53,54] hs ?_
  apply Ah;intro K29 Q
  refine AN h hs (fun hs h=>?_) (fun hs h=>?_)
  rotate_left
  ·have K:=hs.1
   refine D3 (Dz [] _) ?_ (Bm _ _)
   apply KG;simp +decide only [go_sem,Nat.reduceAdd]
   (repeat' with_reducible apply Aa)<;>first | exact cl | skip
   have hgt:=Option.some.inj h;subst hgt
   first | refine DT (Ap (Ap w ow) ow) HN z.pre ev ⟨?_,by first | rfl | (simp only [Aq hla0,Aq hlx0_ok];done)⟩ | refine Fg (Ap (Ap w ow) ow) HN z.pre ev ⟨?_,by first | rfl | (simp only [Aq hla0,Aq hlx0_ok];done)⟩
   first | rfl | (simp +decide only [go_sem,Nat.reduceAdd,D,K];done) | (simp +decide only [go_sem,Nat.reduceAdd,Vl.cs,Ty.cs,D,K];done)
  have K:=hs.1
  refine sk [0,3,5,51,52,53] hs Q ?_
  clear Q
  refine Aw (fun e st=>∃ (o:Bool) (k:Bool) (Xk32:List (List AV)) (Rk32:List RowA),e=[(0,true,.box la0 0),(3,true,.val (.string a3)),(5,true,.box B.length 0),(51,true,.list (a2.fields.map BM) .none),(52,true,.val (.int .i64 (a2.fields.length:Int))),(53,true,.val (.int .i64 q))]∧st=⟨((B.set la0 ([.clo 92 [.box lx0_ok 0],.val (.bool o)])).set lx0_ok ([.val (.bool k)]))++([a1.cs,a2.cs]++Xk32),Rk32,L⟩∧Owns Rw Rk32 []∧CZ rec n (Bt rec n a1 a2 a3 ml27) q o k=some r) ?_ ?_
  ·intro K33 U
   apply Ak
   obtain ⟨G,aw,h⟩:=bind_some h
   obtain ⟨a6,a0,aa⟩:=AA aw
   have ad:=AB (f:=BM) aa
   have hs:=Aa ad hs
   refine rg [0,3,5,13,51,52,53] hs ?_
   obtain ⟨C,af,h⟩:=bind_some h
   refine rc 2 [0,3,5,13,15,51,52,53] hs ?_;intro K36 Z
   refine Ai _ (Ft w0 n _ _ _ a1 G.1 _ af) (hv hs) ?_
   refine ne hs Z ?_
   clear Z
   refine rg [0,3,5,13,51,52,53,65] hs ?_
   refine AN h hs (fun hs h=>?_) (fun hs h=>?_)
   ·obtain ⟨a4,ak,h⟩:=bind_some h
    obtain ⟨ah,ar,h⟩:=bind_some h
    refine rk 3 [0,3,5,51,52,53] hs ?_
    refine Ai _ (Ni w0 _ _ _ a3 G.1 _ ak) (hv hs) ?_
    refine nc hs ?_
    refine BB _ (CB w0 _ _ _ lx0_ok la0 d (ef hs) c (ef hs) nq a4 6 _ ar) (hv hs) ?_;rintro _ _ ⟨rfl,rfl⟩
    refine ne hs U ?_
    exact ⟨ah.1,ah.2,([.val (.string G.1)::(G.2.cs),.val (.int .i64 C.1.1)::(.val (.string C.1.2.1)::(.val (.int .i64 C.1.2.2.1)::((C.1.2.2.2.1.cs)++([.list (C.1.2.2.2.2.map Bo) .none]))))]),Rl27,ef hs,ef hs,z,h⟩
   refine sk [0,3,5,51,52,53] hs U ?_
   exact ⟨d,c,([.val (.string G.1)::(G.2.cs),.val (.int .i64 C.1.1)::(.val (.string C.1.2.1)::(.val (.int .i64 C.1.2.2.1)::((C.1.2.2.2.1.cs)++([.list (C.1.2.2.2.2.map Bo) .none]))))]),Rl27,ef hs,ef hs,z,h⟩
  ·clear h;rintro e st ⟨o,k,Xk32,Rk32,rfl,rfl,z,h⟩
   rw [CZ] at h
   refine AM hN H O HN (Ap (Ap w ow) ow) z ow ow ?_
   obtain ⟨a9,h⟩:=Aj h
   refine rl [0,3,5,51,52,53] hs (fun e s=>Vl27 ml27 e s (Nat.lt_succ_self _)) ?_
   exact ⟨(q+1),o,k,([]),Rk32,ef hs,ef hs,z,h⟩
def CS (rec:Bool→Bool→Ty→Vl→ByteArray→Option (Bool × Bool)) (n:Nat) (g:Int→Bool→Bool→Option (Bool × Bool)) (b:Int) (pla0_k53_1:Bool) (plx0_ok_k53:Bool):Option (Bool × Bool) :=
 if BQ (b+1) then
  g (b+1) pla0_k53_1 plx0_ok_k53
 else none
def Bz (rec:Bool→Bool→Ty→Vl→ByteArray→Option (Bool × Bool)) (n:Nat) (y:Ty) (s:Vl) (g:ByteArray):Nat→Int→Bool→Bool→Option (Bool × Bool)
 | 0,_,_,_=>none
 | m+1,b,pla0_l48_1,plx0_ok_l48 =>
  if decide (b<(s.list.length:Int)) then
   (B7 s.list b).bind fun x56 =>
   if g.size+((⟨#[91]⟩:ByteArray)).size≤9223372036854775807 then
    if BQ (b) then
     if (g++((⟨#[91]⟩:ByteArray))).size+((⟨(Lib.itoa b).toArray⟩:ByteArray)).size≤9223372036854775807 then
      if ((g++((⟨#[91]⟩:ByteArray)))++((⟨(Lib.itoa b).toArray⟩:ByteArray))).size+((⟨#[93]⟩:ByteArray)).size≤9223372036854775807 then
       if decide ((y.elem.length:Int)=1) then
        (B7 y.elem 0).bind fun x64 =>
        (rec pla0_l48_1 plx0_ok_l48 x64 x56 (((g++((⟨#[91]⟩:ByteArray)))++((⟨(Lib.itoa b).toArray⟩:ByteArray)))++((⟨#[93]⟩:ByteArray)))).bind fun h =>
        CS rec n (Bz rec n y s g m) b h.1 h.2
       else
        (Bl pla0_l48_1 plx0_ok_l48 (((g++((⟨#[91]⟩:ByteArray)))++((⟨(Lib.itoa b).toArray⟩:ByteArray)))++((⟨#[93]⟩:ByteArray))) 1).bind fun q =>
        CS rec n (Bz rec n y s g m) b q.1 q.2
      else none
     else none
    else none
   else none
  else
   some ((pla0_l48_1,plx0_ok_l48))
def CQ (rec:Bool→Bool→Ty→Vl→ByteArray→Option (Bool × Bool)) (n:Nat) (x0_ok:Bool) (a0_done:Bool) (g:Ty) (q:Vl) (h:ByteArray) (b:Bool):Option (Bool × Bool) :=
 if b then
  if (decide (g.kind=4))&&(decide (0<(g.words.length:Int))) then
   (BG n g.words q.text).bind fun y39 =>
   if !y39 then
    (Bl a0_done x0_ok h 4).bind fun s =>
    some ((s.1,s.2))
   else
    some ((a0_done,x0_ok))
  else
   (BF a0_done x0_ok g h (q.text.size:Int)).bind fun y =>
   some ((y.1,y.2))
 else
  if decide (g.kind=8) then
   (BF a0_done x0_ok g h (q.list.length:Int)).bind fun y46 =>
   Bz rec n g q h n 0 y46.1 y46.2
  else
   if decide (g.kind=9) then
    (HG rec n a0_done x0_ok g q h).bind fun y70 =>
    some ((y70.1,y70.2))
   else
    if decide (g.kind=10) then
     (Di n g q.text).bind fun y74 =>
     if y74.2 then
      (B7 q.list 0).bind fun x77 =>
      if h.size+((⟨#[63]⟩:ByteArray)).size≤9223372036854775807 then
       if (h++((⟨#[63]⟩:ByteArray))).size+q.text.size≤9223372036854775807 then
        (rec a0_done x0_ok y74.1.2.2.2.1 x77 ((h++((⟨#[63]⟩:ByteArray)))++q.text)).bind fun y80 =>
        some ((y80.1,y80.2))
       else none
      else none
     else
      (Bl a0_done x0_ok h 7).bind fun y81 =>
      some ((y81.1,y81.2))
    else
     some ((a0_done,x0_ok))
def BP (rec:Bool→Bool→Ty→Vl→ByteArray→Option (Bool × Bool)) (n:Nat) (x0_ok:Bool) (a0_done:Bool) (g:Ty) (q:Vl) (h:ByteArray) (b:Bool):Option (Bool × Bool) :=
 if b then
  (BF a0_done x0_ok g h q.int).bind fun y23 =>
  some ((y23.1,y23.2))
 else
  if decide (g.kind=3) then
   if !(decide (q.scale=g.scale)) then
    (Bl a0_done x0_ok h 3).bind fun s =>
    some ((s.1,s.2))
   else
    (BF a0_done x0_ok g h q.int).bind fun y =>
    some ((y.1,y.2))
  else
   if decide (g.kind=4) then
    CQ rec n x0_ok a0_done g q h true
   else
    CQ rec n x0_ok a0_done g q h (decide (g.kind=5))
def GT (rec:Bool→Bool→Ty→Vl→ByteArray→Option (Bool × Bool)) (n:Nat) (a0_done:Bool) (x0_ok:Bool) (b:Ty) (h:Vl) (g:ByteArray):Option (Bool × Bool) :=
 if a0_done then
  some ((a0_done,x0_ok))
 else
  if ((decide (b.kind<1))||(decide (10<b.kind)))||(!(decide (h.kind=b.kind))) then
   (Bl a0_done x0_ok g 1).bind fun y =>
   some ((y.1,y.2))
  else
   (Hy n h).bind fun s =>
   if !s then
    (Bl a0_done x0_ok g 8).bind fun q =>
    some ((q.1,q.2))
   else
    if decide (b.kind=2) then
     BP rec n x0_ok a0_done b h g true
    else
     if decide (b.kind=6) then
      BP rec n x0_ok a0_done b h g true
     else
      BP rec n x0_ok a0_done b h g (decide (b.kind=7))
def Cj:Nat→Bool→Bool→Ty→Vl→ByteArray→Option (Bool × Bool)
 | 0,_,_,_,_,_=>none
 | n+1,a0_done,x0_ok,b,h,g=>GT (Cj n) n a0_done x0_ok b h g
def IL (w0:World) (F:Bool→Bool→Ty→Vl→ByteArray→Option (Bool × Bool)):Prop:=∀ (B:List (List AV)) (Rw:List RowA) (L:List LoopA) (lx0_ok:Nat) (la0:Nat) (a0_done:Bool) (hla0:B[la0]? = some ([.clo 92 [.box lx0_ok 0],.val (.bool a0_done)])) (x0_ok:Bool) (hlx0_ok:B[lx0_ok]? = some ([.val (.bool x0_ok)])) (hne_lx0_ok_la0:lx0_ok≠la0) (b:Ty) (h:Vl) (g:ByteArray) (r:Bool × Bool),F a0_done x0_ok b h g=some r→ACalls Tryz.prog w0 93 [.box la0 0,.agg (b.cs),.agg (h.cs),.val (.string g)] ⟨B,Rw,L⟩ fun x st=>x = .tup []∧st=⟨((B.set la0 ([.clo 92 [.box lx0_ok 0],.val (.bool r.1)])).set lx0_ok [.val (.bool r.2)]),Rw,L⟩
theorem Ol (w0:World) (hP:Pow10 w0) (hT:Lib.Utf8Tabs 0 1 w0) (rec:Bool→Bool→Ty→Vl→ByteArray→Option (Bool × Bool)) (ih:IL w0 rec) (n:Nat):IL w0 (GT rec n):=by
 intro B Rw L j D t q x a v a1 a2 a3 r h
 rw [GT] at h
 refine hd [] Tryz.func93 Tryz.ntmps93 fun M0 W0 hN aj ak g hu G hs=>?_
 simp only [Au]
 have b1:=(Ag.1 q).1
 have ay:=(Ag.1 a).1
 have l:=Aa (An q) (Aa (An a) (Aa (Df q v) (Aa (Df a (Ne.symm v)) (Aa (Rb v) (Aa (LP q j) (Aa (LP a D) (Aa (LL q D j) (Aa (LL a D j) (Aa (JV j) (Aa (JV D) (Aa (W5 q v) (TD a (Ne.symm v)))))))))))))
 have hs:=Aa l hs
 refine rg [0,3,5,6] hs ?_
 apply Ah;intro K2 bw
 apply Ak
 refine rg [0,3,5,6,13] hs ?_
 refine AN h hs (fun hs h=>?_) (fun hs h=>?_)
 ·have k:=hs.1
  apply A2;simp +decide only [go_sem,Nat.reduceAdd,l,k]
  have hgt:=Option.some.inj h;subst hgt
  first | refine DT g rfl G.pre ev ⟨?_,by first | rfl | (simp only [Aq q,Aq a];done)⟩ | refine Fg g rfl G.pre ev ⟨?_,by first | rfl | (simp only [Aq q,Aq a];done)⟩
  first | rfl | (simp +decide only [go_sem,Nat.reduceAdd,l,k];done) | (simp +decide only [go_sem,Nat.reduceAdd,Vl.cs,Ty.cs,l,k];done)
 have k:=hs.1
 refine rg [0,3,5,6,18] hs ?_
 refine AN h hs (fun hs h=>?_) (fun hs h=>?_)
 ·have p:=hs.1
  obtain ⟨y8,b2,h⟩:=bind_some h
  refine rc 2 [] hs ?_;intro K7 b0
  refine BB _ (CB w0 _ _ _ j D t (ef hs) x (ef hs) nq a3 1 _ b2) (hv hs) ?_;rintro _ _ ⟨rfl,rfl⟩
  refine ne hs b0 ?_
  clear b0
  apply A2;simp +decide only [go_sem,Nat.reduceAdd,l,k,p]
  have hgt:=Option.some.inj h;subst hgt
  first | refine DT (Ap (Ap g ow) ow) HN G.pre ev ⟨?_,by first | rfl | (simp only [Aq q,Aq a];done)⟩ | refine Fg (Ap (Ap g ow) ow) HN G.pre ev ⟨?_,by first | rfl | (simp only [Aq q,Aq a];done)⟩
  first | rfl | (simp +decide only [go_sem,Nat.reduceAdd,l,k,p];done) | (simp +decide only [go_sem,Nat.reduceAdd,Vl.cs,Ty.cs,l,k,p];done)
 have p:=hs.1
 obtain ⟨co,bj,h⟩:=bind_some h
 refine rc 2 [0,3,5,6,37] hs ?_;intro K9 bi
 refine Ai _ (PL w0 hT n _ _ _ a2 _ bj) (hv hs) ?_
 refine ne hs bi ?_
 clear bi
 refine AN h hs (fun hs h=>?_) (fun hs h=>?_)
 ·have b:=hs.1
  obtain ⟨cd,bf,h⟩:=bind_some h
  refine rc 2 [] hs ?_;intro K12 ao
  refine BB _ (CB w0 _ _ _ j D t (ef hs) x (ef hs) nq a3 8 _ bf) (hv hs) ?_;rintro _ _ ⟨rfl,rfl⟩
  refine ne hs ao ?_
  clear ao
  apply A2;simp +decide only [go_sem,Nat.reduceAdd,l,k,p,b]
  have hgt:=Option.some.inj h;subst hgt
  first | refine DT (Ap (Ap g ow) ow) HN G.pre ev ⟨?_,by first | rfl | (simp only [Aq q,Aq a];done)⟩ | refine Fg (Ap (Ap g ow) ow) HN G.pre ev ⟨?_,by first | rfl | (simp only [Aq q,Aq a];done)⟩
  first | rfl | (simp +decide only [go_sem,Nat.reduceAdd,l,k,p,b];done) | (simp +decide only [go_sem,Nat.reduceAdd,Vl.cs,Ty.cs,l,k,p,b];done)
 have b:=hs.1
 refine sk [0,3,5,6] hs bw ?_
 clear bw
 refine rg [0,3,5,6,45] hs ?_
 apply Ak
 refine Aw (fun e st=>∃ (ab:Bool),Ck e st B Rw L [(0,true,.box D 0),(3,true,.val (.string a3)),(5,true,.box B.length 0),(6,true,.box (B.length+1) 0),(45,true,.val (.int .i64 a1.kind)),(46,true,.val (.bool ab))] [a1.cs,a2.cs] [] (BP rec n x t a1 a2 a3 ab=some r)) ?_ ?_
 ·intro K17 ai
  refine rg [0,3,5,6,45,46] hs ?_
  refine AN h hs (fun hs h=>?_) (fun hs h=>?_)
  ·refine sk [0,3,5,6,45,46] hs ai ?_
   exact ⟨true,([]),Rw,ef hs,ef hs,G,h⟩
  refine rg [0,3,5,6,45,46] hs ?_
  refine AN h hs (fun hs h=>?_) (fun hs h=>?_)
  ·refine sk [0,3,5,6,45,46] hs ai ?_
   exact ⟨true,([]),Rw,ef hs,ef hs,G,h⟩
  refine rl [0,3,5,6,45,46] hs ai ?_
  exact ⟨(decide (a1.kind=7)),([]),Rw,ef hs,ef hs,G,h⟩
 ·clear h;rintro e st ⟨ab,Xk16,Rk16,rfl,rfl,G,h⟩
  rw [BP] at h
  refine td hN aj ak g G ?_
  refine AN h hs (fun hs h=>?_) (fun hs h=>?_)
  ·have c:=hs.1
   obtain ⟨ce,bu,h⟩:=bind_some h
   apply Ao 2 []
   rw [Am];simp +decide only [go_sem,Nat.reduceAdd,l,k,p,b,c]
   (repeat' apply Aa)<;>first | (refine BB _ (EN w0 _ _ _ j D t (ef hs) x (ef hs) nq a1 a3 a2.int _ bu) (hv hs) ?_;rintro _ _ ⟨rfl,rfl⟩) | exact cl
   rw [Am];simp +decide only [go_sem,Nat.reduceAdd,l,k,p,b,c]
   (repeat' with_reducible apply Aa)<;>first | exact cl | skip
   have hgt:=Option.some.inj h;subst hgt
   first | refine DT (Ap (Ap g ow) ow) HN G.pre ev ⟨?_,by first | rfl | (simp only [Aq q,Aq a];done)⟩ | refine Fg (Ap (Ap g ow) ow) HN G.pre ev ⟨?_,by first | rfl | (simp only [Aq q,Aq a];done)⟩
   first | rfl | (simp +decide only [go_sem,Nat.reduceAdd,l,k,p,b,c];done) | (simp +decide only [go_sem,Nat.reduceAdd,Vl.cs,Ty.cs,l,k,p,b,c];done)
  have c:=hs.1
  refine rg [0,3,5,6,45,56] hs ?_
  refine AN h hs (fun hs h=>?_) (fun hs h=>?_)
  ·have d:=hs.1
   refine rg [0,3,5,6,62] hs ?_
   refine AN h hs (fun hs h=>?_) (fun hs h=>?_)
   ·have Z:=hs.1
    obtain ⟨ci,bb,h⟩:=bind_some h
    apply Ao 2 []
    rw [Am];simp +decide only [go_sem,Nat.reduceAdd,l,k,p,b,c,d,Z]
    (repeat' apply Aa)<;>first | (refine BB _ (CB w0 _ _ _ j D t (ef hs) x (ef hs) nq a3 3 _ bb) (hv hs) ?_;rintro _ _ ⟨rfl,rfl⟩) | exact cl
    rw [Am];simp +decide only [go_sem,Nat.reduceAdd,l,k,p,b,c,d,Z]
    (repeat' with_reducible apply Aa)<;>first | exact cl | skip
    have hgt:=Option.some.inj h;subst hgt
    first | refine DT (Ap (Ap g ow) ow) HN G.pre ev ⟨?_,by first | rfl | (simp only [Aq q,Aq a];done)⟩ | refine Fg (Ap (Ap g ow) ow) HN G.pre ev ⟨?_,by first | rfl | (simp only [Aq q,Aq a];done)⟩
    first | rfl | (simp +decide only [go_sem,Nat.reduceAdd,l,k,p,b,c,d,Z];done) | (simp +decide only [go_sem,Nat.reduceAdd,Vl.cs,Ty.cs,l,k,p,b,c,d,Z];done)
   have Z:=hs.1
   obtain ⟨cg,bk,h⟩:=bind_some h
   apply Ao 2 []
   rw [Am];simp +decide only [go_sem,Nat.reduceAdd,l,k,p,b,c,d,Z]
   (repeat' apply Aa)<;>first | (refine BB _ (EN w0 _ _ _ j D t (ef hs) x (ef hs) nq a1 a3 a2.int _ bk) (hv hs) ?_;rintro _ _ ⟨rfl,rfl⟩) | exact cl
   rw [Am];simp +decide only [go_sem,Nat.reduceAdd,l,k,p,b,c,d,Z]
   (repeat' with_reducible apply Aa)<;>first | exact cl | skip
   have hgt:=Option.some.inj h;subst hgt
   first | refine DT (Ap (Ap g ow) ow) HN G.pre ev ⟨?_,by first | rfl | (simp only [Aq q,Aq a];done)⟩ | refine Fg (Ap (Ap g ow) ow) HN G.pre ev ⟨?_,by first | rfl | (simp only [Aq q,Aq a];done)⟩
   first | rfl | (simp +decide only [go_sem,Nat.reduceAdd,l,k,p,b,c,d,Z];done) | (simp +decide only [go_sem,Nat.reduceAdd,Vl.cs,Ty.cs,l,k,p,b,c,d,Z];done)
  have d:=hs.1
  refine Aw (fun e st=>∃ (af:Bool),Ck e st B Rw L [(0,true,.box D 0),(3,true,.val (.string a3)),(5,true,.box B.length 0),(6,true,.box (B.length+1) 0),(45,true,.val (.int .i64 a1.kind)),(72,true,.val (.bool af))] [a1.cs,a2.cs] [] (CQ rec n x t a1 a2 a3 af=some r)) ?_ ?_
  ·intro K32 av
   refine rg [0,3,5,6,45,72] hs ?_
   refine AN h hs (fun hs h=>?_) (fun hs h=>?_)
   ·refine sk [0,3,5,6,45,72] hs av ?_
    exact ⟨true,([]),Rk16,ef hs,ef hs,G,h⟩
   refine rl [0,3,5,6,45,72] hs av ?_
   exact ⟨(decide (a1.kind=5)),([]),Rk16,ef hs,ef hs,G,h⟩
  ·clear h;rintro e st ⟨af,Xk31,Rk31,rfl,rfl,G,h⟩
   rw [CQ] at h
   refine td hN aj ak g G ?_
   refine AN h hs (fun hs h=>?_) (fun hs h=>?_)
   ·have o:=hs.1
    refine rg [0,3,5,6,83] hs ?_
    refine AN h hs (fun hs h=>?_) (fun hs h=>?_)
    ·have U:=hs.1
     obtain ⟨ck,bx,h⟩:=bind_some h
     refine rc 2 [0,3,89] hs ?_;intro K38 au
     refine Ai _ (EO w0 n _ _ _ a1.words a2.text _ bx) (hv hs) ?_
     refine ne hs au ?_
     clear au
     refine AN h hs (fun hs h=>?_) (fun hs h=>?_)
     ·have ae:=hs.1
      obtain ⟨cc,bp,h⟩:=bind_some h
      apply Ao 2 []
      rw [Am];simp +decide only [go_sem,Nat.reduceAdd,l,k,p,b,c,d,o,U,ae]
      (repeat' apply Aa)<;>first | (refine BB _ (CB w0 _ _ _ j D t (ef hs) x (ef hs) nq a3 4 _ bp) (hv hs) ?_;rintro _ _ ⟨rfl,rfl⟩) | exact cl
      rw [Am];simp +decide only [go_sem,Nat.reduceAdd,l,k,p,b,c,d,o,U,ae]
      (repeat' with_reducible apply Aa)<;>first | exact cl | skip
      have hgt:=Option.some.inj h;subst hgt
      first | refine DT (Ap (Ap g ow) ow) HN G.pre ev ⟨?_,by first | rfl | (simp only [Aq q,Aq a];done)⟩ | refine Fg (Ap (Ap g ow) ow) HN G.pre ev ⟨?_,by first | rfl | (simp only [Aq q,Aq a];done)⟩
      first | rfl | (simp +decide only [go_sem,Nat.reduceAdd,l,k,p,b,c,d,o,U,ae];done) | (simp +decide only [go_sem,Nat.reduceAdd,Vl.cs,Ty.cs,l,k,p,b,c,d,o,U,ae];done)
     have ae:=hs.1
     refine D3 (Dz [] _) ?_ (Bm _ _)
     apply Br;simp +decide only [go_sem,Nat.reduceAdd]
     (repeat' with_reducible apply Aa)<;>first | exact cl | skip
     have hgt:=Option.some.inj h;subst hgt
     first | refine DT g rfl G.pre ev ⟨?_,by first | rfl | (simp only [Aq q,Aq a];done)⟩ | refine Fg g rfl G.pre ev ⟨?_,by first | rfl | (simp only [Aq q,Aq a];done)⟩
     first | rfl | (simp +decide only [go_sem,Nat.reduceAdd,l,k,p,b,c,d,o,U,ae];done) | (simp +decide only [go_sem,Nat.reduceAdd,Vl.cs,Ty.cs,l,k,p,b,c,d,o,U,ae];done)
    have U:=hs.1
    obtain ⟨cn,bs,h⟩:=bind_some h
    apply Ao 2 []
    rw [Am];simp +decide only [go_sem,Nat.reduceAdd,l,k,p,b,c,d,o,U]
    (repeat' apply Aa)<;>first | (refine BB _ (EN w0 _ _ _ j D t (ef hs) x (ef hs) nq a1 a3 (a2.text.size:Int) _ bs) (hv hs) ?_;rintro _ _ ⟨rfl,rfl⟩) | exact cl
    rw [Am];simp +decide only [go_sem,Nat.reduceAdd,l,k,p,b,c,d,o,U]
    (repeat' with_reducible apply Aa)<;>first | exact cl | skip
    have hgt:=Option.some.inj h;subst hgt
    first | refine DT (Ap (Ap g ow) ow) HN G.pre ev ⟨?_,by first | rfl | (simp only [Aq q,Aq a];done)⟩ | refine Fg (Ap (Ap g ow) ow) HN G.pre ev ⟨?_,by first | rfl | (simp only [Aq q,Aq a];done)⟩
    first | rfl | (simp +decide only [go_sem,Nat.reduceAdd,l,k,p,b,c,d,o,U];done) | (simp +decide only [go_sem,Nat.reduceAdd,Vl.cs,Ty.cs,l,k,p,b,c,d,o,U];done)
   have o:=hs.1
   refine rg [0,3,5,6,45,100] hs ?_
   refine AN h hs (fun hs h=>?_) (fun hs h=>?_)
   ·have u:=hs.1
    obtain ⟨bc,bz,h⟩:=bind_some h
    refine rc 2 [0,3,5,6] hs ?_;intro K45 aw
    refine BB _ (EN w0 _ _ _ j D t (ef hs) x (ef hs) nq a1 a3 (a2.list.length:Int) _ bz) (hv hs) ?_;rintro _ _ ⟨rfl,rfl⟩
    refine ne hs aw ?_
    clear aw
    refine rg [0,3,5,110,111,112] hs ?_
    apply Ak
    refine AC (fun m e st=>∃ (w:Int) (C:Bool) (y:Bool) (Xl48:List (List AV)) (Rl48:List RowA),e=[(0,true,.box D 0),(3,true,.val (.string a3)),(5,true,.box B.length 0),(110,true,.list (a2.list.map Bo) .none),(111,true,.val (.int .i64 (a2.list.length:Int))),(112,true,.val (.int .i64 w))]∧st=⟨((B.set D ([.clo 92 [.box j 0],.val (.bool C)])).set j ([.val (.bool y)]))++([a1.cs,a2.cs]++Xl48),Rl48,L⟩∧Owns Rw Rl48 []∧Bz rec n a1 a2 a3 m w C y=some r) n ⟨0,bc.1,bc.2,([]),Rk31,ef hs,ef hs,G,h⟩ ?_
    rintro ml48 e st ⟨w,C,y,Xl48,Rl48,rfl,rfl,G,h⟩ Ul48 Vl48
    cases ml48 with
    | zero=>cases h
    | succ ml48 =>
    rw [Bz] at h
    refine AM hN aj ak HN (Ap (Ap g ow) ow) G ow ow ?_
    refine rg [0,3,5,110,111,112,113] hs ?_
    apply Ah;intro K50 ar
    refine AN h hs (fun hs h=>?_) (fun hs h=>?_)
    rotate_left
    ·have aa:=hs.1
     refine D3 (Dz [] _) ?_ (Bm _ _)
     apply KG;simp +decide only [go_sem,Nat.reduceAdd]
     (repeat' with_reducible apply Aa)<;>first | exact cl | skip
     have hgt:=Option.some.inj h;subst hgt
     first | refine DT (Ap (Ap g ow) ow) HN G.pre ev ⟨?_,by first | rfl | (simp only [Aq q,Aq a];done)⟩ | refine Fg (Ap (Ap g ow) ow) HN G.pre ev ⟨?_,by first | rfl | (simp only [Aq q,Aq a];done)⟩
     first | rfl | (simp +decide only [go_sem,Nat.reduceAdd,l,k,p,b,c,d,o,u,aa];done) | (simp +decide only [go_sem,Nat.reduceAdd,Vl.cs,Ty.cs,l,k,p,b,c,d,o,u,aa];done)
    have aa:=hs.1
    refine sk [0,3,5,110,111,112] hs ar ?_
    clear ar
    refine Aw (fun e st=>∃ (H:Bool) (E:Bool) (Xk53:List (List AV)) (Rk53:List RowA),e=[(0,true,.box D 0),(3,true,.val (.string a3)),(5,true,.box B.length 0),(110,true,.list (a2.list.map Bo) .none),(111,true,.val (.int .i64 (a2.list.length:Int))),(112,true,.val (.int .i64 w))]∧st=⟨((B.set D ([.clo 92 [.box j 0],.val (.bool H)])).set j ([.val (.bool E)]))++([a1.cs,a2.cs]++Xk53),Rk53,L⟩∧Owns Rw Rk53 []∧CS rec n (Bz rec n a1 a2 a3 ml48) w H E=some r) ?_ ?_
    ·intro K54 ax
     apply Ak
     obtain ⟨am,bl,h⟩:=bind_some h
     obtain ⟨b9,b4,a0⟩:=AA bl
     have Y:=AB (f:=Bo) a0
     have hs:=Aa Y hs
     refine rg [0,3,5,8,9,110,111,112] hs ?_
     obtain ⟨bv,h⟩:=Aj h
     have a6:=bv
     try simp +decide only [go_sem] at a6
     obtain ⟨be,h⟩:=Aj h
     obtain ⟨br,h⟩:=Aj h
     have a4:=br
     try simp +decide only [go_sem] at a4
     obtain ⟨bt,h⟩:=Aj h
     have a7:=bt
     try simp +decide only [go_sem] at a7
     refine rc 2 [0,3,5,9,10,110,111,112] hs ?_;intro K57 aq
     refine Ai _ (ZdO w0 _ _ _ hP w be) (hv hs) ?_
     refine ne hs aq ?_
     clear aq
     refine rg [0,3,5,9,10,110,111,112,126] hs ?_
     refine AN h hs (fun hs h=>?_) (fun hs h=>?_)
     ·have ad:=hs.1
      obtain ⟨b3,b6,b8,N,h⟩:=ix HF h
      have Q:(a1.elem.map HF).getD 0 .junk=_:=N
      obtain ⟨bm,bh,h⟩:=bind_some h
      apply Ho HH [7] [0,3,5,110,111,112] kr (fun s=>∃ (X:List (List AV)) (rows:List RowA) (ag:List AV) (V:List AV),s=⟨((B.set D ag).set j V)++([a1.cs,a2.cs,am.cs]++X),rows,L⟩) 2 (B.length+3)
      ·simp +decide only [go_sem,Nat.reduceAdd]
      ·rintro s ⟨X,rows,ag,V,rfl⟩
       refine ⟨1,?_⟩
       rw [Am];simp +decide only [go_sem,Nat.reduceAdd,Eh,l,k,p,b,c,d,o,u,aa,Y,ad,N,Q]
       (repeat' apply Aa)<;>first | rfl | exact cl
      ·refine Good.mk [7] kr ⟨[],_,_,_,by first | rfl | simp only [List.append_nil,List.nil_append]⟩ ?_ ?_
       ·intro h;exact absurd h (by decide)
       ·intro i hi;simp only [List.mem_cons,List.not_mem_nil,or_false] at hi
        subst hi
        ·apply BU rfl rfl ev
         ·simp +decide only [go_sem,Nat.reduceAdd,DU,l,k,p,b,c,d,o,u,aa,Y,ad,N,Q]
          have hs:=Aa N hs
          have hs:=Aa Q hs
          (repeat' with_reducible apply Aa)<;>first | exact Rx (ih _ _ _ j D C (ef hs) y (ef hs) nq b3 am (((a3++((⟨#[91]⟩:ByteArray)))++((⟨(Lib.itoa w).toArray⟩:ByteArray)))++((⟨#[93]⟩:ByteArray))) _ bh) (hv hs) | rfl | exact cl
         ·simp +decide only [go_sem,Nat.reduceAdd,l,k,p,b,c,d,o,u,aa,Y,ad,N,Q]
          refine Good.mk [] kr ⟨[],_,_,_,by first | rfl | simp only [List.append_nil,List.nil_append]⟩ ?_ ?_
          ·intro _;apply CO [0,3,5,110,111,112];first | (simp +decide only [go_sem,Nat.reduceAdd,l,k,p,b,c,d,o,u,aa,Y,ad,N,Q];done) | (simp +decide only [go_sem,Nat.reduceAdd,l,k,p,b,c,d,o,u,aa,Y,ad,N,Q];rfl)
          ·intro i hi;cases hi
      simp +decide only [go_sem,Nat.reduceAdd,l,k,p,b,c,d,o,u,aa,Y,ad,N,Q]
      have hs:=Aa N hs
      have hs:=Aa Q hs
      (repeat' apply Aa)<;>first | refine ax _ _ ⟨bm.1,bm.2,([am.cs]),Rl48,ef hs,ef hs,G,h⟩ | exact cl
     have ad:=hs.1
     obtain ⟨bd,a9,h⟩:=bind_some h
     refine rk 2 [0,3,5,110,111,112] hs ?_
     refine BB _ (CB w0 _ _ _ j D C (ef hs) y (ef hs) nq (((a3++((⟨#[91]⟩:ByteArray)))++((⟨(Lib.itoa w).toArray⟩:ByteArray)))++((⟨#[93]⟩:ByteArray))) 1 _ a9) (hv hs) ?_;rintro _ _ ⟨rfl,rfl⟩
     refine ne hs ax ?_
     exact ⟨bd.1,bd.2,([am.cs]),Rl48,ef hs,ef hs,G,h⟩
    ·clear h;rintro e st ⟨H,E,Xk53,Rk53,rfl,rfl,G,h⟩
     rw [CS] at h
     refine AM hN aj ak HN (Ap (Ap g ow) ow) G ow ow ?_
     obtain ⟨cb,h⟩:=Aj h
     refine rl [0,3,5,110,111,112] hs (fun e s=>Vl48 ml48 e s (Nat.lt_succ_self _)) ?_
     exact ⟨(w+1),H,E,([]),Rk53,ef hs,ef hs,G,h⟩
   have u:=hs.1
   refine rg [0,3,5,6,45,139] hs ?_
   refine AN h hs (fun hs h=>?_) (fun hs h=>?_)
   ·have z:=hs.1
    obtain ⟨cj,ba,h⟩:=bind_some h
    apply Ao 2 []
    rw [Am];simp +decide only [go_sem,Nat.reduceAdd,l,k,p,b,c,d,o,u,z]
    (repeat' apply Aa)<;>first | (refine BB _ (Oe w0 rec ih n _ _ _ j D t (ef hs) x (ef hs) nq a1 a2 a3 _ ba) (hv hs) ?_;rintro _ _ ⟨rfl,rfl⟩) | exact cl
    rw [Am];simp +decide only [go_sem,Nat.reduceAdd,l,k,p,b,c,d,o,u,z]
    (repeat' with_reducible apply Aa)<;>first | exact cl | skip
    have hgt:=Option.some.inj h;subst hgt
    first | refine DT (Ap (Ap g ow) ow) HN G.pre ev ⟨?_,by first | rfl | (simp only [Aq q,Aq a];done)⟩ | refine Fg (Ap (Ap g ow) ow) HN G.pre ev ⟨?_,by first | rfl | (simp only [Aq q,Aq a];done)⟩
    first | rfl | (simp +decide only [go_sem,Nat.reduceAdd,l,k,p,b,c,d,o,u,z];done) | (simp +decide only [go_sem,Nat.reduceAdd,Vl.cs,Ty.cs,l,k,p,b,c,d,o,u,z];done)
   have z:=hs.1
   refine rg [0,3,5,6,146] hs ?_
   refine AN h hs (fun hs h=>?_) (fun hs h=>?_)
   ·have F:=hs.1
    obtain ⟨ah,bg,h⟩:=bind_some h
    refine rc 2 [0,3,6,11,12] hs ?_;intro K73 ap
    refine Ai _ (Ft w0 n _ _ _ a1 a2.text _ bg) (hv hs) ?_
    refine ne hs ap ?_
    clear ap
    refine rg [0,3,6,11,155] hs ?_
    refine AN h hs (fun hs h=>?_) (fun hs h=>?_)
    ·have K:=hs.1
     obtain ⟨b5,ca,b7,J,h⟩:=ix Bo h
     have O:(a2.list.map Bo).getD 0 .junk=_:=J
     obtain ⟨bq,h⟩:=Aj h
     have az:=bq
     try simp +decide only [go_sem] at az
     obtain ⟨bn,h⟩:=Aj h
     have a5:=bn
     try simp +decide only [go_sem] at a5
     obtain ⟨cf,bo,h⟩:=bind_some h
     refine Zgd (B':=((B.set D ([.clo 92 [.box j 0],.val (.bool t)])).set j ([.val (.bool x)]))) (by simp only [Aq q,Aq a]) ?_
     apply Ho HH [12] [] kr (fun s=>∃ (X:List (List AV)) (rows:List RowA) (ag:List AV) (V:List AV),s=⟨((B.set D ag).set j V)++([a1.cs,a2.cs,.val (.int .i64 ah.1.1)::(.val (.string ah.1.2.1)::(.val (.int .i64 ah.1.2.2.1)::((ah.1.2.2.2.1.cs)++([.list (ah.1.2.2.2.2.map Bo) .none]))))]++X),rows,L⟩) 2 (B.length+3)
     ·simp +decide only [go_sem,Nat.reduceAdd]
     ·rintro s ⟨X,rows,ag,V,rfl⟩
      refine ⟨1,?_⟩
      rw [Am];simp +decide only [go_sem,Nat.reduceAdd,Eh,l,k,p,b,c,d,o,u,z,F,K,J,O]
      (repeat' apply Aa)<;>first | rfl | exact cl
     ·refine Good.mk [12] kr ⟨[],_,_,_,by first | rfl | simp only [List.append_nil,List.nil_append]⟩ ?_ ?_
      ·intro h;exact absurd h (by decide)
      ·intro i hi;simp only [List.mem_cons,List.not_mem_nil,or_false] at hi
       subst hi
       ·apply BU rfl rfl ev
        ·simp +decide only [go_sem,Nat.reduceAdd,DU,l,k,p,b,c,d,o,u,z,F,K,J,O]
         have hs:=Aa J hs
         have hs:=Aa O hs
         (repeat' with_reducible apply Aa)<;>first | exact Rx (ih _ _ _ j D t (ef hs) x (ef hs) nq ah.1.2.2.2.1 b5 ((a3++((⟨#[63]⟩:ByteArray)))++a2.text) _ bo) (hv hs) | rfl | exact cl
        ·simp +decide only [go_sem,Nat.reduceAdd,l,k,p,b,c,d,o,u,z,F,K,J,O]
         refine Good.mk [] kr ⟨[],_,_,_,by first | rfl | simp only [List.append_nil,List.nil_append]⟩ ?_ ?_
         ·intro _;apply CO [];first | (simp +decide only [go_sem,Nat.reduceAdd,l,k,p,b,c,d,o,u,z,F,K,J,O];done) | (simp +decide only [go_sem,Nat.reduceAdd,l,k,p,b,c,d,o,u,z,F,K,J,O];rfl)
         ·intro i hi;cases hi
     simp +decide only [go_sem,Nat.reduceAdd,l,k,p,b,c,d,o,u,z,F,K,J,O]
     (repeat' with_reducible apply Aa)<;>first | exact cl | skip
     have hgt:=Option.some.inj h;subst hgt
     first | refine DT (Ap (Ap g ow) ow) HN G.pre ev ⟨?_,by first | rfl | (simp only [Aq q,Aq a];done)⟩ | refine Fg (Ap (Ap g ow) ow) HN G.pre ev ⟨?_,by first | rfl | (simp only [Aq q,Aq a];done)⟩
     first | rfl | (simp +decide only [go_sem,Nat.reduceAdd,l,k,p,b,c,d,o,u,z,F,K,J,O];done) | (simp +decide only [go_sem,Nat.reduceAdd,Vl.cs,Ty.cs,l,k,p,b,c,d,o,u,z,F,K,J,O];done)
    have K:=hs.1
    obtain ⟨ch,a8,h⟩:=bind_some h
    apply Ao 2 []
    rw [Am];simp +decide only [go_sem,Nat.reduceAdd,l,k,p,b,c,d,o,u,z,F,K]
    (repeat' apply Aa)<;>first | (refine BB _ (CB w0 _ _ _ j D t (ef hs) x (ef hs) nq a3 7 _ a8) (hv hs) ?_;rintro _ _ ⟨rfl,rfl⟩) | exact cl
    rw [Am];simp +decide only [go_sem,Nat.reduceAdd,l,k,p,b,c,d,o,u,z,F,K]
    (repeat' with_reducible apply Aa)<;>first | exact cl | skip
    have hgt:=Option.some.inj h;subst hgt
    first | refine DT (Ap (Ap g ow) ow) HN G.pre ev ⟨?_,by first | rfl | (simp only [Aq q,Aq a];done)⟩ | refine Fg (Ap (Ap g ow) ow) HN G.pre ev ⟨?_,by first | rfl | (simp only [Aq q,Aq a];done)⟩
    first | rfl | (simp +decide only [go_sem,Nat.reduceAdd,l,k,p,b,c,d,o,u,z,F,K];done) | (simp +decide only [go_sem,Nat.reduceAdd,Vl.cs,Ty.cs,l,k,p,b,c,d,o,u,z,F,K];done)
   have F:=hs.1
   refine D3 (Dz [] _) ?_ (Bm _ _)
   apply Br;simp +decide only [go_sem,Nat.reduceAdd]
   (repeat' with_reducible apply Aa)<;>first | exact cl | skip
   have hgt:=Option.some.inj h;subst hgt
   first | refine DT g rfl G.pre ev ⟨?_,by first | rfl | (simp only [Aq q,Aq a];done)⟩ | refine Fg g rfl G.pre ev ⟨?_,by first | rfl | (simp only [Aq q,Aq a];done)⟩
   first | rfl | (simp +decide only [go_sem,Nat.reduceAdd,l,k,p,b,c,d,o,u,z,F];done) | (simp +decide only [go_sem,Nat.reduceAdd,Vl.cs,Ty.cs,l,k,p,b,c,d,o,u,z,F];done)
theorem KT (w0:World) (hP:Pow10 w0) (hT:Lib.Utf8Tabs 0 1 w0):∀ n:Nat,IL w0 (Cj n)
 | 0=>fun _ _ _ _ _ _ _ _ _ _ _ _ _ _ h=>(nomatch h)
 | n+1=>Ol w0 hP hT (Cj n) (KT w0 hP hT n) n
def KP (n:Nat) (g:Ty) (b:Vl):Option Bool :=
 (Cj n false true g b ((⟨#[]⟩:ByteArray))).bind fun h =>
 some (h.2)
theorem Yy (w0:World) (hP:Pow10 w0) (hT:Lib.Utf8Tabs 0 1 w0) (n:Nat) (B:List (List AV)) (Rw:List RowA) (L:List LoopA) (a0:Ty) (a1:Vl) (r:Bool) (h:KP n a0 a1=some r) :
  ACalls Tryz.prog w0 39 [.agg (a0.cs),.agg (a1.cs)] ⟨B,Rw,L⟩ fun x st=>x = .val (.bool r)∧st=⟨B,Rw,L⟩:=by
 rw [KP] at h
 refine hd [.tmp 4] Tryz.func39 Tryz.ntmps39 fun M0 W0 j f d a i e hs=>?_
 simp only [Au]
 refine rg [2,3] hs ?_
 refine rg [2,3,5] hs ?_
 refine rg [2,3,5,6] hs ?_
 obtain ⟨g,c,h⟩:=bind_some h
 refine rc 2 [5] hs ?_;intro K4 b
 refine BB _ (KT w0 hP hT n _ _ _ (B.length+2) (B.length+3) false ev true ev nq a0 a1 ((⟨#[]⟩:ByteArray)) _ c) (hv hs) ?_;rintro _ _ ⟨rfl,rfl⟩
 refine ne hs b ?_
 clear b
 refine rg [4] hs ?_
 exact rt h hs a e
def FC (n:Nat) (g:Ty) (s:Vl):Option (Vl × Int) :=
 (C9 n g s).bind fun h =>
 (KP n g h).bind fun q =>
 if !q then
  some ((Vl.mk 0 0 0 ((⟨#[]⟩:ByteArray)) ([]) ([]),18))
 else
  (Bn n h).bind fun b =>
  some ((b,0))
theorem NZ (w0:World) (hP:Pow10 w0) (hT:Lib.Utf8Tabs 0 1 w0) (n:Nat) (B:List (List AV)) (Rw:List RowA) (L:List LoopA) (a0:Ty) (a1:Vl) (r:Vl × Int) (h:FC n a0 a1=some r) :
  ACalls Tryz.prog w0 31 [.agg (a0.cs),.agg (a1.cs)] ⟨B,Rw,L⟩ fun x st=>x = .tup [.agg (r.1.cs),.val (.int .i64 r.2)]∧st=⟨B,Rw,L⟩:=by
 rw [FC] at h
 refine hd [.cell 4 46,.tmp 5] Tryz.func31 Tryz.ntmps31 fun M0 W0 s m l a q j hs=>?_
 simp only [Au]
 refine rg [2,3,4] hs ?_
 obtain ⟨k,i,h⟩:=bind_some h
 refine rc 2 [2,4,6] hs ?_;intro K2 e
 refine Ai _ (N7 w0 hT n _ _ _ a0 a1 _ i) (hv hs) ?_
 refine ne hs e ?_
 clear e
 apply Ah;intro K4 d
 obtain ⟨p,g,h⟩:=bind_some h
 refine rc 2 [4,6,13] hs ?_;intro K5 b
 refine Ai _ (Yy w0 hP hT n _ _ _ a0 k _ g) (hv hs) ?_
 refine ne hs b ?_
 clear b
 refine AN h hs (fun hs h=>?_) (fun hs h=>?_)
 ·refine rg [4,5] hs ?_
  exact rt h hs a j
 refine sk [4,6] hs d ?_
 clear d
 obtain ⟨o,f,h⟩:=bind_some h
 refine rc 2 [4,5] hs ?_;intro K9 c
 refine Ai _ (Fb w0 n _ _ _ k _ f) (hv hs) ?_
 refine ne hs c ?_
 clear c
 exact rt h hs a j
def ssB:List (ByteArray × Vl)→Bool
 | p::q::r=>WT p.1 q.1&&ssB (q::r)
 | _=>true
theorem ZcI:∀ l,ssB l=true↔SS l
 | []=>by simp [ssB,SS]
 | [p]=>by simp [ssB,SS]
 | p::q::r=>by
  rw [ssB,Bool.and_eq_true,ZcI (q::r),ZaV,decide_eq_true_eq]
  unfold SS
  rw [List.pairwise_cons (a:=p)]
  constructor
  ·rintro ⟨c,b⟩
   refine ⟨fun x hx=>?_,b⟩
   rcases List.mem_cons.1 hx with rfl | hx
   ·exact c
   ·exact Qr c ((List.pairwise_cons.1 b).1 x hx)
  ·rintro ⟨c,b⟩
   exact ⟨c q (by simp),b⟩
def bare (i s t l f:Bool) (v:Vl):Bool:=(i||decide (v.int=0))&&(s||decide (v.scale=0))&&(t||Cb v.text ⟨#[]⟩)&&(l||decide (v.list.length=0))&&(f||decide (v.fields.length=0))
def DI (v:Vl):Bool :=
 if v.kind=1 then (decide (v.int=0)||decide (v.int=1))&&bare true false false false false v
 else if v.kind=2∨v.kind=6∨v.kind=7 then bare true false false false false v
 else if v.kind=3 then bare true true false false false v
 else if v.kind=4 then Lib.validD v.text.data.toList&&bare false false true false false v
 else if v.kind=5 then bare false false true false false v
 else if v.kind=8 then bare false false false true false v
 else if v.kind=9 then ssB v.fields&&bare false false false false true v
 else if v.kind=10 then decide (v.list.length=1)&&bare false false true true false v
 else bare false false false false false v
theorem ZkK (k:Nat):decide ((k:Int)=0)=decide (k=0):=by rw [decide_eq_decide];omega
theorem OI (n:Nat) (k i s:Int) (t:ByteArray) (l:List Vl) (f:List (ByteArray × Vl)):Cc n (Vl.mk k i s t l f)=some (decide (i=0)&&decide (s=0)&&Cb t ⟨#[]⟩&&decide (l.length=0)&&decide (f.length=0)):=by
 unfold Cc
 change some ((((decide (i=0)&&decide (s=0))&&Cb t ⟨#[]⟩)&&decide ((l.length:Int)=0))&&decide ((f.length:Int)=0))=_
 rw [ZkK,ZkK]
theorem Qh (n:Nat) (v:Vl) (hl:v.fields.length≤1000000000):∀ (k m j:Nat),v.fields.length≤j+1+k→k<m→D5 n v m ((j+1:Nat):Int)=some (ssB (v.fields.drop j)&&bare false false false false true v)
 | k,0,j,_,h=>absurd h (Nat.not_lt_zero _)
 | 0,m+1,j,hj,_=>by
  rw [D5,As,Ac (by omega),Af (by decide),IJ,OI]
  have:ssB (v.fields.drop j)=true:=by
   match h:v.fields.drop j with
   | []=>rfl
   | [_]=>rfl
   | a::b::r =>
    have:=congrArg List.length h
    simp at this;omega
  rw [this];simp [bare]
 | k+1,m+1,j,hj,hm=>by
  rw [D5,As]
  by_cases q:j+1<v.fields.length
  ·have d:j<v.fields.length:=by omega
   have e:((j+1:Nat):Int)-1=(j:Int):=by omega
   rw [Ad q,Ae rfl,e,Ae (by unfold BQ;omega),Az d,Ab,Az q,Ab,List.drop_eq_getElem_cons d,List.drop_eq_getElem_cons q,ssB]
   cases c:WT v.fields[j].1 v.fields[j+1].1 with
   | false=>rw [Ae (by rfl)];rfl
   | true =>
    rw [Af (by decide),Ae (Av (by omega)),Bool.true_and,←List.drop_eq_getElem_cons q]
    exact Qh n v hl k m (j+1) (by omega) (by omega)
  ·have:=Qh n v hl 0 (m+1) j (by omega) (by omega)
   rw [D5,As] at this
   exact this
theorem Ww (n:Nat) (v:Vl) (hn:v.fields.length+1<n) (hl:v.fields.length≤1000000000) (ht:v.text.size≤maxLen):Hy n v=some (DI v):=by
 have a:=Qh n v hl v.fields.length n 0 (by omega) (by omega)
 rw [List.drop_zero,show ((0+1:Nat):Int)=1 from rfl] at a
 have z:Cb (⟨#[]⟩:ByteArray) ⟨#[]⟩=true:=ME _
 rw [Hy,DI]
 by_cases h1:v.kind=1
 ·rw [Ad h1,Ae rfl,Ae h1,OI]
  by_cases q0:v.int=0
  ·rw [Ad q0,Bool.not_true,Bool.false_and,Af (by decide)];simp [bare]
  ·by_cases q1:v.int=1
   ·rw [Ad q1,Ac q0,Af (by decide)];simp [bare]
   ·rw [Ac q1,Ac q0,Ae (by rfl)];rfl
 rw [Ac h1,Af (by decide),Af h1]
 by_cases h2:v.kind=2
 ·rw [Ad h2,Ae rfl,Ae (by omega),DD,Ae rfl,OI];simp [bare]
 rw [Ac h2,Af (by decide)]
 by_cases h6:v.kind=6
 ·rw [Ad h6,Ae rfl,Ae (by omega),DD,Ae rfl,OI];simp [bare]
 rw [Ac h6,Af (by decide)]
 by_cases h7:v.kind=7
 ·rw [Ad h7,Ae (by omega),DD,Ae rfl,OI];simp [bare]
 rw [Ac h7,Af (by omega),DD,Af (by decide)]
 by_cases h3:v.kind=3
 ·rw [Ad h3,Ae rfl,Ae h3,OI];simp [bare]
 rw [Ac h3,Af (by decide),Af h3]
 by_cases h4:v.kind=4
 ·rw [Ad h4,Ae rfl,Ae h4,Nv,Ae ht,Ab]
  cases Lib.validD v.text.data.toList with
  | false=>rfl
  | true=>rw [Af (by decide),OI,z];simp [bare]
 rw [Ac h4,Af (by decide),Af h4]
 by_cases h5:v.kind=5
 ·rw [Ad h5,Ae rfl,Ae h5,OI,z];simp [bare]
 rw [Ac h5,Af (by decide),Af h5]
 by_cases h8:v.kind=8
 ·rw [Ad h8,Ae rfl,Ae h8,OI];simp [bare]
 rw [Ac h8,Af (by decide),Af h8]
 by_cases h9:v.kind=9
 ·rw [Ad h9,Ae rfl,Ae h9,a]
 rw [Ac h9,Af (by decide),Af h9]
 by_cases h10:v.kind=10
 ·rw [Ad h10,Ae rfl,Ae h10]
  by_cases q:v.list.length=1
  ·rw [Ad (show (v.list.length:Int)=1 by omega),Af (by decide),OI,z,Ad q];simp [bare]
  ·rw [Ac (show ¬ (v.list.length:Int)=1 by omega),Ae (by rfl),Ac q];rfl
 ·rw [Ac h10,Af (by decide),Af h10]
  have:=OI n v.kind v.int v.scale v.text v.list v.fields
  rw [Vl.eta] at this
  rw [this];simp [bare]
def Rf (l:List (ByteArray × Vl)) (w:ByteArray):Nat:=(l.takeWhile fun q=>decide (ER q.1 w<0)).length
theorem ZdK (l:List (ByteArray × Vl)) (w:ByteArray):Rf l w≤l.length:=(List.takeWhile_sublist _).length_le
theorem Zf2 {p:ByteArray × Vl} {r:List (ByteArray × Vl)} {w:ByteArray}:Rf (p::r) w=if ER p.1 w<0 then Rf r w+1 else 0:=by
 unfold Rf
 by_cases q:ER p.1 w<0
 ·rw [List.takeWhile_cons_of_pos (by simpa using q),Ae q];rfl
 ·rw [List.takeWhile_cons_of_neg (by simpa using q),Af q];rfl
theorem Oo (w:ByteArray):∀ (l:List (ByteArray × Vl)),∀ p∈l.take (Rf l w),ER p.1 w<0
 | [],p,hp=>by simp at hp
 | q::r,p,hp=>by
  rw [Zf2] at hp
  by_cases c:ER q.1 w<0
  ·rw [Ae c,List.take_succ_cons] at hp
   rcases List.mem_cons.1 hp with rfl | hp
   ·exact c
   ·exact Oo w r p hp
  ·rw [Af c] at hp;simp at hp
theorem ZdE (l:List (ByteArray × Vl)) (w:ByteArray) (h:Rf l w<l.length):¬ ER l[Rf l w].1 w<0:=by
 induction l with
 | nil=>simp at h
 | cons p r ih =>
  by_cases q:ER p.1 w<0
  ·have e:Rf (p::r) w=Rf r w+1:=by unfold Rf;rw [List.takeWhile_cons_of_pos (by simpa using q)];rfl
   simp only [e,List.getElem_cons_succ]
   exact ih (by rw [e] at h;simpa using h)
  ·have e:Rf (p::r) w=0:=by unfold Rf;rw [List.takeWhile_cons_of_neg (by simpa using q)];rfl
   simp only [e,List.getElem_cons_zero]
   exact q
theorem Wj {l:List (ByteArray × Vl)} {w:ByteArray} {k:Nat} (hk:k≤l.length) (h1:∀ i (h:i<k),ER (l[i]'(by omega)).1 w<0) (h2:∀ h:k<l.length,¬ ER l[k].1 w<0):k=Rf l w:=by
 rcases Nat.lt_trichotomy k (Rf l w) with q | q | q
 ·have b:=ZdK l w
  have a:l[k]'(by omega)∈l.take (Rf l w):=List.mem_take_iff_getElem.2 ⟨k,by omega,rfl⟩
  exact absurd (Oo w l _ a) (h2 (by omega))
 ·exact q
 ·exact absurd (h1 (Rf l w) q) (ZdE l w (by omega))
def inN (l:List (ByteArray × Vl)) (w:ByteArray):Bool:=l.any fun q=>Cb q.1 w
theorem O4 {l:List (ByteArray × Vl)} {w:ByteArray}:inN l w=true↔∃ q∈l,q.1=w:=by
 unfold inN
 rw [List.any_eq_true]
 exact ⟨fun ⟨q,h,e⟩=>⟨q,h,(Ei _ _).1 e⟩,fun ⟨q,h,e⟩=>⟨q,h,(Ei _ _).2 e⟩⟩
theorem Zhm {l:List (ByteArray × Vl)} (hs:SS l) (w:ByteArray) (h:Rf l w<l.length):decide (ER l[Rf l w].1 w=0)=inN l w:=by
 have d:=ZdE l w h
 cases q:inN l w with
 | true =>
  obtain ⟨x,a,e⟩:=O4.1 q
  obtain ⟨i,b,rfl⟩:=List.mem_iff_getElem.1 a
  have z:ER l[i].1 w=0:=(KD _ _).2 e
  rcases Nat.lt_trichotomy i (Rf l w) with c | c | c
  ·have:=Oo w l l[i] (List.mem_take_iff_getElem.2 ⟨i,by omega,rfl⟩)
   omega
  ·subst c;exact Ad z
  ·have:=List.pairwise_iff_getElem.1 hs _ _ h b c
   rw [e] at this
   exact absurd this d
 | false =>
  refine Ac fun z=>?_
  have:=O4.2 ⟨_,List.getElem_mem h,(KD _ _).1 z⟩
  rw [this] at q;cases q
theorem ZfH {l:List (ByteArray × Vl)} (w:ByteArray) (h:Rf l w=l.length):inN l w=false:=by
 cases q:inN l w with
 | false=>rfl
 | true =>
  obtain ⟨x,a,e⟩:=O4.1 q
  have:=Oo w l x (by rw [h,List.take_length];exact a)
  rw [e,I0] at this
  omega
theorem ZdW (n:Nat) (l:List (ByteArray × Vl)) (w:ByteArray) (f:ByteArray × Vl→ByteArray→Option Int) (hf:∀ x,f x w=some (ER x.1 w)) (hs:SS l) (hl:l.length≤1000000000):∀ (k m lo hi:Nat),hi-lo≤k→lo≤hi→hi≤l.length →
  (∀ i (h:i<lo) (h2:i<l.length),ER l[i].1 w<0)→(∀ i (h:hi≤i) (h2:i<l.length),¬ ER l[i].1 w<0)→k<m→A8 n l w f m lo hi=some ((Rf l w:Int),inN l w)
 | k,0,lo,hi,_,_,_,_,_,h=>absurd h (Nat.not_lt_zero _)
 | k,m+1,lo,hi,hk,h1,h2,h3,h4,hm=>by
  rw [A8,As]
  by_cases q:lo<hi
  ·have e:(lo:Int)+(hi:Int)=((lo+hi:Nat):Int):=by omega
   have g:((lo+hi:Nat):Int) / 2=(((lo+hi) / 2:Nat):Int):=by omega
   have d:(lo+hi) / 2<l.length:=by omega
   rw [Ad q,Ae rfl,e,Ae (by unfold BQ;omega),Ae (by omega),Ae (by omega),g,Ae (by unfold BQ;omega),Az d,Ab,hf,Ab]
   obtain ⟨k,rfl⟩:∃ j,k=j+1:=⟨k-1,by omega⟩
   by_cases c:ER l[(lo+hi) / 2].1 w<0
   ·rw [Ad c,Ae rfl,Ae (Av (by omega))]
    refine ZdW n l w f hf hs hl k m ((lo+hi) / 2+1) hi (by omega) (by omega) h2 (fun i a b=>?_) h4 (by omega)
    rcases Nat.lt_or_ge i ((lo+hi) / 2) with z | z
    ·exact Qr (List.pairwise_iff_getElem.1 hs i _ b d z) c
    ·obtain rfl:i=(lo+hi) / 2:=by omega
     exact c
   ·rw [Ac c,Af (by decide)]
    refine ZdW n l w f hf hs hl k m lo ((lo+hi) / 2) (by omega) (by omega) (by omega) h3 (fun i a b=>?_) (by omega)
    rcases Nat.lt_or_ge ((lo+hi) / 2) i with z | z
    ·exact fun y=>c (Qr (List.pairwise_iff_getElem.1 hs _ i d b z) y)
    ·obtain rfl:i=(lo+hi) / 2:=by omega
     exact c
  ·obtain rfl:lo=hi:=by omega
   have e:=Wj (l:=l) (w:=w) h2 (fun i a=>h3 i a (by omega)) (fun a=>h4 lo (Nat.le_refl _) a)
   rw [Ac q,Af (by decide),CW,As,e]
   by_cases c:Rf l w<l.length
   ·rw [Ad c,Ae rfl,Az c,Ab,hf,Ab,Zhm hs w c]
   ·rw [Ac c,Af (by decide),ZfH w (by have:=ZdK l w;omega)]
theorem Zj1 (n:Nat) (l:List (ByteArray × Vl)) (w:ByteArray) (f:ByteArray × Vl→ByteArray→Option Int) (hf:∀ x,f x w=some (ER x.1 w)) (hs:SS l) (hl:l.length≤1000000000) (hn:l.length<n):Dk n l w f=some ((Rf l w:Int),inN l w) :=
 ZdW n l w f hf hs hl l.length n 0 l.length (by omega) (by omega) (Nat.le_refl _) (fun i h=>by omega) (fun i h a=>by omega) hn
def ZfR (p:TF):Option Vl:=if p.2.2.1=3∧p.2.2.2.2.length=1 then p.2.2.2.2[0]? else none
def Tq (l:List (ByteArray × Vl)) (w:ByteArray) (x:Vl):List (ByteArray × Vl):=MV l (Rf l w:Int) (w,x)
def Qc:List TF→List (ByteArray × Vl)→List (ByteArray × Vl)
 | [],l=>l
 | p::ps,l=>match ZfR p with
  | some x=>if inN l p.2.1=true then Qc ps l else Qc ps (Tq l p.2.1 x)
  | none=>Qc ps l
theorem Za9 {l:List (ByteArray × Vl)} (hs:SS l) {w:ByteArray} (h:inN l w=false) (x:Vl):SS (Tq l w x):=by
 unfold Tq MV
 rw [Int.toNat_natCast]
 have:=Zby hs (w,x) (fun p a e=>by rw [O4.2 ⟨p,a,e⟩] at h;cases h) (j:=Rf l w) (Oo w l) (fun q=>ZdE l w q)
 simpa using this
theorem Rk (l:List (ByteArray × Vl)) (w:ByteArray) (x:Vl):(Tq l w x).Perm ((w,x)::l):=by
 unfold Tq MV
 rw [Int.toNat_natCast]
 have:=(List.perm_middle (a:=(w,x)) (l₁:=l.take (Rf l w)) (l₂:=l.drop (Rf l w)))
 rwa [List.take_append_drop] at this
theorem Zq (l:List (ByteArray × Vl)) (w:ByteArray) (x:Vl):(Tq l w x).length=l.length+1:=(Rk l w x).length_eq
def HJ (v:Vl) (l:List (ByteArray × Vl)):Vl:=Vl.mk v.kind v.int v.scale v.text v.list l
theorem YZ (rec:Ty→Vl→Option Vl) (n:Nat) (t:Ty) (y:Vl) (hl:t.fields.length≤1000000) (hn:1000000000<n):∀ (k m i:Nat) (l:List (ByteArray × Vl)),i+k=t.fields.length→k<m→SS l→l.length+k≤100000000 →
  BE rec n t y m i l=some (HJ y (Qc (t.fields.drop i) l))
 | k,0,i,l,_,h,_,_=>absurd h (Nat.not_lt_zero _)
 | 0,m+1,i,l,hi,_,_,_=>by
  rw [BE,As,Ac (by omega),Af (by decide),List.drop_eq_nil_of_le (by omega)];rfl
 | k+1,m+1,i,l,hi,hm,hs,hk=>by
  have d:i<t.fields.length:=by omega
  have f:∀ e,SS e→e.length+k≤100000000→D1 rec n (BE rec n t y m) i e=some (HJ y (Qc (t.fields.drop (i+1)) e)):=fun e a b=>by
   rw [D1,Ae (Av (by omega))]
   exact YZ rec n t y hl hn k m (i+1) e (by omega) (by omega) a b
  rw [BE,As,Ad d,Ae rfl,Az d,Ab,List.drop_eq_getElem_cons d,Qc,ZfR]
  by_cases c:t.fields[i].2.2.1=3∧t.fields[i].2.2.2.2.length=1
  ·have g:0<t.fields[i].2.2.2.2.length:=by omega
   rw [Ad c.1,Ad (show (t.fields[i].2.2.2.2.length:Int)=1 by omega),Af (by decide),Zj1 n l _ _ (fun x=>rfl) hs (by omega) (by omega),Ab,Ae c,List.getElem?_eq_getElem g]
   simp only
   cases q:inN l t.fields[i].2.1 with
   | true=>rw [Af (by decide),Ae rfl];exact f l hs (by omega)
   | false =>
    have j:=ZdK l t.fields[i].2.1
    rw [Ae (by rfl),Af (by decide),show B7 t.fields[i].2.2.2.2 0=some t.fields[i].2.2.2.2[0] from Az (k:=0) g,Ab,Ae (by omega)]
    exact f _ (Za9 hs q _) (by have:=Zq l t.fields[i].2.1 t.fields[i].2.2.2.2[0];rw [Tq] at this;rw [this];omega)
  ·rw [Ae,Af c]
   ·exact f l hs (by omega)
   ·rw [Bool.or_eq_true,Bool.not_eq_true',Bool.not_eq_true',decide_eq_false_iff_not,decide_eq_false_iff_not];omega
def EV (f:Ty→Vl→Vl) (t:Ty) (v:Vl):Vl :=
 if t.kind=8 then (match t.elem with | [x]=>Vl.mk v.kind v.int v.scale v.text (v.list.map (f x)) v.fields | _=>v)
 else if t.kind=9 then HJ v (v.fields.map fun q=>match B6 t q.1 with | some p=>(q.1,f p.2.2.2.1 q.2) | none=>q)
 else if t.kind=10 then (match B6 t v.text,v.list with | some p,x::_=>Vl.mk v.kind v.int v.scale v.text [f p.2.2.2.1 x] v.fields | _,_=>v)
 else v
def BC:Nat→Ty→Vl→Vl
 | 0,_,v=>v
 | d+1,t,v=>if v.kind≠t.kind∨DI v=false then v else if t.kind=9 then HJ (EV (BC d) t v) (Qc t.fields (EV (BC d) t v).fields) else EV (BC d) t v
theorem ZcL (n:Nat) (t:Ty) (v:Vl) (a2:Ty→Vl→Option Vl) (f:Ty→Vl→Vl) (hf:∀ q∈v.fields,∀ p,B6 t q.1=some p→a2 p.2.2.2.1 q.2=some (f p.2.2.2.1 q.2)) (ht:t.fields.length≤1000000000) (htn:t.fields.length<n) (hl:v.fields.length≤1000000000):∀ (k m i:Nat),i+k=v.fields.length→k<m →
  DF n t v a2 m i ((v.fields.take i).map fun q=>match B6 t q.1 with | some p=>(q.1,f p.2.2.2.1 q.2) | none=>q)=some (HJ v (v.fields.map fun q=>match B6 t q.1 with | some p=>(q.1,f p.2.2.2.1 q.2) | none=>q))
 | k,0,i,_,h=>absurd h (Nat.not_lt_zero _)
 | 0,m+1,i,hi,_=>by
  rw [DF,As,Ac (by omega),Af (by decide),List.take_of_length_le (by omega)];rfl
 | k+1,m+1,i,hi,hm=>by
  have a:i<v.fields.length:=by omega
  have ih:=ZcL n t v a2 f hf ht htn hl k m (i+1) (by omega) (by omega)
  rw [List.take_succ_eq_append_getElem a,List.map_append,List.map_singleton] at ih
  rw [DF,As,Ad a,Ae rfl,Az a,Ab,J8 n t _ ht htn,Ab]
  cases c:B6 t v.fields[i].1 with
  | none =>
   rw [c] at ih
   rw [Af (by decide),FD,Ae (by rw [List.length_map,List.length_take];omega),Ae (Av (by omega))]
   exact ih
  | some p =>
   rw [c] at ih
   have e:=hf _ (List.getElem_mem a) p c
   simp only [Option.isSome_some,if_true,Option.getD_some,e,Ab]
   rw [FD,Ae (by rw [List.length_map,List.length_take];omega),Ae (Av (by omega))]
   exact ih
theorem Zg6 (n:Nat) (t x:Ty) (v:Vl) (a2:Ty→Vl→Option Vl) (f:Ty→Vl→Vl) (he:t.elem=[x]) (hf:∀ u∈v.list,a2 x u=some (f x u)) (hl:v.list.length≤1000000000):∀ (k m i:Nat),i+k=v.list.length→k<m →
  E8 n t v a2 m i ((v.list.take i).map (f x))=some (Vl.mk v.kind v.int v.scale v.text (v.list.map (f x)) v.fields)
 | k,0,i,_,h=>absurd h (Nat.not_lt_zero _)
 | 0,m+1,i,hi,_=>by
  rw [E8,As,Ac (by omega),Af (by decide),List.take_of_length_le (by omega)];rfl
 | k+1,m+1,i,hi,hm=>by
  have a:i<v.list.length:=by omega
  have ih:=Zg6 n t x v a2 f he hf hl k m (i+1) (by omega) (by omega)
  rw [List.take_succ_eq_append_getElem a,List.map_append,List.map_singleton] at ih
  rw [E8,As,Ad a,Ae rfl,Az a,Ab,he,show B7 [x] 0=some x from rfl,Ab,hf _ (List.getElem_mem a),Ab,Ae (by rw [List.length_map,List.length_take];omega),Ae (Av (by omega))]
  exact ih
theorem O2 {v:Vl} (h:DI v=true) (hk:v.kind=9):SS v.fields:=by
 rw [DI,Af (by omega),Af (by omega),Af (by omega),Af (by omega),Af (by omega),Af (by omega),Ae hk,Bool.and_eq_true] at h
 exact (ZcI _).1 h.1
theorem Qa {v:Vl} (h:DI v=true) (hk:v.kind=10):v.list.length=1:=by
 rw [DI,Af (by omega),Af (by omega),Af (by omega),Af (by omega),Af (by omega),Af (by omega),Af (by omega),Ae hk,Bool.and_eq_true,decide_eq_true_eq] at h
 exact h.1
theorem Zc0 {l m:List (ByteArray × Vl)} (h:l.map Prod.fst=m.map Prod.fst) (hs:SS m):SS l:=by
 have c:∀ l:List (ByteArray × Vl),SS l↔(l.map Prod.fst).Pairwise fun a b=>ER a b<0:=fun l=>by unfold SS;rw [List.pairwise_map]
 rw [c] at hs ⊢
 rwa [h]
theorem SV (f:Ty→Vl→Vl) (t:Ty) (v:Vl) (hk:t.kind=9):(EV f t v).fields.map Prod.fst=v.fields.map Prod.fst:=by
 rw [EV,Af (by omega),Ae hk]
 simp only [HJ,Vl.fields,List.map_map]
 refine List.map_congr_left fun q _=>?_
 simp only [Function.comp]
 cases B6 t q.1<;>rfl
theorem LH:∀ (d n:Nat) (t:Ty) (v:Vl),t.depth≤d→t.size≤200→v.size≤1048576→v.ok→2000000000+d<n→C9 n t v=some (BC d t v)
 | 0,n,t,v,h,_,_,_,_=>by have:=t.depth_eq;omega
 | d+1,0,t,v,_,_,_,_,h=>absurd h (by omega)
 | d+1,n+1,t,v,hd,ht,hv,ho,hn=>by
  have J:=t.lens
  have H:=It v
  obtain ⟨E,z,D⟩:=v.ok_eq.1 ho
  rw [C9,IC,BC]
  by_cases hk:v.kind=t.kind
  rotate_left
  ·rw [Ac hk,Ae (by rfl),Ae (.inl hk)]
  rw [Ad hk,Af (by decide),Ww n v (by omega) (by omega) (U2 E),Ab]
  cases hf:DI v with
  | false=>rw [Ae (by rfl),Ae (.inr rfl)]
  | true =>
   rw [Af (by decide),Af (show ¬ (v.kind≠t.kind∨true=false) by simp [hk])]
   by_cases k9:t.kind=9
   ·rw [Ad k9,Ae rfl,Ae k9]
    have e:=ZcL n t v (fun k m=>C9 n k m) (BC d) (fun q C p g=>LH d n _ _ (by have:=Ty.depth_field (En g).1;omega) (by have:=t.field_size p (En g).1;omega) (by have:=v.field_size q C;omega) (D q C).2 (by omega)) (by omega) (by omega) (by omega) v.fields.length n 0 (by omega) (by omega)
    have G:HJ v (v.fields.map fun q=>match B6 t q.1 with | some p=>(q.1,BC d p.2.2.2.1 q.2) | none=>q)=EV (BC d) t v:=by rw [EV,Af (by omega),Ae k9]
    rw [List.take_zero,List.map_nil,G] at e
    have l:SS (EV (BC d) t v).fields:=Zc0 (SV _ t v k9) (O2 hf (by omega))
    have s:(EV (BC d) t v).fields.length=v.fields.length:=by have:=congrArg List.length (SV (BC d) t v k9);simpa using this
    have:=YZ (C9 n) n t (EV (BC d) t v) (by omega) (by omega) t.fields.length n 0 (EV (BC d) t v).fields (by omega) (by omega) l (by omega)
    rw [Ku,Ae k9]
    rw [List.drop_zero] at this
    refine Eq.trans ?_ this
    exact congrArg (fun o=>Option.bind o fun i=>BE (C9 n) n t i n 0 i.fields) e
   ·rw [Ac k9,Af (by decide),Af k9,EV,LD]
    by_cases k8:t.kind=8
    ·rw [Ae k8,Ad k8,Bool.true_and]
     match he:t.elem with
     | [x] =>
      have f:x∈t.elem:=by rw [he];simp
      have e:=Zg6 n t x v (fun k m=>C9 n k m) (BC d) he (fun u w=>LH d n x u (by have:=Ty.depth_elem f;omega) (by have:=t.elem_size x f;omega) (by have:=v.list_size u w;omega) (z u w) (by omega)) (by omega) v.list.length n 0 (by omega) (by omega)
      rw [List.take_zero,List.map_nil] at e
      rw [Ae (by rfl)]
      exact congrArg (fun o=>Option.bind o fun y=>some y) e
     | []=>rw [Af (by decide),Ac k9,Af (by decide),Ac (show ¬ t.kind=10 by omega),Af (by decide),Dc,Ab,Vl.eta]
     | a::b::r=>rw [Af (by rw [decide_eq_true_eq];simp;omega),Ac k9,Af (by decide),Ac (show ¬ t.kind=10 by omega),Af (by decide),Dc,Ab,Vl.eta]
    rw [Af k8,Af k9,Ac k8,Bool.false_and,Af (by decide),Ac k9,Af (by decide)]
    by_cases k10:t.kind=10
    ·have F:=Qa hf (by omega)
     obtain ⟨x,f⟩:=List.length_eq_one_iff.1 F
     have j:x∈v.list:=by rw [f];simp
     rw [Ad k10,Ae rfl,Ae k10,J8 n t v.text (by omega) (by omega),Ab,f]
     cases c:B6 t v.text with
     | none=>rw [Af (by decide),Dc,Ab,←f,Vl.eta]
     | some p =>
      have g:=(En c).1
      have e:=LH d n p.2.2.2.1 x (by have:=Ty.depth_field g;omega) (by have:=t.field_size p g;omega) (by have:=v.list_size x j;omega) (z x j) (by omega)
      rw [Ae (by rfl),show B7 [x] 0=some x from rfl,Ab]
      simp only [Option.getD_some,e,Ab,Dc]
    ·rw [Ac k10,Af (by decide),Af k10,Dc,Ab,Vl.eta]
end Go.Proofs.YtgpmlelfkjfbiaaGreatDoor
