/-
  Part 5 of the proof: rules and walks that the claim's last text uses.
-/
import Derived.Deep.LoopGhost
import Derived.Deep.RegionLaw
import Derived.Lib.SliceRun
import Derived.Lib.Walk
import Derived.Shelf.RegionOpenPlain
import Derived.Shelf.SlBodiesN
import Derived.WalkKit
import Derived.Test.YtmcnjijeocmkgaaGreatDoorSy4
set_option linter.unusedSimpArgs false
set_option linter.unusedVariables false
set_option maxRecDepth 100000
set_option maxHeartbeats 4000000
namespace Go.Ev
open Go Go.RowKit Go.Shelf Go.Lib Go.Proofs
theorem MA (P:Program) {w:World} {b:Nat} {cur:Array Value} {te:TypeId} (h:w.heap[b]? = some (.cells cur te (0,0))) (o:Nat) (vs:List Value) (hl:o+vs.length≤cur.size) (h1:∀ v∈vs,v.oneCell'=true) :
  w.setCells b o vs=w.setRow b (cur.toList.take o++vs++cur.toList.drop (o+vs.length)).toArray:=by
 have c:=run_storeCells_at P b o te vs 0 cur w h (by simpa using hl) h1
 have a:=run_storeCells_cells (P:=P) b o vs 0 w (fun j d=>by rw [cell_of_row w b _ cur te _ h,Array.getElem?_eq_getElem (by omega)];rfl) (fun j d=>by simp [World.frozen?,h]) h1
 simp only [Nat.add_zero] at c a
 rw [c] at a
 injection a with _ q
 exact q.symm
theorem Zag (w:World) (c c':Array Value) (te:TypeId):(w.alloc (.cells c te)).setRow w.heap.size c'=w.alloc (.cells c' te):=by
 unfold World.setRow World.alloc
 congr 1
 apply Array.ext
 ·simp
 ·intro i d b
  simp only [Array.getElem_modify]
  split
  ·subst i;simp
  ·rename_i hne
   have a:i<w.heap.size:=by
    have:i<w.heap.size+1:=by simpa using b
    omega
   rw [Array.getElem_push_lt a,Array.getElem_push_lt a]
theorem ZfA {α:Type} (A V:List α) (i n m:Nat) (hi:i≤n) (hA:n+m≤A.length) (hV:V.length=m) :
  (A.take (i+m)++(A.take n).drop i++A.drop (n+m)).take i++V++(A.take (i+m)++(A.take n).drop i++A.drop (n+m)).drop (i+m)=A.take i++V++(A.take n).drop i++A.drop (n+m):=by
 have e:(A.take (i+m)).length=i+m:=by rw [List.length_take];omega
 rw [List.append_assoc (A.take (i+m)),List.take_append_of_le_length (by omega),List.take_take,Nat.min_eq_left (by omega),List.drop_append_of_le_length (by omega),List.drop_of_length_le (by omega),List.nil_append]
 simp only [List.append_assoc]
section
variable {P:Program} {w0:World} {ρ:Ren} {nm:String} {sz bytes:Nat} {z:Value} {st:St} {M:Mem} {w:World}
theorem Zlc {A V rest:List Value} {cs Y:List AV} {i n m:Nat} (hi:i≤n) (hA:n≤A.length) (hc:cs.length=n) (hV:V.length=m) (hY:Y.length=m) (ha:∀ (j:Nat) (v:Value) (x:AV),A[j]? = some v→cs[j]? = some x→R w0 M w v x) (hv:∀ (j:Nat) (v:Value) (x:AV),V[j]? = some v→Y[j]? = some x→R w0 M w v x) :
  ∀ (j:Nat) (v:Value) (x:AV),(A.take i++V++(A.take n).drop i++rest)[j]? = some v→(cs.take i++Y++cs.drop i)[j]? = some x→R w0 M w v x:=by
 intro j v x b a
 have d:(A.take i).length=i:=by rw [List.length_take];omega
 have c:(cs.take i).length=i:=by rw [List.length_take];omega
 have f:((A.take n).drop i).length=n-i:=by rw [List.length_drop,List.length_take];omega
 simp only [List.append_assoc] at b a
 by_cases q:j<i
 ·rw [List.getElem?_append_left (by omega),List.getElem?_take,Ah q] at b a
  exact ha j v x b a
 rw [List.getElem?_append_right (by omega),d] at b
 rw [List.getElem?_append_right (by omega),c] at a
 by_cases q2:j-i<m
 ·rw [List.getElem?_append_left (by omega)] at b a
  exact hv _ v x b a
 rw [List.getElem?_append_right (by omega),hV] at b
 rw [List.getElem?_append_right (by omega),hY,List.getElem?_drop] at a
 have e:=(Aj.1 a).1
 rw [List.getElem?_append_left (by omega),List.getElem?_drop,List.getElem?_take,Ab] at b
 exact ha _ v x b a
theorem Zcq (L:InsLay P ρ nm sz bytes z) (hzc:z.cells.size=sz) (h0:0<sz) {id ver n i:Nat} {cs ys:List AV} {ow:Own} (hrow:st.rows[id]? = some (.vec ver sz cs)) (hcs:cs.length=n*sz) (hi:i<n) (hm:0<ys.length)
  (hx:∀ y∈ys,y.cells.length=sz∧CM y=true) (hb:(n+ys.length)*bytes≤140737488355328) (hb2:n+ys.length≤4611686018427387904) {v0 vx:Value} (hst:RelSt w0 M st w) (hv0:R w0 M w v0 (.vec id ver 0 n)) (hvx:R w0 M w vx (.list ys ow)) :
  Calls P (ρ.f 22) #[v0,.int .i64 i,vx] w (Comes' w0 M w fun r s=>r = .vec id (ver+1) 0 (n+ys.length)∧s={ st with rows:=st.rows.set id (.vec (ver+1) sz (cs.take (i*sz)++ys.flatMap (fun y=>y.pub.cells)++cs.drop (i*sz))) }):=by
 have D:id<M.NR:=by rw [hst.NR];exact (Aj.1 hrow).1
 obtain ⟨f1,f2,f3,f4,f5,f6,f7,cur,te,f8,f9,bj,aj,aw⟩:=hst.row id _ hrow
 cases hv0 with
 | @vec _ _ _ _ p cap hid' hver hh =>
 obtain ⟨rfl,hcap,ax⟩:=hh f1.symm
 simp only [Nat.add_zero,Nat.zero_mul] at hcap ⊢
 subst hcap
 have ah:∀ (b o c:Nat),vx = .slice (some ⟨b,o,none⟩) ys.length c→M.imm w0 b o:=by
  cases hvx with
  | nil _=>simp at hm
  | emp _=>simp at hm
  | @list b0 off0 cap0 _ _ sz2 us hc hm' h hu ho =>
   intro b o c e
   have e0:=(h 0 hm).1
   have e1:=(hu 0 hm).cells.1
   have e2:=(hx _ (List.getElem_mem hm)).1
   have:=((h 0 hm).2 0 (by omega)).1
   cases e
   simpa using this
 obtain ⟨ux,x1,x2⟩:=hvx.list_open (fun y Q=>(hx y Q).1)
 have a2:∀ i,i<ys.length→(ux i).cells.size=sz:=fun i hi=>(x1 i hi).1
 rcases x2 with ⟨_,q,_⟩ | ⟨bx,ox,cx',sz',rfl,hxc,hxm,_,hcx⟩
 ·subst q;simp at hm
 have ar:M.imm w0 bx ox:=ah bx ox cx' rfl
 have U:bx≠M.blk id:=by
  intro q
  rcases ar with k | k
  ·rw [q] at k;omega
  ·rw [q,f4] at k;omega
 have ao:=HL (w:=w) a2 h0 hcx
 have m:(flat ux ys.length).length=ys.length*sz:=Bg a2
 have au:(ys.flatMap fun y=>y.pub.cells).length=ys.length*sz:=OI (fun y Q=>(hx y Q).1)
 have ag:=Zal (fun i hi=>(x1 i hi).2) (fun y Q=>(hx y Q).2)
 have O:∀ v∈flat ux ys.length,v.oneCell'=true:=Wu x1 (fun y Q=>(hx y Q).2)
 have ad:i*sz≤n*sz:=Nat.mul_le_mul_right _ (by omega)
 have am:n*sz≤cur.size:=by rw [f9];exact Nat.mul_le_mul_right _ ax
 have a8:0<ys.length*sz:=Nat.mul_pos hm h0
 have ba:0<n*sz:=Nat.mul_pos (by omega) h0
 have d:(cur.toList.take (n*sz)).length=n*sz:=by simp;omega
 have C:∀ v∈cur.toList.take (n*sz),v.oneCell'=true:=by
  intro v hv
  obtain ⟨k,hk,rfl⟩:=List.mem_iff_getElem.1 hv
  rw [d] at hk
  rw [List.getElem_take,Array.getElem_toList]
  exact (aw k (by omega) (by omega)).oneCell (aj _ (List.getElem_mem _))
 have h:∀ j v,(cur.toList.take (n*sz))[j]? = some v→w.cell? ⟨M.blk id,0+j,none⟩=some v:=by
  intro j u hj
  rw [List.getElem?_take] at hj
  split at hj
  ·rw [Nat.zero_add,cell_of_row w _ j cur te _ f8,←Array.getElem?_toList];exact hj
  ·cases hj
 have ak:∀ j v,(flat ux ys.length)[j]? = some v→w.cell? ⟨bx,ox+j,none⟩=some v:=fun j v hj=>by
  have:=ao j v hj
  rwa [F9] at this
 have Y:∀ x∈cs.take (i*sz)++ys.flatMap (fun y=>y.pub.cells)++cs.drop (i*sz),x.one=true:=by
  intro x hx
  rcases List.mem_append.1 hx with hx | hx
  ·rcases List.mem_append.1 hx with hx | hx
   ·exact aj x (List.mem_of_mem_take hx)
   ·exact ag x hx
  ·exact aj x (List.mem_of_mem_drop hx)
 have H:(n+ys.length)*sz=n*sz+ys.length*sz:=Nat.add_mul ..
 have a0:(cs.take (i*sz)++ys.flatMap (fun y=>y.pub.cells)++cs.drop (i*sz)).length=(n+ys.length)*sz:=by
  rw [List.length_append,List.length_append,au,List.length_take,List.length_drop,H];omega
 have E:∀ (cells:Array Value) (rest:List Value),cells.toList=cur.toList.take (i*sz)++flat ux ys.length++(cur.toList.take (n*sz)).drop (i*sz)++rest→∀ (k:Nat) (v:Value) (x:AV),cells[k]? = some v→(cs.take (i*sz)++ys.flatMap (fun y=>y.pub.cells)++cs.drop (i*sz))[k]? = some x→R w0 M w v x:=by
  intro cells rest a4 k v x ap bb
  rw [←Array.getElem?_toList,a4] at ap
  refine Zlc (A:=cur.toList) (rest:=rest) ad (by simpa using am) hcs m au (fun j v x h1 h2=>?_) (fun j v x h1 h2=>Ziw h0 x1 (fun y Q=>(hx y Q).1) h1 h2) k v x ap bb
  rw [Array.getElem?_toList] at h1
  obtain ⟨q1,rfl⟩:=Array.getElem?_eq_some_iff.1 h1
  obtain ⟨q2,rfl⟩:=Aj.1 h2
  exact aw j q1 q2
 obtain ⟨d1,d2⟩:=hst.drew
 by_cases hroom:n+ys.length≤M.cap id
 ·-- there is room
  have ay:n*sz+ys.length*sz≤cur.size:=by rw [f9,←H];exact Nat.mul_le_mul_right _ hroom
  have bf:∃ tA kA,w.shape? bx=some (tA,kA)∧kA≠0:=by
   have:=ak 0 _ (List.getElem?_eq_getElem (by omega))
   unfold World.cell? at this
   unfold World.shape?
   cases hq:w.heap[bx]? with
   | none=>simp [hq] at this
   | some o =>
    cases o with
    | cells c t f =>
     refine ⟨_,_,rfl,fun q=>?_⟩
     simp [hq] at this
     have:=(Array.getElem?_eq_some_iff.1 this).1
     omega
    | _=>simp [hq] at this
  obtain ⟨tA,kA,bd,a7⟩:=bf
  refine (Zef L (M.blk id) 0 n (M.cap id) i bx ox ys.length cx' (cur.toList.take (n*sz)) (flat ux ys.length) w hi hm hroom (by unfold maxLen at f6;omega) U d m h
   (fun j hj=>by rw [Nat.zero_add,cell_of_row w _ j cur te _ f8,Array.getElem?_eq_getElem (by omega)];rfl) (fun j hj=>by simp [World.frozen?,f8]) ak C O tA te kA cur.size bd (by simp [World.shape?,f8]) a7 (by omega) (fun j=>by simp [World.frozen?,f8])).mono ?_
  rintro en w' ⟨rfl,rfl⟩
  have G:w.drew.heap[M.blk id]? = some (.cells cur te (0,0)):=f8
  have F:((cur.toList.take (n*sz)).drop (i*sz)).length=n*sz-i*sz:=by rw [List.length_drop,d]
  rw [MA P G _ _ (by rw [F];omega) (fun v hv=>C v (List.mem_of_mem_drop hv))]
  have be:=setRow_heap w.drew (M.blk id) cur (cur.toList.take (0+(i*sz+ys.length*sz))++(cur.toList.take (n*sz)).drop (i*sz)++cur.toList.drop (0+(i*sz+ys.length*sz)+((cur.toList.take (n*sz)).drop (i*sz)).length)).toArray te _ G
  rw [MA P be _ _ (by simp only [List.size_toArray,List.length_append,List.length_take,List.length_drop,Array.length_toList];omega) O,setRow_setRow]
  have hL:=ZfA cur.toList (flat ux ys.length) (i*sz) (n*sz) (ys.length*sz) ad (by simpa using ay) m
  have e1:0+(i*sz+ys.length*sz)+((cur.toList.take (n*sz)).drop (i*sz)).length=n*sz+ys.length*sz:=by rw [F];omega
  have e2:0+i*sz+(flat ux ys.length).length=i*sz+ys.length*sz:=by rw [m];omega
  rw [e2,e1]
  simp only [Nat.zero_add]
  rw [hL]
  generalize hc':(cur.toList.take (i*sz)++flat ux ys.length++(cur.toList.take (n*sz)).drop (i*sz)++cur.toList.drop (n*sz+ys.length*sz)).toArray=cur'
  have aa:cur'.size=cur.size:=by rw [←hc'];simp only [List.size_toArray,List.length_append,List.length_take,List.length_drop,Array.length_toList,m];omega
  have g:Ext w0 M w.drew (M.growRow id (M.blk id) (M.cap id) (ver+1) 0) (w.drew.setRow (M.blk id) cur'):=by
   refine M9 (M:=M) (M.growRow id (M.blk id) (M.cap id) (ver+1) 0) rfl (fun _ _=>rfl) rfl (fun i hi=>?_) (fun b=>?_) G f3 (fun j hj=>by rw [f4] at hj;omega)
   ·by_cases c:i=id
    ·subst c
     simp only [Mem.growRow,if_true,f1]
     exact ⟨by omega,fun q=>absurd q (by omega)⟩
    ·simp only [Mem.growRow,Ai c]
     exact ⟨Nat.le_refl _,fun _=>⟨trivial,trivial,trivial⟩⟩
   ·simp only [Mem.growRow]
    split
    ·rename_i c
     rw [c,f4]
     exact Nat.le_refl _
    ·exact Nat.le_refl _
  have av:=hst.row_lt D
  have q:(M.growRow id (M.blk id) (M.cap id) (ver+1) 0).fr id=ver+1∧(M.growRow id (M.blk id) (M.cap id) (ver+1) 0).blk id=M.blk id∧(M.growRow id (M.blk id) (M.cap id) (ver+1) 0).cap id=M.cap id∧(M.growRow id (M.blk id) (M.cap id) (ver+1) 0).rsz id=M.rsz id∧(M.growRow id (M.blk id) (M.cap id) (ver+1) 0).top (M.blk id)=0:=by simp [Mem.growRow]
  obtain ⟨q1,q2,q3,q4,q5⟩:=q
  have K:=d1.growRow' hrow (x := .vec (ver+1) sz (cs.take (i*sz)++ys.flatMap (fun y=>y.pub.cells)++cs.drop (i*sz))) (w':=w.drew.setRow (M.blk id) cur') (b:=M.blk id) (cap:=M.cap id) (k:=ver+1) (tp:=0) (Below.setRow (Below.refl _ _) f3 _) (by simp) (by simpa using av)
   (fun l hl=>⟨f5 l hl,setRow_other w.drew _ _ _ (f5 l hl)⟩) (fun i hi U=>by
    have:M.blk i≠M.blk id:=fun q=>U (hst.rowinj i id hi D q)
    exact ⟨this,setRow_other w.drew _ _ _ this⟩) (by
    simp only [RowOk,q1,q2,q3,q4,q5]
    exact ⟨trivial,f2,f3,trivial,f5,f6,h0,cur',te,setRow_heap w.drew _ cur cur' te _ G,aa.trans f9,by rw [a0,aa,f9];exact Nat.mul_le_mul_right _ hroom,Y,
     fun i a b=>((E cur' _ (by rw [←hc']) i _ _ (Array.getElem?_eq_getElem a) (List.getElem?_eq_getElem b)).mono d2).mono g⟩) g (KeepsObj.setRow G _)
  exact ⟨_,_,_,_,rfl,⟨rfl,rfl⟩,d2.trans g,K,.vec D (by rw [q1];exact Nat.le_refl _) fun _=>⟨by rw [q2];simp,by rw [q3];rfl,hroom⟩⟩
 ·-- a new block
  refine (Zgr L hzc h0 (M.blk id) 0 n (M.cap id) i bx ox ys.length cx' (cur.toList.take (n*sz)) (flat ux ys.length) w hi hm ax (by omega) hb hb2 d m h ak C O).mono ?_
  rintro en w' ⟨rfl,rfl⟩
  have ae:n+ys.length≤maxLen:=by simp [maxLen];omega
  have af:=grownCap_ge w (n+ys.length) (M.cap id) (ρ.t 9)
  have aq:=grownCap_le_maxLen w (n+ys.length) (M.cap id) (ρ.t 9) ae
  generalize grownCap w (n+ys.length) (M.cap id) (ρ.t 9)=gc at *
  generalize hROW:((cur.toList.take (n*sz)).take (i*sz)).toArray++Builtin.zeroCells z.cells (n+ys.length-i)++Builtin.zeroCells z.cells (gc-(n+ys.length))=ROW
  have a5:(n+ys.length-i)*sz=n*sz+ys.length*sz-i*sz:=by rw [Nat.sub_mul,H]
  have bh:(gc-(n+ys.length))*sz=gc*sz-(n*sz+ys.length*sz):=by rw [Nat.sub_mul,H]
  have bi:n*sz+ys.length*sz≤gc*sz:=by rw [←H];exact Nat.mul_le_mul_right _ af
  have a3:ROW.size=gc*sz:=by
   rw [←hROW]
   simp only [Array.size_append,List.size_toArray,List.length_take,size_zeroCells,hzc,Array.length_toList]
   omega
  have F:((cur.toList.take (n*sz)).drop (i*sz)).length=n*sz-i*sz:=by rw [List.length_drop,d]
  have hX:(w.alloc (.cells ROW (ρ.t 9))).drew.heap[w.heap.size]? = some (.cells ROW (ρ.t 9) (0,0)):=heap_alloc_new w _
  rw [MA P hX _ _ (by rw [m,a3];omega) O]
  have hX1:=setRow_heap (w.alloc (.cells ROW (ρ.t 9))).drew w.heap.size ROW (ROW.toList.take (i*sz)++flat ux ys.length++ROW.toList.drop (i*sz+(flat ux ys.length).length)).toArray (ρ.t 9) _ hX
  generalize hc1:(ROW.toList.take (i*sz)++flat ux ys.length++ROW.toList.drop (i*sz+(flat ux ys.length).length)).toArray=c1 at hX1 ⊢
  have a9:((w.alloc (.cells ROW (ρ.t 9))).drew.setRow w.heap.size c1).drew.heap[w.heap.size]? = some (.cells c1 (ρ.t 9) (0,0)):=hX1
  have ab:c1.size=gc*sz:=by
   rw [←hc1]
   simp only [List.size_toArray,List.length_append,List.length_take,List.length_drop,Array.length_toList,m,a3]
   omega
  rw [MA P a9 _ _ (by rw [F,ab];omega) (fun v hv=>C v (List.mem_of_mem_drop hv))]
  generalize hc2:(c1.toList.take (i*sz+ys.length*sz)++(cur.toList.take (n*sz)).drop (i*sz)++c1.toList.drop (i*sz+ys.length*sz+((cur.toList.take (n*sz)).drop (i*sz)).length)).toArray=cells
  have hW:(((w.alloc (.cells ROW (ρ.t 9))).drew.setRow w.heap.size c1).drew).setRow w.heap.size cells=w.drew.drew.alloc (.cells cells (ρ.t 9)):=by
   have a1:((w.alloc (.cells ROW (ρ.t 9))).drew.setRow w.heap.size c1).drew=(w.drew.drew.alloc (.cells ROW (ρ.t 9))).setRow w.heap.size c1:=rfl
   rw [a1,setRow_setRow]
   exact Zag w.drew.drew ROW cells (ρ.t 9)
  rw [hW]
  have J:cells.size=gc*sz:=by
   rw [←hc2]
   simp only [List.size_toArray,List.length_append,List.length_take,List.length_drop,Array.length_toList,F,ab]
   omega
  have ai:(cur.toList.take (n*sz)).take (i*sz)=cur.toList.take (i*sz):=by rw [List.take_take,Nat.min_eq_left ad]
  have bg:(cur.toList.take (i*sz)).length=i*sz:=by simp;omega
  have bc:ROW.toList.take (i*sz)=cur.toList.take (i*sz):=by
   rw [←hROW,ai]
   simp only [Array.toList_append,List.append_assoc]
   rw [List.take_append_of_le_length (by omega),List.take_of_length_le (by omega)]
  have V:cells.toList=cur.toList.take (i*sz)++flat ux ys.length++(cur.toList.take (n*sz)).drop (i*sz)++c1.toList.drop (i*sz+ys.length*sz+((cur.toList.take (n*sz)).drop (i*sz)).length):=by
   have e:c1.toList.take (i*sz+ys.length*sz)=cur.toList.take (i*sz)++flat ux ys.length:=by
    rw [←hc1,bc]
    simp only [List.append_assoc]
    rw [←List.append_assoc,List.take_append_of_le_length (by rw [List.length_append,m];omega),List.take_of_length_le (by rw [List.length_append,m];omega)]
   rw [←hc2,←e]
  obtain ⟨a6,az⟩:=d1.drew
  have g:Ext w0 M w.drew.drew (M.growRow id w.drew.drew.heap.size gc (ver+1) 0) (w.drew.drew.alloc (.cells cells (ρ.t 9))):=by
   refine QU _ _ (.inl rfl) (fun _ _=>rfl) (Nat.le_refl _) (fun i hi=>?_) (fun b hb=>?_)
   ·by_cases c:i=id
    ·subst c
     simp only [Mem.growRow,if_true,f1]
     exact ⟨by omega,fun q=>absurd q (by omega)⟩
    ·simp only [Mem.growRow,Ai c]
     exact ⟨Nat.le_refl _,fun _=>⟨trivial,trivial,trivial⟩⟩
   ·simp only [Mem.growRow]
    rw [Aa]
    exact Nat.le_refl _
  have q:(M.growRow id w.drew.drew.heap.size gc (ver+1) 0).fr id=ver+1∧(M.growRow id w.drew.drew.heap.size gc (ver+1) 0).blk id=w.drew.drew.heap.size∧(M.growRow id w.drew.drew.heap.size gc (ver+1) 0).cap id=gc∧(M.growRow id w.drew.drew.heap.size gc (ver+1) 0).rsz id=M.rsz id∧(M.growRow id w.drew.drew.heap.size gc (ver+1) 0).top w.drew.drew.heap.size=0:=by simp [Mem.growRow]
  obtain ⟨q1,q2,q3,q4,q5⟩:=q
  have Z:∀ l,l<M.N→M.bx l≠w.drew.drew.heap.size:=fun l hl=>by have:=hst.box_lt hl;intro q;simp at q;omega
  have K:=a6.growRow' hrow (x := .vec (ver+1) sz (cs.take (i*sz)++ys.flatMap (fun y=>y.pub.cells)++cs.drop (i*sz))) (w':=w.drew.drew.alloc (.cells cells (ρ.t 9))) (b:=w.drew.drew.heap.size) (cap:=gc) (k:=ver+1) (tp:=0) ((Below.refl _ w.drew.drew).alloc hst.base_le _) (by simp) (by simp)
   (fun l hl=>by have:=hst.box_lt hl;exact ⟨Z l hl,B6 _ _ this⟩) (fun i hi U=>by have:=hst.row_lt hi;exact ⟨fun q=>by simp at q;omega,B6 _ _ this⟩) (by
    simp only [RowOk,q1,q2,q3,q4,q5]
    exact ⟨trivial,f2,hst.base_le,trivial,Z,aq,h0,cells,ρ.t 9,heap_alloc_new w.drew.drew _,J,by rw [a0,J];exact Nat.mul_le_mul_right _ af,Y,
     fun i a b=>(((E cells _ V i _ _ (Array.getElem?_eq_getElem a) (List.getElem?_eq_getElem b)).mono d2).mono az).mono g⟩) g (KeepsObj.alloc _ _)
  exact ⟨_,_,_,_,rfl,⟨rfl,rfl⟩,(d2.trans az).trans g,K,.vec D (by rw [q1];exact Nat.le_refl _) fun _=>⟨by rw [q2];simp,by rw [q3];rfl,af⟩⟩
theorem Zbf {t el:TypeId} {ag:Bool} {o:VO} {n:Nat} {cs ys:List AV} {ow:Own} (he:OV P t=some (el,sz,ag,bytes)) (hz:(EW P el).isSome=true) (h0:0<sz) (hV:VAt 0 st.rows (o,sz,cs)) (hcs:cs.length=n*sz) (hm:0<ys.length)
  (hx:∀ y∈ys,y.cells.length=sz∧CM y=true) (hb:(n+ys.length)*bytes≤140737488355328) (hb2:n+ys.length≤4611686018427387904) :
  (B2 P st t (Ly o n) (.list ys ow)).1∧(B2 P st t (Ly o n) (.list ys ow)).2.1=Ly (RE o st.rows) (n+ys.length)∧(B2 P st t (Ly o n) (.list ys ow)).2.2={ st with rows:=Ud o st.rows sz (cs++ys.flatMap fun y=>y.pub.cells) }:=by
 cases o with
 | nil =>
  rcases hV with ⟨_,q⟩ | ⟨id,ver,q,_⟩
  ·have q:cs=[]:=q
   subst q
   have en:n=0:=by
    rcases Nat.eq_zero_or_pos n with k | k
    ·exact k
    ·have:=Nat.mul_pos k h0
     simp at hcs;omega
   subst en
   rw [Nat.zero_add] at hb hb2
   simp only [Ly,B2,he,Bj,C6,D1,hz,RE,Ud,List.length_nil,List.nil_append,Nat.zero_add,true_and,and_true]
   exact ⟨⟨h0,hb,hb2,hx⟩,hm⟩
  ·cases q
 | row id ver =>
  rcases hV with ⟨q,_⟩ | ⟨id',ver',q,_,q3⟩
  ·cases q
  ·cases q
   have hv:IH st.rows id ver=some (sz,cs):=by
    have q3:st.rows[id]? = some (.vec ver sz cs):=q3
    simp only [IH,q3,if_true]
   have a:cs.take (n*sz)=cs:=List.take_of_length_le (by omega)
   simp only [Ly,B2,he,hv,Bj,C6,D1,hz,RE,Ud,a,Nat.le_of_eq hcs.symm,true_and,and_true]
   exact ⟨h0,hb,hb2,hx⟩
theorem ZcE (L:InsLay P ρ nm sz bytes z) (hen:MU P (ρ.f 22)) {ag:Bool} (he:OV P (ρ.t 24)=some (ρ.t 9,sz,ag,bytes)) (hz:(EW P (ρ.t 9)).isSome=true) (hzc:z.cells.size=sz) (h0:0<sz) {o:VO} {n i:Nat} {cs ys:List AV} {ow:Own}
  (hV:VAt 0 st.rows (o,sz,cs)) (hcs:cs.length=n*sz) (hi:i≤n) (hm:0<ys.length)
  (hx:∀ y∈ys,y.cells.length=sz∧CM y=true) (hb:(n+ys.length)*bytes≤140737488355328) (hb2:n+ys.length≤4611686018427387904) :
  ACalls P w0 (ρ.f 22) [Ly o n,Ak i,.list ys ow] st fun r s=>r=Ly (RE o st.rows) (n+ys.length)∧s={ st with rows:=Ud o st.rows sz (cs.take (i*sz)++ys.flatMap (fun y=>y.pub.cells)++cs.drop (i*sz)) }:=by
 refine ⟨hen,fun M w j m d=>?_⟩
 obtain ⟨v0,v1,vx,rfl⟩:∃ v0 v1 vx,j = #[v0,v1,vx]:=by
  have:=d.1
  simp only [List.length_cons,List.length_nil] at this
  obtain ⟨l⟩:=j
  match l,this with
  | [a,b,c],_=>exact ⟨a,b,c,rfl⟩
 have hv0:R w0 M w v0 (Ly o n):=d.2 0 (by simp) (by simp)
 have E:R w0 M w v1 (Ak i):=d.2 1 (by simp) (by simp)
 have hvx:R w0 M w vx (.list ys ow):=d.2 2 (by simp) (by simp)
 obtain ⟨rfl,_⟩:=E.val_inv
 by_cases hin:i<n
 ·-- in the middle
  cases o with
  | nil =>
   rcases hV with ⟨_,q⟩ | ⟨id,ver,q,_⟩
   ·have q:cs=[]:=q
    rw [q] at hcs
    have:=Nat.mul_pos (show 0<n by omega) h0
    simp at hcs;omega
   ·cases q
  | row id ver =>
   rcases hV with ⟨q,_⟩ | ⟨id',ver',q,_,q3⟩
   ·cases q
   ·cases q
    exact Zcq L hzc h0 q3 hcs hin hm hx hb hb2 m hv0 hvx
 ·have hin:i=n:=by omega
  subst hin
  -- at the end: as append
  obtain ⟨g1,g2,g3⟩:=Zbf (st:=st) (ow:=ow) he hz h0 hV hcs hm hx hb hb2
  have hA:Rel w0 2 M [(0,true,Ly o i),(1,true,.list ys ow)] st ⟨#[v0,vx],[]⟩ w:=⟨m,rfl,fun s x hs=>by
   simp only [Eu] at hs
   split at hs
   ·subst s;cases hs;simpa [entryOk] using hv0
   ·split at hs
    ·subst s;cases hs;simpa [entryOk] using hvx
    ·cases hs⟩
  obtain ⟨v,K,M',g,O,J,N⟩:=YX hA (.tmp 0) (.tmp 1) (ρ.t 24) (ρ.t 24) (by simp [Ba,Eu]) (by simp [Ba,Eu]) g1
  have a0:(⟨#[v0,vx],[]⟩:Act).eval (.tmp 0)=v0:=rfl
  have a1:(⟨#[v0,vx],[]⟩:Act).eval (.tmp 1)=vx:=rfl
  rw [a0,a1] at g
  have G:(B2 P st (ρ.t 24) (AD [(0,true,Ly o i),(1,true,AV.list ys ow)] (.tmp 0)) (AD [(0,true,Ly o i),(1,true,AV.list ys ow)] (.tmp 1))).2.1=Ly (RE o st.rows) (i+ys.length):=g2
  have F:(B2 P st (ρ.t 24) (AD [(0,true,Ly o i),(1,true,AV.list ys ow)] (.tmp 0)) (AD [(0,true,Ly o i),(1,true,AV.list ys ow)] (.tmp 1))).2.2={ st with rows:=Ud o st.rows sz (cs++ys.flatMap fun y=>y.pub.cells) }:=g3
  rw [F] at J
  rw [G] at N
  have Z:cs.take (i*sz)=cs:=List.take_of_length_le (by omega)
  have hd:cs.drop (i*sz)=[]:=List.drop_of_length_le (by omega)
  rw [Z,hd,List.append_nil]
  have C:(Builtin.append_ #[ρ.t 24,ρ.t 24] (ρ.t 24) #[v0,vx]).run P w = .ok v K:=by
   cases hq:(Builtin.append_ #[ρ.t 24,ρ.t 24] (ρ.t 24) #[v0,vx]).run P w with
   | ok u w1 =>
    rcases g with g | ⟨g,_⟩
    ·simp [hq] at g
     rw [g.1,g.2]
    ·simp [hq] at g
   | _=>rcases g with g | ⟨g,_⟩<;>simp [hq] at g
  obtain ⟨ux,x1,Y⟩:=hvx.list_open (fun y hy=>(hx y hy).1)
  rcases Y with ⟨_,q,_⟩ | ⟨bx,ox,cx',sz',rfl,_⟩
  ·subst q;simp at hm
  have h:∀ (base:Option Addr) (c:Nat),v0 = .slice base i c→i≤c→(base=none→i=0)→Calls P (ρ.f 22) #[v0,.int .i64 i,.slice (some ⟨bx,ox,none⟩) ys.length cx'] w (Comes' w0 M w fun r s=>r=Ly (RE o st.rows) (i+ys.length)∧s={ st with rows:=Ud o st.rows sz (cs++ys.flatMap fun y=>y.pub.cells) }):=fun base c e H V=>by
   subst e
   exact (ZiZ L base i c ⟨bx,ox,none⟩ ys.length cx' w K v hm H V (fun ty=>C)).mono fun en Q ⟨q1,q2⟩=>by
    subst q1;subst q2
    exact ⟨_,_,_,_,rfl,⟨rfl,rfl⟩,O,J,N⟩
  cases o with
  | nil =>
   have ez:i=0:=by
    rcases hV with ⟨_,q⟩ | ⟨id,ver,q,_⟩
    ·have q:cs=[]:=q
     rw [q] at hcs
     rcases Nat.eq_zero_or_pos i with k | k
     ·exact k
     ·have:=Nat.mul_pos k h0
      simp at hcs;omega
    ·cases q
   subst ez
   have hv0':R w0 M w v0 (.list [] .seed):=hv0
   cases hv0' with
   | nil _=>exact h none 0 rfl (Nat.le_refl _) (fun _=>rfl)
   | @emp a _ _=>exact h (some a) 0 rfl (Nat.le_refl _) (fun _=>rfl)
   | list sz us H=>exact h _ _ rfl (Nat.zero_le _) (fun _=>rfl)
  | row id ver =>
   rcases hV with ⟨q,_⟩ | ⟨id',ver',q,_,q3⟩
   ·cases q
   ·cases q
    have U:=(m.row id _ q3).1
    have hv0':R w0 M w v0 (.vec id ver 0 i):=hv0
    cases hv0' with
    | @vec _ _ _ _ p cap hid' hver hh =>
     obtain ⟨rfl,_,D⟩:=hh U.symm
     exact h _ _ rfl D (fun q=>nomatch q)
end
def Lt:List Bool→List AV→List AV
 | b::m,a::l=>(if b=true then a.pubA else a)::Lt m l
 | [],l=>l.map AV.pubA
 | _::_,[]=>[]
@[go_sem] theorem Zlz (m:List Bool) (a:AV) (l:List AV):Lt (true::m) (a::l)=a.pubA::Lt m l:=rfl
@[go_sem] theorem ZlA (m:List Bool) (a:AV) (l:List AV):Lt (false::m) (a::l)=a::Lt m l:=rfl
@[go_sem] theorem Zly (l:List AV):Lt [] l=l.map AV.pubA:=rfl
theorem Wx:∀ (m:List Bool) (l:List AV),(Lt m l).length=l.length∧∀ (i:Nat) (h1:i<(Lt m l).length) (h2:i<l.length),(Lt m l)[i]=l[i]∨(Lt m l)[i]=l[i].pubA
 | [],l=>⟨by simp [Lt],fun i h1 h2 => .inr (by simp [Lt])⟩
 | b::m,[]=>⟨rfl,fun i h1 h2=>absurd h2 (by simp)⟩
 | b::m,a::l=>by
  obtain ⟨h1,h2⟩:=Wx m l
  refine ⟨by simp [Lt,h1],fun i c d=>?_⟩
  cases i with
  | zero=>cases b with
   | true=>exact .inr rfl
   | false=>exact .inl rfl
  | succ i=>exact h2 i (by simpa [Lt] using c) (by simpa using d)
section
variable {P:Program} {w0:World} {st:St} {f:FuncId}
theorem ACalls.mask {m:List Bool} {args args':List AV} {Post:AV→St→Prop} (h:ACalls P w0 f args' st Post) (he:Lt m args=args'):ACalls P w0 f args st Post:=by
 subst he
 obtain ⟨k,l⟩:=Wx m args
 refine ⟨h.1,fun M w d e c=>h.2 M w d e ?_⟩
 obtain ⟨n,j⟩:=c
 refine ⟨by rw [k];exact n,fun i a b=>?_⟩
 have g:i<args.length:=by rw [←k];exact b
 rcases l i b g with q | q
 ·rw [q];exact j i a g
 ·rw [q];exact (j i a g).pubA
theorem ZaU {c d:Bool} {cs args args':List AV} {k:AV→St→Prop} (m:List Bool) (v:AV)
  (h:ACalls P w0 f args' st fun r s=>r=v∧s=st) (he:Lt m (args++cs)=args') (hk:k v st):LH P w0 c d (.clo f cs) args st k := .inl ⟨v,fun _=>h.mask he,hk⟩
theorem YC {cs args args':List AV} {k:AV→St→Prop} (m:List Bool) (Post:AV→St→Prop)
  (h:ACalls P w0 f args' st Post) (he:Lt m (args++cs)=args') (hk:∀ v s,Post v s→k v s):LH P w0 true false (.clo f cs) args st k := .inr ⟨rfl,Post,fun _=>h.mask he,fun v s a _=>hk v s (a rfl)⟩
end
def Lx:List Bool→List AV→List AV
 | b::m,a::l=>(if b=true then a.pubCell else a)::Lx m l
 | [],l=>l.map AV.pubCell
 | _::_,[]=>[]
@[go_sem] theorem ZlE (m:List Bool) (a:AV) (l:List AV):Lx (true::m) (a::l)=a.pubCell::Lx m l:=rfl
@[go_sem] theorem ZlJ (m:List Bool) (a:AV) (l:List AV):Lx (false::m) (a::l)=a::Lx m l:=rfl
@[go_sem] theorem Zlw (l:List AV):Lx [] l=l.map AV.pubCell:=rfl
@[go_sem] theorem ZlM (m:List Bool):Lx m []=[]:=by cases m<;>rfl
def pubS (m:List Bool):AV→AV
 | .agg cs => .agg (Lx m cs)
 | x=>x
@[go_sem] theorem Zk7 (m:List Bool) (cs:List AV):pubS m (.agg cs) = .agg (Lx m cs):=rfl
theorem W2:∀ (m:List Bool) (l:List AV),(Lx m l).length=l.length∧∀ (i:Nat) (h1:i<(Lx m l).length) (h2:i<l.length),(Lx m l)[i]=l[i]∨(Lx m l)[i]=l[i].pubCell
 | [],l=>⟨by simp [Lx],fun i h1 h2 => .inr (by simp [Lx])⟩
 | b::m,[]=>⟨rfl,fun i h1 h2=>absurd h2 (by simp)⟩
 | b::m,a::l=>by
  obtain ⟨h1,h2⟩:=W2 m l
  refine ⟨by simp [Lx,h1],fun i c d=>?_⟩
  cases i with
  | zero=>cases b with
   | true=>exact .inr rfl
   | false=>exact .inl rfl
  | succ i=>exact h2 i (by simpa [Lx] using c) (by simpa using d)
theorem R.pubS {w0:World} {M:Mem} {w:World} (m:List Bool) {v:Value} {x:AV} (h:R w0 M w v x):R w0 M w v (pubS m x):=by
 cases h with
 | @agg us xs hl h1 h =>
  obtain ⟨e,f⟩:=W2 m xs
  refine .agg (by rw [e];exact hl) (fun x g=>?_) (fun i a b=>?_)
  ·obtain ⟨i,d,rfl⟩:=List.mem_iff_getElem.1 g
   have c:i<xs.length:=by rw [←e];exact d
   rcases f i d c with q | q
   ·rw [q];exact h1 _ (List.getElem_mem _)
   ·rw [q,AV.one_pubCell];exact h1 _ (List.getElem_mem _)
  ·have c:i<xs.length:=by rw [←e];exact b
   rcases f i b c with q | q
   ·rw [q];exact h i a c
   ·rw [q];exact (h i a c).pubCell
 | nil ho=>exact .nil ho
 | emp ho=>exact .emp ho
 | list sz us hc hm hcell hu ho=>exact .list sz us hc hm hcell hu ho
 | flat hf=>exact .flat hf
 | tup hl h=>exact .tup hl h
 | elem u k hcell hu=>exact .elem u k hcell hu
 | box hl=>exact .box hl
 | clo hl h=>exact .clo hl h
 | yld hk=>exact .yld hk
 | vec d hv h=>exact .vec d hv h
 | vel d hv h=>exact .vel d hv h
def ZeR (P:Program) (e:Env) (st:St):ResultVar→AV
 | .tmp t=>AD e (.tmp t)
 | .cell t ty=>(BB P e true st (.load ty (.tmp t))).2.1
def Zjz (mk:List Bool) (P:Program) (rs:List ResultVar) (Post:AV→St→Prop):AQ:=fun x e st =>
 match x with
 | .normal | .ret=>(∀ r∈rs,Xs P e st r)∧Post (pubS mk (ZaP (rs.map (ZeR P e st)))) st
 | _=>False
attribute [go_sem] ZeR Zjz
section
variable {P:Program} {w0:World} {n:Nat} {M:Mem} {e:Env} {st:St} {a:Act} {w:World}
theorem ZcX (mk:List Bool) (h:Rel w0 n M e st a w) {fn:Func} {rs:List ResultVar} (hfn:fn.results=rs.toArray) (hrs:∀ r∈rs,Xs P e st r) :
  ∃ v,(results fn a.tmps).run P w = .ok v w∧R w0 M w v (pubS mk (ZaP (rs.map (ZeR P e st)))):=by
 let f:ResultVar→Sem Value:=fun
  | .tmp t=>pure (a.tmps.getD t undef)
  | .cell b t=>do loadVar t (← asAddr (a.tmps.getD b undef))
 have d:∀ r∈rs,∃ v,(f r).run P w = .ok v w∧R w0 M w v (ZeR P e st r):=by
  intro r c
  have:=hrs r c
  cases r with
  | tmp t=>exact ⟨_,rfl,BE h (x := .tmp t) this⟩
  | cell b t =>
   obtain ⟨v,m,k⟩:=We h t (.tmp b) this
   exact ⟨v,m,k⟩
 classical
 let g:ResultVar→Value:=fun r=>if c:r∈rs then Classical.choose (d r c) else undef
 have j:∀ r∈rs,(f r).run P w = .ok (g r) w∧R w0 M w (g r) (ZeR P e st r):=by
  intro r c
  have:=Classical.choose_spec (d r c)
  have e:g r=Classical.choose (d r c):=by simp only [g,dif_pos c]
  rw [e];exact this
 have l:(fn.results.mapM f).run P w = .ok ((rs.map g).toArray) w:=by
  rw [hfn,Array.mapM_eq_mapM_toList]
  simp only [Sem.run_map,Qw f g rs (fun r c=>(j r c).1),Result.andThen_ok]
 have i:(results fn a.tmps).run P w = .ok (if h:(rs.map g).toArray.size=1 then (rs.map g).toArray[0] else .tuple (rs.map g).toArray) w:=by
  unfold results
  simp only [Sem.run_bind]
  refine Eq.trans (congrArg (fun x=>Result.andThen x _) l) ?_
  simp only [Result.andThen_ok,Sem.run_pure]
 refine ⟨_,i,?_⟩
 exact R.pubS mk (Xg rs g fun r c=>(j r c).2)
theorem Sm (mk:List Bool) {f:FuncId} {fn:Func} {c:Code} {args:List AV} {rs:List ResultVar} {Post:AV→St→Prop} (hf:P.funcs[f]? = some fn) (hb:fn.body=some c) (hrs:fn.results=rs.toArray) (hn:fn.ntmps=n)
  (hen:MU P f) (ha:args.length≤n)
  (h:∀ (M0:Mem) (W0:World),M0.N=st.boxes.length→M0.NR=st.rows.length→M0.NL=st.loops.length→Calm st.boxes.length st.rows.length st.loops.length st→(∀ x∈args,Under st.boxes.length st.rows.length st.loops.length x) →
   F3 P w0 n M0 W0 none c (Zjz mk P rs Post) (AG 0 args) st):ACalls P w0 f args st Post:=by
 refine ⟨hen,fun M w a b d=>?_⟩
 have G:a.size=args.length:=d.1
 have O:∀ x∈args,Under st.boxes.length st.rows.length st.loops.length x:=by
  intro x Q
  obtain ⟨i,D,rfl⟩:=List.mem_iff_getElem.1 Q
  have:=(d.get (i:=i) (Array.getElem?_eq_getElem (by omega)) (List.getElem?_eq_getElem D)).under
  rwa [b.N,b.NR,b.loop.NL] at this
 have k:Rel w0 n M (AG 0 args) st { tmps:=a++Array.replicate (fn.ntmps-a.size) undef,defers:=[] } w:=by
  refine ⟨b,by simp;omega,fun s x hs=>?_⟩
  obtain ⟨i,j,y,q,rfl⟩:=SZ _ _ _ _ hs
  have D:i<args.length:=(Aj.1 q).1
  have hs':s=i:=by omega
  subst hs'
  simp only [entryOk,if_true]
  have U:(a++Array.replicate (fn.ntmps-a.size) undef).getD s undef=a[s]'(by omega):=by
   simp [Array.getD_eq_getD_getElem?,Array.getElem?_append_left (show s<a.size by omega),Array.getElem?_eq_getElem (show s<a.size by omega)]
  rw [U]
  exact d.get (Array.getElem?_eq_getElem (by omega)) q
 refine VM (n:=0) (callsIn_of_wp_marks hf hb trivial (wpIn_mono (h M w b.N b.NR b.loop.NL b.calm O 0 M _ w ⟨k,.refl _ _ _,[],by simp⟩) ?_))
 rintro ex o z ⟨M',p,m,j,l⟩
 have e:∀ (t:∀ r∈rs,Xs P p m r) (u:Post (pubS mk (ZaP (rs.map (ZeR P p m)))) m),
   LeavesInM (FW none) 0 P fn o.tmps (Comes' w0 M w Post) o.defers .returning z:=by
  intro t u
  obtain ⟨Ds,E,H,J⟩:=j.marks
  rw [H]
  refine Px Ds M' z E J b.base_le j.rel.st j.ext fun F C K k3=>?_
  have g:Rel w0 n M' p m o F:=⟨C,j.rel.size,fun s x hs=>by
   have:=j.rel.env s x hs
   unfold entryOk at *
   split
   ·rename_i c;rw [Ah c] at this;exact k3 _ _ this
   ·rename_i c;rw [Ai c] at this;exact this⟩
  obtain ⟨v,q1,q2⟩:=ZcX mk g hrs t
  exact ⟨v,q1,v,M',_,m,rfl,u,K,C,q2⟩
 cases ex with
 | normal=>exact e l.1 l.2
 | ret=>exact e l.1 l.2
 | _=>exact l.elim
end
end Go.Ev
namespace Go.Proofs.YtmcnjijeocmkgaaGreatDoor
open Go Go.RowKit Go.Ev
@[go_sem] theorem ZlN (n:Nat):Ly .nil n = .list [] .seed:=rfl
def N8 {α:Type} (l:List α) (i:Int) (y:α):List α:=l.take i.toNat++y::l.drop i.toNat
theorem YK {α:Type} {g:α→List AV} {sz:Nat} (hg:∀ x,(g x).length=sz):∀ (xs:List α) (k:Nat),(xs.flatMap g).take (k*sz)=(xs.take k).flatMap g
 | [],k=>by simp
 | x::xs,0=>by simp
 | x::xs,k+1=>by
  have a:=hg x
  rw [List.flatMap_cons,List.take_succ_cons,List.flatMap_cons,←YK hg xs k,Nat.succ_mul,Nat.add_comm,List.take_append,List.take_of_length_le (by omega)]
  congr 2
  omega
theorem Yz {α:Type} {g:α→List AV} {sz:Nat} (hg:∀ x,(g x).length=sz):∀ (xs:List α) (k:Nat),(xs.flatMap g).drop (k*sz)=(xs.drop k).flatMap g
 | [],k=>by simp
 | x::xs,0=>by simp
 | x::xs,k+1=>by
  have a:=hg x
  rw [List.flatMap_cons,List.drop_succ_cons,←Yz hg xs k,Nat.succ_mul,Nat.add_comm,List.drop_append,List.drop_of_length_le (by omega),List.nil_append]
  congr 1
  omega
def insR:Go.Shelf.Ren:=⟨fun x=>if x=22 then 140 else if x=29 then 210 else if x=30 then 211 else x,
 fun x=>if x=9 then 81 else if x=24 then 32 else if x=3 then 3 else if x=4 then 4 else if x=0 then 0 else x,fun x=>x⟩
theorem ZlY:∃ z,InsLay Tryz.prog insR Tryz.f140.name 7 104 z∧z.cells.size=7:=by
 obtain ⟨j,z,g,b,c,a,d⟩:=XX (by kernel_rfl:Zdj Tryz.prog 81 7 104=true)
 exact ⟨z,{
  mixed:=by kernel_rfl
  nmo:=by decide
  f22:=Tryz.func140.trans (congrArg some (by kernel_rfl))
  ov:=fun w x y h=>by
   show (callFunc 210 #[x,y]).run Tryz.prog w=_
   rw [run_callFunc_extern Tryz.func210 (by kernel_rfl) (by kernel_rfl) (by kernel_rfl) (e:=Extern.SlicesOverlaps.overlaps #[32,32] #[4]) (by kernel_rfl)]
   have f:(Extern.SlicesOverlaps.overlaps #[32,32] #[4] #[x,y]).run Tryz.prog w = .ok (.bool false) w:=h
   first | (rw [f];rfl) | simp [f]
  t0:=Tryz.underlying0
  a0:=Tryz.isAgg0
  z0:=Tryz.sizeOf0
  v0:=Tryz.zeroValue0
  t3:=Tryz.underlying3
  a3:=Tryz.isAgg3
  z3:=Tryz.sizeOf3
  v3:=Tryz.zeroValue3
  t4:=Tryz.underlying4
  a4:=Tryz.isAgg4
  z4:=Tryz.sizeOf4
  v4:=Tryz.zeroValue4
  z9:=Tryz.sizeOf81
  t24:=Tryz.underlying32
  a24:=Tryz.isAgg32
  z24:=Tryz.sizeOf32
  v24:=Tryz.zeroValue32
  i9:=by
   show (Tryz.prog.info? 81).map (fun i=>(i.zero,i.size,i.bytes))=_
   rw [g];simp [b,c,a] },d⟩
theorem Wm (w0:World) {Rw rows:List RowA} {l:List (Nat × Nat × Ev.Own)} {ho:Ev.Own} {o:VO} {v:List VE} {xs:List (ByteArray × Vl)} (hO:Owns Rw rows l ho ((o,7,xs.flatMap fun x=>(BV x).cells)::v)) (i:Int)
  (hg:(0≤i∧i≤(xs.length:Int))∧(xs.length+1)*104≤140737488355328∧xs.length+1≤4611686018427387904) (y:ByteArray × Vl) :
  ∃ id' ver' rows',Owns Rw rows' l ho ((.row id' ver',7,(N8 xs i y).flatMap fun x=>(BV x).cells)::v)∧∀ (B:Am) (L:Ar) (ow:Ev.Own),ACalls Tryz.prog w0 140 [Ly o xs.length,Ak i,.list [BV y] ow] ⟨B,rows,L⟩ fun r s=>r = .vec id' ver' 0 (N8 xs i y).length∧s=⟨B,rows',L⟩:=by
 obtain ⟨⟨p,n⟩,g,h⟩:=hg
 obtain ⟨k,rfl⟩:∃ k:Nat,i=(k:Int):=⟨i.toNat,by omega⟩
 obtain ⟨z,e,j⟩:=ZlY
 have a:∀ x:ByteArray × Vl,((fun x=>(BV x).cells) x).length=7:=fun x=>by simp +decide only [go_sem]
 have d:(xs.flatMap fun x=>(BV x).cells).length=xs.length*7:=CZ (f:=BV) (fun _=>by simp +decide only [go_sem]) xs
 have c:(N8 xs (k:Int) y).length=xs.length+1:=by
  unfold N8
  rw [List.length_append,List.length_cons,List.length_take,List.length_drop]
  simp only [Int.toNat_natCast]
  omega
 have b:(xs.flatMap fun x=>(BV x).cells).take (k*7)++[BV y].flatMap (fun y=>y.pub.cells)++(xs.flatMap fun x=>(BV x).cells).drop (k*7)=(N8 xs (k:Int) y).flatMap fun x=>(BV x).cells:=by
  unfold N8
  rw [YK a,Yz a,List.flatMap_append,List.flatMap_cons,List.flatMap_cons,List.flatMap_nil,List.append_nil,X6,Int.toNat_natCast,List.append_assoc]
 obtain ⟨id',ver',hrow⟩:∃ id' ver',RE o rows = .row id' ver':=by
  cases o with
  | nil=>exact ⟨_,_,rfl⟩
  | row id ver=>exact ⟨_,_,rfl⟩
 refine ⟨id',ver',_,hrow▸hO.bump ((N8 xs (k:Int) y).flatMap fun x=>(BV x).cells),fun B L ow=>?_⟩
 have:=ZcE (P:=Tryz.prog) (w0:=w0) (st:=⟨B,rows,L⟩) (ow:=ow) (ys:=[BV y]) (ag:=true) (i:=k) e (Bl Tryz.func140 rfl (by decide)) Nb (by rw [show insR.t 9=81 from rfl,IB];rfl) j (by decide) hO.vp d (by omega) (by simp)
  (fun q m=>by rw [List.mem_singleton.1 m];exact ⟨by simp +decide only [go_sem],by simp +decide only [go_sem]⟩) g h
 rw [b] at this
 exact this.mono fun r s ⟨q1,q2⟩=>⟨by rw [q1,c,hrow];rfl,q2⟩
theorem Zcs {B B':List (List AV)} {R0 rows:List RowA} {L:List LoopA} {Post:AV→St→Prop} {v:AV} {ow:List (Nat × Nat × Ev.Own)} {oh:Ev.Own} (ho:Owns R0 rows ow oh) (hc:Go.Ev.Calm B.length rows.length L.length ⟨B',R0,L⟩) (hB:B'.length=B.length) (hu:Go.Ev.Under B.length rows.length L.length v.pubA) (hp:Post v.pubA ⟨B',rows,L⟩) :
  Go.Ev.finG ⟨B,R0,L⟩ Post v ⟨B',rows,L⟩:=by
 have:=UY (X:=[]) ho hc hB hu hp
 rwa [List.append_nil] at this
def Hm (n:Nat)  : Option Int :=
 some ((-1))
def CN (n:Nat) (q:List (ByteArray × Vl)) (y:(ByteArray × Vl)→Option Bool):Nat→Int→Option Int
 | 0,_=>none
 | m+1,b =>
  if decide (b<(q.length:Int)) then
   (B1 q b).bind fun g =>
   (y g).bind fun h =>
   if h then
    some (b)
   else
    if BM (b+1) then
     (CN n q y m) (b+1)
    else none
  else
   Hm n 
def FT (n:Nat) (g:List (ByteArray × Vl)) (b:(ByteArray × Vl)→Option Bool):Option Int :=
 CN n g b n 0
theorem Py (w0:World) (n:Nat) (B:Am) (Rw:Aq) (L:Ar) (oa0:VO) (a0:List (ByteArray × Vl)) (hVa0:VP Rw oa0 7 (a0.flatMap fun x=>(BV x).cells)) (fa1:FuncId) (ca1:List AV) (a1:(ByteArray × Vl)→Option Bool) (ha1:∀ (x0:ByteArray × Vl) r,a1 x0=some r→∀ B' rows,B <+: B'→Rw <+: rows→ACalls Tryz.prog w0 fa1 ([.agg (.val (.string x0.1)::(x0.2.cs))]++ca1) ⟨B',rows,L⟩ fun v s=>v = .val (.bool r)∧s=⟨B',rows,L⟩) (r:Int) (h:FT n a0 a1=some r) :
  ACalls Tryz.prog w0 199 [Ly oa0 a0.length,.clo fa1 ca1] ⟨B,Rw,L⟩ fun x st=>x=Ak r∧st=⟨B,Rw,L⟩:=by
 rw [FT] at h
 refine hd [.tmp 4] Tryz.func199 Tryz.ntmps199 fun M0 W0 G t q c V g hs=>?_
 simp only [AG]
 have d:=CV (V (.clo fa1 ca1) (by simp))
 refine rg [0,1] hs ?_
 refine AA (fun e st=>Ck e st B Rw L [] [] [] (Hm n  = some r)) ?_ ?_
 ·intro K4 K
  apply An;intro K5 D
  have w:=(hVa0.up g).lenV (by decide:0<7) (CZ (f:=BV) (sz:=7) (fun _=>by simp +decide only [go_sem]) a0) Tryz.prog 32
  simp +decide only [go_sem] at w
  have hs:=Ad w hs
  refine rl [0,1,7,8] hs D ?_
  clear D
  apply Ao
  refine AL (fun m e st=>∃ (i:Int),Ck e st B Rw L [(0,true,Ly oa0 a0.length),(1,true,.clo fa1 ca1),(7,true,Ak (a0.length:Int)),(8,true,Ak i)] [] [] (CN n a0 a1 m i=some r)) n ⟨0,([]),Rw,ef hs,ef hs,g,h⟩ ?_
  rintro ml7 e st ⟨i,Xl7,Rl7,rfl,rfl,g,h⟩ Ul7 Vl7
  cases ml7 with
  | zero=>cases h
  | succ ml7 =>
  rw [CN] at h
  have b:=(hVa0.up g).under;(try simp only [L6] at b)
  refine AY G t q rfl c g (Kq d g) (Kq d g) ?_
  refine rg [0,1,7,8,9] hs ?_
  apply An;intro K9 C
  refine BN h hs ?_ ?_<;>intro hs h
  rotate_left
  ·refine sx [] hs K ?_
   exact ⟨([]),Rl7,ef hs,ef hs,g,h⟩
  refine sk [0,1,7,8] hs C ?_
  clear C
  apply An;intro K11 u
  apply Ao
  refine rg [0,1,5,7,8] hs ?_
  apply An;intro K13 z
  obtain ⟨Q,y,h⟩:=bind_some h
  obtain ⟨E,F,p⟩:=B9 y
  obtain ⟨N,J,hqx14,H,o⟩:=(hVa0.up g).row (by rw [(CZ (f:=BV) (sz:=7) (fun _=>by simp +decide only [go_sem]) _)];exact Nat.mul_pos (by omega) (by decide))
  subst hqx14
  have l:=QE (f:=BV) (sz:=7) (fun _=>by simp +decide only [go_sem]) p
  have j:=Fo (f:=fun x=>(BV x).cells) 7 (fun _=>by simp +decide only [go_sem]) p
  have k:=CZ (f:=BV) (sz:=7) (fun _=>by simp +decide only [go_sem]) a0
  simp only [Hg,G6,He,Hz,Ha,GK,Fh,Fa,G2,Eg,Eh,Fp,Fq,E9,Ep] at l j o k
  obtain ⟨U,O,h⟩:=bind_some h
  have hs:=Ad l hs
  have hs:=Ad j hs
  have hs:=Ad o hs
  have hs:=Ad k hs
  exact go (tg (a:=([0,1,5,7,8,16],([4],()),[0,1,7,8],[0,1,7,8],()))) h hs G t q c g (q1 ha1) (q3 z u (fun e s=>Vl7 ml7 e s (Nat.lt_succ_self _)))
 ·clear h;rintro e st ⟨Xk3,Rk3,rfl,rfl,g,h⟩
  rw [Hm] at h
  have b:=(hVa0.up g).under;(try simp only [L6] at b)
  refine AY G t q rfl c g (Kq d g) (Kq d g) ?_
  refine rg [4] hs ?_
  exact rt h hs c g
def L9 (n:Nat) (b:Vl) (b2_k23_4:List Vl) (b2_k23_5:List (ByteArray × Vl)):Option Vl :=
 some (Vl.mk b.kind b.int b.scale b.text b2_k23_4 b2_k23_5)
def Hj (n:Nat) (h:Vl):Nat→Int→(List Vl)→(List (ByteArray × Vl))→Option Vl
 | 0,_,_,_=>none
 | m+1,b,b2_l26_4,b2_l26_5 =>
  if decide (b<(h.fields.length:Int)) then
   (B1 h.fields b).bind fun g =>
   (Bm n g.2).bind fun q =>
   if (b2_l26_5.length+1)*104≤140737488355328∧b2_l26_5.length+1≤4611686018427387904 then
    if BM (b+1) then
     (Hj n h m) (b+1) b2_l26_4 (b2_l26_5++[(g.1,q)])
    else none
   else none
  else
   L9 n h b2_l26_4 b2_l26_5
def N7 (n:Nat) (b:Vl) (b2_k5_4:List Vl) (b2_k5_5:List (ByteArray × Vl)):Option Vl :=
 Hj n b n 0 b2_k5_4 b2_k5_5
def IE (n:Nat) (g:Vl):Nat→Int→(List Vl)→(List (ByteArray × Vl))→Option Vl
 | 0,_,_,_=>none
 | m+1,b,b2_l8_4,b2_l8_5 =>
  if decide (b<(g.list.length:Int)) then
   (B1 g.list b).bind fun h =>
   (Bm n h).bind fun q =>
   if (b2_l8_4.length+1)*88≤140737488355328∧b2_l8_4.length+1≤4611686018427387904 then
    if BM (b+1) then
     (IE n g m) (b+1) (b2_l8_4++([q])) b2_l8_5
    else none
   else none
  else
   N7 n g b2_l8_4 b2_l8_5
def MY (n:Nat) (b:Vl):Option Vl :=
 IE n b n 0 ([]) ([])
theorem ZbP (w0:World) (n:Nat) (B:Am) (Rw:Aq) (L:Ar) (a0:Vl) (r:Vl) (h:MY n a0=some r) :
  ACalls Tryz.prog w0 56 [.agg (a0.cs)] ⟨B,Rw,L⟩ fun x st=>∃ (o0:VO) (rows:Aq),x = .agg ([Ak r.kind,Ak r.int,Ak r.scale,.val (.string r.text),.list (r.list.map Bv) .none,Ly o0 r.fields.length])∧st=⟨B,rows,L⟩∧Owns Rw rows [] .none [(o0,7,(r.fields).flatMap fun x=>(BV x).cells)]:=by
 rw [MY] at h
 refine ACalls.finV (Sm [true,true,true,true,true,false] (rs:=[.cell 2 34]) Tryz.func56 rfl rfl Tryz.ntmps56 (Bl Tryz.func56 rfl (by decide)) (Nat.le_of_ble_eq_true rfl) ?_)
 intro M0 W0 hN K J E hu
 dsimp only at hN K J E hu
 simp only [AG]
 have v:=Owns.none Rw
 have hs:=YB
 refine rg [1,2] hs ?_
 refine rg [1,2,3] hs ?_
 have hs:=Ad (Vl.cs_eqs a0) hs
 refine rg [1,2,3] hs ?_
 refine AA (fun e st=>∃ (k:List Vl) (l:List (ByteArray × Vl)) (u:Ev.Own) (o:VO) (Xk5:Am) (Rk5:Aq),e=[(1,true,.box B.length 0),(2,true,.box (B.length+1) 0),(3,true,.box (B.length+2) 0)]∧st=⟨B++([a0.cs,AX,[Ak a0.kind,Ak a0.int,Ak a0.scale,.val (.string a0.text),.list (k.map Bv) u,Ly o l.length]]++Xk5),Rk5,L⟩∧Owns Rw Rk5 [(6,k.length,u)] .none [(o,7,l.flatMap fun x=>(BV x).cells)]∧N7 n a0 k l=some r) ?_ ?_
 ·intro K6 ar
  refine rg [1,2,3,12,13,14] hs ?_
  apply Ao
  refine JV (B.length+2) 5 (by simp only [EZ,D3,HH,F5];rfl) rfl ?_;simp +decide only [go_sem,Nat.reduceAdd,List.set_cons_zero,List.set_cons_succ]
  have v:=v.nilV 7
  refine AL (fun m e st=>∃ (F:Int) (c:List Vl) (g:List (ByteArray × Vl)) (t:Ev.Own) (i:VO) (Xl8:Am) (Rl8:Aq),e=[(1,true,.box B.length 0),(2,true,.box (B.length+1) 0),(3,true,.box (B.length+2) 0),(12,true,.list (a0.list.map Bv) .none),(13,true,Ak (a0.list.length:Int)),(14,true,Ak F)]∧st=⟨B++([a0.cs,AX,[Ak a0.kind,Ak a0.int,Ak a0.scale,.val (.string a0.text),.list (c.map Bv) t,Ly i g.length]]++Xl8),Rl8,L⟩∧Owns Rw Rl8 [(6,c.length,t)] .none [(i,7,g.flatMap fun x=>(BV x).cells)]∧IE n a0 m F c g=some r) n ⟨0,([]),([]),.full,.nil,([]),Rw,ef hs,ef hs,Owns.eqV (Owns.of_eq ((v).full 6 0) Kr) V5,h⟩ ?_
  rintro ml8 e st ⟨F,c,g,t,i,Xl8,Rl8,rfl,rfl,v,h⟩ Ul8 Vl8
  cases ml8 with
  | zero=>cases h
  | succ ml8 =>
  rw [IE] at h
  have hU:=v.unders
  simp only [List.mem_cons,List.not_mem_nil,or_false,forall_eq_or_imp,forall_eq] at hU
  have G:=v.underV
  simp only [List.mem_cons,List.not_mem_nil,or_false,forall_eq_or_imp,forall_eq] at G
  refine AY hN K J rfl E v ow ow ?_ (vu @KN)
  refine rg [1,2,3,12,13,14,15] hs ?_
  apply An;intro K11 V
  refine BN h hs ?_ ?_<;>intro hs h
  rotate_left
  ·refine sx [1,2,3] hs ar ?_
   exact ⟨c,g,t,i,([]),Rl8,ef hs,ef hs,Owns.eqV (Owns.of_eq (v) Kr) V5,h⟩
  refine sk [1,2,3,12,13,14] hs V ?_
  clear V
  apply An;intro K13 Z
  apply Ao
  obtain ⟨aj,ao,h⟩:=bind_some h
  obtain ⟨av,au,ag⟩:=B9 ao
  have ah:=C5 (f:=Bv) ag
  have hs:=Ad ah hs
  refine rg [1,2,3,5,12,13,14] hs ?_
  obtain ⟨ax,ai,h⟩:=bind_some h
  obtain ⟨ab,h⟩:=Au h
  obtain ⟨az,O,v,D⟩:=v.append (P:=Tryz.prog) LS (by rw [HF];rfl) (by decide) 1 ab.1 ab.2
  replace D:=fun (ys:List AV) B L o2=>D (c.map Bv) ys B L o2 Kr
  replace D:=fun (y:AV) B L o2=>D [y] B L o2 Kr ev
  try simp only [List.mem_singleton,List.mem_cons,List.not_mem_nil,or_false,forall_eq_or_imp,forall_eq,List.map_append,List.map_cons,List.map_nil,Hg,G6,He,Hz,Ha,GK,Fh,Fa,G2,Eg,Eh,Fp,Fq,E9] at D
  have hs:=Ad D hs
  refine dk 5 2 1 [1,2,3,12,13,14] hs Oo ?_
  refine As _ (DO w0 n _ _ _ aj _ ai) (hv hs) ?_
  refine dn hs Z ?_
  clear Z
  obtain ⟨a2,h⟩:=Au h
  refine rl [1,2,3,12,13,14] hs (fun e s=>Vl8 ml8 e s (Nat.lt_succ_self _)) ?_
  exact ⟨(F+1),(c++([ax])),g,az,i,([aj.cs]),O,ef hs,ef hs,Owns.eqV (Owns.of_eq (v) Kr) V5,h⟩
 ·clear h;rintro e st ⟨k,l,u,o,Xk5,Rk5,rfl,rfl,v,h⟩
  rw [N7] at h
  have hU:=v.unders
  simp only [List.mem_cons,List.not_mem_nil,or_false,forall_eq_or_imp,forall_eq] at hU
  have G:=v.underV
  simp only [List.mem_cons,List.not_mem_nil,or_false,forall_eq_or_imp,forall_eq] at G
  refine AY hN K J rfl E v ow ow ?_ (vu @KN)
  refine AA (fun e st=>∃ (p:List Vl) (q:List (ByteArray × Vl)) (w:Ev.Own) (z:VO) (Xk23:Am) (Rk23:Aq),e=[(2,true,.box (B.length+1) 0),(3,true,.box (B.length+2) 0)]∧st=⟨B++([a0.cs,AX,[Ak a0.kind,Ak a0.int,Ak a0.scale,.val (.string a0.text),.list (p.map Bv) w,Ly z q.length]]++Xk23),Rk23,L⟩∧Owns Rw Rk23 [(6,p.length,w)] .none [(z,7,q.flatMap fun x=>(BV x).cells)]∧L9 n a0 p q=some r) ?_ ?_
  ·intro K24 am
   refine rg [2,3,27,28,29] hs ?_
   apply Ao
   refine AL (fun m e st=>∃ (C:Int) (b:List Vl) (a:List (ByteArray × Vl)) (d:Ev.Own) (j:VO) (Xl26:Am) (Rl26:Aq),e=[(2,true,.box (B.length+1) 0),(3,true,.box (B.length+2) 0),(27,true,.list (a0.fields.map BV) .none),(28,true,Ak (a0.fields.length:Int)),(29,true,Ak C)]∧st=⟨B++([a0.cs,AX,[Ak a0.kind,Ak a0.int,Ak a0.scale,.val (.string a0.text),.list (b.map Bv) d,Ly j a.length]]++Xl26),Rl26,L⟩∧Owns Rw Rl26 [(6,b.length,d)] .none [(j,7,a.flatMap fun x=>(BV x).cells)]∧Hj n a0 m C b a=some r) n ⟨0,k,l,u,o,([]),Rk5,ef hs,ef hs,Owns.eqV (Owns.of_eq (v) Kr) V5,h⟩ ?_
   rintro ml26 e st ⟨C,b,a,d,j,Xl26,Rl26,rfl,rfl,v,h⟩ Ul26 Vl26
   cases ml26 with
   | zero=>cases h
   | succ ml26 =>
   rw [Hj] at h
   have hU:=v.unders
   simp only [List.mem_cons,List.not_mem_nil,or_false,forall_eq_or_imp,forall_eq] at hU
   have G:=v.underV
   simp only [List.mem_cons,List.not_mem_nil,or_false,forall_eq_or_imp,forall_eq] at G
   refine AY hN K J rfl E v ow ow ?_ (vu @KN)
   refine rg [2,3,27,28,29,30] hs ?_
   apply An;intro K28 aa
   refine BN h hs ?_ ?_<;>intro hs h
   rotate_left
   ·refine sx [2,3] hs am ?_
    exact ⟨b,a,d,j,([]),Rl26,ef hs,ef hs,Owns.eqV (Owns.of_eq (v) Kr) V5,h⟩
   refine sk [2,3,27,28,29] hs aa ?_
   clear aa
   apply An;intro K30 Y
   apply Ao
   obtain ⟨H,ap,h⟩:=bind_some h
   obtain ⟨ay,aw,ae⟩:=B9 ap
   have ad:=C5 (f:=BV) ae
   have hs:=Ad ad hs
   refine rg [2,3,7,27,28,29] hs ?_
   obtain ⟨af,ak,h⟩:=bind_some h
   obtain ⟨U,h⟩:=Au h
   obtain ⟨aq,Q,v,N⟩:=v.appendV (P:=Tryz.prog) (n:=a.length) (m:=1) Nb (by rw [IB];rfl) (by decide) ((CZ (f:=BV) (sz:=7) (fun _=>by simp +decide only [go_sem]) _)) (by decide) U.1 U.2 [BV ((H.1,af))] rfl ((a++[(H.1,af)]).flatMap fun x=>(BV x).cells) (by simp only [List.flatMap_append,List.flatMap_cons,List.flatMap_nil,List.append_nil,List.nil_append,X6])
   simp only [List.mem_singleton,forall_eq,Hg,G6,He,Hz,Ha,GK,Fh,Fa,G2,Eg,Eh,Fp,Fq,E9] at N
   have hs:=Ad N hs
   refine dk 9 2 1 [2,3,27,28,29] hs Oo ?_
   refine As _ (DO w0 n _ _ _ H.2 _ ak) (hv hs) ?_
   refine dn hs Y ?_
   clear Y
   obtain ⟨a1,h⟩:=Au h
   refine rl [2,3,27,28,29] hs (fun e s=>Vl26 ml26 e s (Nat.lt_succ_self _)) ?_
   exact ⟨(C+1),b,(a++[(H.1,af)]),d,aq,([.val (.string H.1)::(H.2.cs)]),Q,ef hs,ef hs,Owns.eqV (Owns.of_eq (v) Kr) V5,h⟩
  ·clear h;rintro e st ⟨p,q,w,z,Xk23,Rk23,rfl,rfl,v,h⟩
   rw [L9] at h
   have hU:=v.unders
   simp only [List.mem_cons,List.not_mem_nil,or_false,forall_eq_or_imp,forall_eq] at hU
   have G:=v.underV
   simp only [List.mem_cons,List.not_mem_nil,or_false,forall_eq_or_imp,forall_eq] at G
   refine AY hN K J rfl E v ow ow ?_ (vu @KN)
   refine rg [2] hs ?_
   apply Df;simp +decide only [go_sem,Nat.reduceAdd,Vl.cs_eqs a0]
   have hgt:=Option.some.inj h;subst hgt
   have G:=v.underV
   simp only [List.mem_cons,List.not_mem_nil,or_false,forall_eq_or_imp,forall_eq] at G
   refine Zai v E rfl (by (simp +decide only [go_sem,Nat.reduceAdd,Vl.cs_eqs a0])<;>(try (repeat' apply Ad))<;>first | omega | assumption) (vu @KN) ⟨_,_,?_,rfl,v.sub (List.nil_sublist _)⟩
   first | rfl | (simp +decide only [go_sem,Nat.reduceAdd,Vl.cs_eqs a0];done) | (simp +decide only [go_sem,Nat.reduceAdd,Vl.cs,Ty.cs,Vl.cs_eqs a0];done)
def DR (g:ByteArray × Vl) (b:ByteArray):Bool :=
 !(X7 g.1 b||Eb g.1 b)
theorem ZaJ (w0:World) (B:Am) (Rw:Aq) (L:Ar) (a0:ByteArray × Vl) (la1:Nat) (a1:ByteArray) (hla1:B[la1]? = some ([.val (.string a1)])) (r:Bool) (h:DR a0 a1=r) :
  ACalls Tryz.prog w0 200 [.agg (.val (.string a0.1)::(a0.2.cs)),.box la1 0] ⟨B,Rw,L⟩ fun x st=>x = .val (.bool r)∧st=⟨B,Rw,L⟩:=by
 rw [DR] at h
 refine hd [.tmp 3] Tryz.func200 Tryz.ntmps200 fun M0 W0 f d c a g e hs=>?_
 simp only [AG]
 have b:=(Aj.1 hla1).1
 have hs:=Ad (Aw hla1) hs
 refine rg [1,2] hs ?_
 refine rg [3] hs ?_
 exact rT h hs a e
theorem ZQ (w0:World) (B:Am) (Rw:Aq) (L:Ar) (a0:ByteArray × Vl) (la1:Nat) (a1:ByteArray) (hla1:B[la1]? = some ([.val (.string a1)])) :
  ACalls Tryz.prog w0 200 [.agg (.val (.string a0.1)::(a0.2.cs)),.box la1 0] ⟨B,Rw,L⟩ fun x st=>x = .val (.bool (DR a0 a1))∧st=⟨B,Rw,L⟩:=ZaJ w0 B Rw L a0 la1 a1 hla1 _ rfl
def KU (n:Nat) (q:ByteArray) (y:Vl) (g:Vl) (b:Int) (b4_k38_5:List (ByteArray × Vl)):Option (Vl × Int) :=
 (Bm n y).bind fun h =>
 if (0≤b∧b≤(b4_k38_5.length:Int))∧(b4_k38_5.length+1)*104≤140737488355328∧b4_k38_5.length+1≤4611686018427387904 then
  some ((Vl.mk g.kind g.int g.scale g.text g.list (N8 b4_k38_5 b ((q,h))),0))
 else none
def Ia (n:Nat) (a0:Vl) (g:ByteArray) (y:Vl):Option (Vl × Int) :=
 (JF n a0 g).bind fun q =>
 if !(decide (a0.kind=9)) then
  some ((Vl.mk 0 0 0 (⟨#[]⟩:ByteArray) ([]) ([]),11))
 else
  if g.size≤maxLen then
   if !(Ft g) then
    some ((Vl.mk 0 0 0 (⟨#[]⟩:ByteArray) ([]) ([]),12))
   else
    if A3 y then
     some ((Vl.mk 0 0 0 (⟨#[]⟩:ByteArray) ([]) ([]),19))
    else
     if (decide (q<0))&&(decide (64≤(a0.fields.length:Int))) then
      some ((Vl.mk 0 0 0 (⟨#[]⟩:ByteArray) ([]) ([]),9))
     else
      (MY n a0).bind fun b =>
      if decide (0≤q) then
       (Bm n y).bind fun y27 =>
       (B1 b.fields q).bind fun x28 =>
       some ((Vl.mk b.kind b.int b.scale b.text b.list (b.fields.set q.toNat ((x28.1,y27))),0))
      else
       (FT n b.fields (fun (x0:ByteArray × Vl)=>some (DR x0 g))).bind fun h =>
       if decide (h<0) then
        KU n g y b (b.fields.length:Int) b.fields
       else
        KU n g y b h b.fields
  else none
theorem Zew (w0:World) (n:Nat) (B:Am) (Rw:Aq) (L:Ar) (a0:Vl) (a1:ByteArray) (a2:Vl) (r:Vl × Int) (h:Ia n a0 a1 a2=some r) :
  ACalls Tryz.prog w0 121 [.agg (a0.cs),.val (.string a1),.agg (a2.cs)] ⟨B,Rw,L⟩ fun x st=>x = .tup [.agg (r.1.cs),Ak r.2]∧st=⟨B,Rw,L⟩:=by
 rw [Ia] at h
 refine hd [.cell 6 34,.tmp 7] Tryz.func121 Tryz.ntmps121 fun M0 W0 hN a4 ao b hu j hs=>?_
 simp only [AG]
 refine rg [3,4,5,6] hs ?_
 obtain ⟨y3,ay,h⟩:=bind_some h
 refine rc 2 [3,4,5,6,8] hs ?_;intro K2 ab
 refine As _ (WQ w0 n _ _ _ a0 a1 _ ay) (hv hs) ?_
 refine ne hs ab ?_
 clear ab
 apply An;intro K4 ag
 apply Ao
 refine rg [3,4,5,6,8,14] hs ?_
 refine BN h hs ?_ ?_<;>intro hs h
 ·have U:=hs.1
  refine rg [6,7] hs ?_
  exact rt h hs b j
 have U:=hs.1
 obtain ⟨aq,h⟩:=Au h
 refine rc 2 [3,4,5,6,8,19] hs ?_;intro K8 ae
 refine As _ (Q1 w0 _ _ _ a1 aq) (hv hs) ?_
 refine ne hs ae ?_
 clear ae
 refine BN h hs ?_ ?_<;>intro hs h
 ·have u:=hs.1
  refine rg [6,7] hs ?_
  exact rt h hs b j
 have u:=hs.1
 refine rc 2 [3,4,5,6,8,24] hs ?_;intro K12 J
 refine As _ (L2 w0 _ _ _ a2) (hv hs) ?_
 refine ne hs J ?_
 clear J
 refine BN h hs ?_ ?_<;>intro hs h
 ·have w:=hs.1
  refine rg [6,7] hs ?_
  exact rt h hs b j
 have w:=hs.1
 refine rg [3,4,5,6,8,28] hs ?_
 refine BN h hs ?_ ?_<;>intro hs h
 ·have y:=hs.1
  refine rg [6,7] hs ?_
  exact rt h hs b j
 have y:=hs.1
 refine sk [3,4,5,6,8] hs ag ?_
 clear ag
 obtain ⟨i,Y,h⟩:=bind_some h
 refine rc 2 [4,5,6,8,9] hs ?_;intro K18 G
 refine BF _ (ZbP w0 n _ _ _ a0 _ Y) (hv hs) ?_;rintro _ _ ⟨N,Rv22,rfl,rfl,z⟩
 have j:=j.callV z
 refine ne hs G ?_
 clear G
 apply An;intro K23 E
 refine rg [4,5,6,8,9,41] hs ?_
 refine BN h hs ?_ ?_<;>intro hs h
 ·have t:=hs.1
  apply An;intro K26 K
  obtain ⟨Q,aa,h⟩:=bind_some h
  obtain ⟨af,V,h⟩:=bind_some h
  obtain ⟨av,ax,p⟩:=B9 V
  obtain ⟨a5,ar,hqx28,au,q⟩:=j.rowV (by rw [(CZ (f:=BV) (sz:=7) (fun _=>by simp +decide only [go_sem]) _)];exact Nat.mul_pos (by omega) (by decide))
  subst hqx28
  have o:=QE (f:=BV) (sz:=7) (fun _=>by simp +decide only [go_sem]) p
  have m:=Fo (f:=fun x=>(BV x).cells) 7 (fun _=>by simp +decide only [go_sem]) p
  have s:=CZ (f:=BV) (sz:=7) (fun _=>by simp +decide only [go_sem]) i.fields
  simp only [Hg,G6,He,Hz,Ha,GK,Fh,Fa,G2,Eg,Eh,Fp,Fq,E9,Ep] at o m q s
  have v:=Qz (f:=BV) (sz:=7) (fun _=>by simp +decide only [go_sem]) ((af.1,Q)) (k:=1) (c:=Q.cs) p (by simp +decide only [go_sem]) (by simp +decide only [go_sem,Dh,Vl.cs,Ty.cs];first | rfl | simp [Vl.cs_length,Ty.cs_length])
  obtain ⟨aj,j,l⟩:=j.storeV ((i.fields.set y3.toNat ((af.1,Q))).flatMap fun x=>(BV x).cells)
  simp only [Hg,G6,He,Hz,Ha,GK,Fh,Fa,G2,Eg,Eh,Fp,Fq,E9,Ep] at v l
  have hs:=Ad o hs
  have hs:=Ad m hs
  have hs:=Ad q hs
  have hs:=Ad s hs
  have hs:=Ad v hs
  have hs:=Ad l hs
  refine dk 7 2 1 [6,9] hs Oo ?_
  refine As _ (DO w0 n _ _ _ a2 _ aa) (hv hs) ?_
  refine dn hs K ?_
  clear K
  refine rg [6,7] hs ?_
  refine JQ (B.length+3) 5 (by first | rfl | (simp only [EZ,D3];rfl) | (simp +decide only [go_sem,Nat.reduceAdd,U,u,w,y,t,o,m,q,s,v,l])) (by first | rfl | (simp only [Q4,List.length_set];rfl)) j true (.inl rfl) (by decide) ((CZ (f:=BV) (sz:=7) (fun _=>by simp +decide only [go_sem]) _)) (Q7 (f:=BV) 7 (fun _=>rfl) (fun _=>by simp +decide only [go_sem]) _) (fun ak j=>?_)
  simp +decide only [go_sem,Nat.reduceAdd,List.set_cons_zero,List.set_cons_succ]
  exact rt h hs b j
 have t:=hs.1
 refine sk [4,5,6,9] hs E ?_
 clear E
 apply An;intro K35 C
 obtain ⟨ap,hy36,h⟩:=bind_some h
 refine T9 0 (by decide) ?_
 refine rk 2 [4,5,6,9,10] hs ?_
 refine ZaU [false,true] _ (Py w0 n _ _ _ N i.fields j.vp 200 [.box (B.length+1) 0] (fun (x0:ByteArray × Vl)=>some (DR x0 a1)) (fun x0 r hx B' a3 hB' a7=>by cases hx;exact ZQ w0 _ _ _ x0 _ a1 (ED hB' (ef hs))) _ hy36) (hv hs) ?_
 refine ne hs C ?_
 clear C
 refine AA (fun e st=>∃ (g:Int) (a:List (ByteArray × Vl)) (d:VO) (Xk38:Am) (Rk38:Aq),e=[(4,true,.box (B.length+1) 0),(5,true,.box (B.length+2) 0),(6,true,.box (B.length+3) 0),(9,true,.box (B.length+4) 0),(10,true,Ak g)]∧st=⟨B++([a0.cs,[.val (.string a1)],a2.cs,AX,[Ak i.kind,Ak i.int,Ak i.scale,.val (.string i.text),.list (i.list.map Bv) .none,Ly d a.length]]++Xk38),Rk38,L⟩∧Owns Rw Rk38 [] .none [(d,7,a.flatMap fun x=>(BV x).cells)]∧KU n a1 a2 i g a=some r) ?_ ?_
 ·intro K39 D
  refine rg [4,5,6,9,10,55] hs ?_
  refine BN h hs ?_ ?_<;>intro hs h
  ·have F:=j.lenV (by decide:0<7) (CZ (f:=BV) (sz:=7) (fun _=>by simp +decide only [go_sem]) i.fields) Tryz.prog 32
   simp +decide only [go_sem] at F
   have hs:=Ad F hs
   refine rl [4,5,6,9,10] hs D ?_
   exact ⟨(i.fields.length:Int),i.fields,N,([]),Rv22,ef hs,ef hs,Owns.eqV (j) V5,h⟩
  refine sk [4,5,6,9,10] hs D ?_
  exact ⟨ap,i.fields,N,([]),Rv22,ef hs,ef hs,Owns.eqV (j) V5,h⟩
 ·clear h;rintro e st ⟨g,a,d,Xk38,Rk38,rfl,rfl,j,h⟩
  rw [KU] at h
  have am:=j.underV
  simp only [List.mem_cons,List.not_mem_nil,or_false,forall_eq_or_imp,forall_eq] at am
  refine AY hN a4 ao rfl b j ow ow ?_ (vu @KN)
  apply An;intro K43 H
  obtain ⟨az,ad,h⟩:=bind_some h
  obtain ⟨Z,h⟩:=Au h
  obtain ⟨a6,aw,ah,j,O⟩:=Wm w0 j g Z ((a1,az))
  refine T9 0 (by decide) ?_
  refine dk 8 2 2 [6,9] hs Oo ?_
  refine As _ (DO w0 n _ _ _ a2 _ ad) (hv hs) ?_
  refine dx hs ?_
  refine YC [false,true,true] _ (O _ _ _) (hv hs) ?_;rintro _ _ ⟨rfl,rfl⟩
  refine ne hs H ?_
  clear H
  refine rg [6,7] hs ?_
  refine JQ (B.length+3) 5 (by first | rfl | (simp only [EZ,D3];rfl) | (simp +decide only [go_sem,Nat.reduceAdd,U,u,w,y,t])) (by first | rfl | (simp only [Q4,List.length_set];rfl)) j true (.inl rfl) (by decide) ((CZ (f:=BV) (sz:=7) (fun _=>by simp +decide only [go_sem]) _)) (Q7 (f:=BV) 7 (fun _=>rfl) (fun _=>by simp +decide only [go_sem]) _) (fun ai j=>?_)
  simp +decide only [go_sem,Nat.reduceAdd,List.set_cons_zero,List.set_cons_succ]
  exact rt h hs b j
def F2 (g:Int × ByteArray × Int × Ty × List Vl) (b:Int):Bool :=
 decide (g.1=b)
theorem UC (w0:World) (B:Am) (Rw:Aq) (L:Ar) (a0:Int × ByteArray × Int × Ty × List Vl) (la1:Nat) (a1:Int) (hla1:B[la1]? = some ([Ak a1])) (r:Bool) (h:F2 a0 a1=r) :
  ACalls Tryz.prog w0 196 [.agg (Ak a0.1::(.val (.string a0.2.1)::(Ak a0.2.2.1::((a0.2.2.2.1.cs)++([.list (a0.2.2.2.2.map Bv) .none]))))),.box la1 0] ⟨B,Rw,L⟩ fun x st=>x = .val (.bool r)∧st=⟨B,Rw,L⟩:=by
 rw [F2] at h
 refine hd [.tmp 3] Tryz.func196 Tryz.ntmps196 fun M0 W0 f d c a g e hs=>?_
 simp only [AG]
 have b:=(Aj.1 hla1).1
 have hs:=Ad (Aw hla1) hs
 refine rg [1,2] hs ?_
 refine rg [3] hs ?_
 exact rT h hs a e
theorem TX (w0:World) (B:Am) (Rw:Aq) (L:Ar) (a0:Int × ByteArray × Int × Ty × List Vl) (la1:Nat) (a1:Int) (hla1:B[la1]? = some ([Ak a1])) :
  ACalls Tryz.prog w0 196 [.agg (Ak a0.1::(.val (.string a0.2.1)::(Ak a0.2.2.1::((a0.2.2.2.1.cs)++([.list (a0.2.2.2.2.map Bv) .none]))))),.box la1 0] ⟨B,Rw,L⟩ fun x st=>x = .val (.bool (F2 a0 a1))∧st=⟨B,Rw,L⟩:=UC w0 B Rw L a0 la1 a1 hla1 _ rfl
def C9 (n:Nat) (g:List (Int × ByteArray × Int × Ty × List Vl)) (h:Int):Option ((Int × ByteArray × Int × Ty × List Vl) × Bool) :=
 (Bh n g (fun (q:Int × ByteArray × Int × Ty × List Vl)=>some (F2 q h))).bind fun b =>
 if decide (b<0) then
  some (((0,(⟨#[]⟩:ByteArray),0,Ty.mk 0 0 0 0 ([]) ([]) ([]),[]),false))
 else
  (B1 g b).bind fun y =>
  some ((y,true))
theorem EO (w0:World) (n:Nat) (B:Am) (Rw:Aq) (L:Ar) (a0:List (Int × ByteArray × Int × Ty × List Vl)) (a1:Int) (r:(Int × ByteArray × Int × Ty × List Vl) × Bool) (h:C9 n a0 a1=some r) :
  ACalls Tryz.prog w0 120 [.list (a0.map ET) .none,Ak a1] ⟨B,Rw,L⟩ fun x st=>x = .tup [.agg (Ak r.1.1::(.val (.string r.1.2.1)::(Ak r.1.2.2.1::((r.1.2.2.2.1.cs)++([.list (r.1.2.2.2.2.map Bv) .none]))))),.val (.bool r.2)]∧st=⟨B,Rw,L⟩:=by
 rw [C9] at h
 refine hd [.cell 4 95,.tmp 5] Tryz.func120 Tryz.ntmps120 fun M0 W0 i e d b m j hs=>?_
 simp only [AG]
 refine rg [0,3,4] hs ?_
 obtain ⟨k,hy3,h⟩:=bind_some h
 refine rc 2 [0,4,6] hs ?_;intro K2 f
 refine As _ (Ez w0 n _ _ _ a0 196 [.box B.length 0] (fun (x0:Int × ByteArray × Int × Ty × List Vl)=>some (F2 x0 a1)) (fun x0 r hx l c hB' g=>by cases hx;exact TX w0 _ _ _ x0 _ a1 (ED hB' ev)) _ hy3) (hv hs) ?_
 exact go (tg (a:=([0,4,6,11],([4,5],()),[0,4,6],[4,5],()))) h hs i e d b j trivial (q1 f)
def Jt (n:Nat)  (b:Int):Option (Int × Bool) :=
 some ((b,true))
def DW (n:Nat) (h:Int):Nat→Int→Int→Option (Int × Bool)
 | 0,_,_=>none
 | m+1,b,g =>
  if decide (h<g) then
   if !(decide ((b.tmod 10)=0)) then
    some ((0,false))
   else
    if BM (b.tdiv 10) then
     if BM (g-1) then
      (DW n h m) (b.tdiv 10) (g-1)
     else none
    else none
  else
   Jt n b
def E3 (n:Nat) (h:Int) (g:Int) (b:Int):Option (Int × Bool) :=
 DW n h n g b
def Do (n:Nat) (h:Int):Nat→Int→Int→Option (Int × Bool)
 | 0,_,_=>none
 | m+1,b,g =>
  if decide (g<h) then
   if BM (b*10) then
    if (decide (999999999999999<(b*10)))||(decide ((b*10)<((-999999999999999)))) then
     some ((0,false))
    else
     if BM (g+1) then
      (Do n h m) (b*10) (g+1)
     else none
   else none
  else
   E3 n h b g
def D5 (n:Nat) (h:Int) (b:Int) (g:Int):Option (Int × Bool) :=
 Do n g n h b
theorem JU (w0:World) (n:Nat) (B:Am) (Rw:Aq) (L:Ar) (a0:Int) (a1:Int) (a2:Int) (r:Int × Bool) (h:D5 n a0 a1 a2=some r) :
  ACalls Tryz.prog w0 141 [Ak a0,Ak a1,Ak a2] ⟨B,Rw,L⟩ fun x st=>x = .tup [Ak r.1,.val (.bool r.2)]∧st=⟨B,Rw,L⟩:=by
 rw [D5] at h
 refine hd [.tmp 6,.tmp 7] Tryz.func141 Tryz.ntmps141 fun M0 W0 t p o b v l hs=>?_
 simp only [AG]
 refine rg [0,1,2] hs ?_
 refine AA (fun e st=>∃ (g:Int) (c:Int),Ck e st B Rw L [(0,true,Ak g),(1,true,Ak c),(2,true,Ak a2)] [] [] (E3 n a2 g c=some r)) ?_ ?_
 ·intro K4 u
  apply Ao
  refine AL (fun m e st=>∃ (j:Int) (k:Int),Ck e st B Rw L [(0,true,Ak j),(1,true,Ak k),(2,true,Ak a2)] [] [] (Do n a2 m j k=some r)) n ⟨a0,a1,([]),Rw,ef hs,ef hs,l,h⟩ ?_
  rintro ml5 e st ⟨j,k,Xl5,Rl5,rfl,rfl,l,h⟩ Ul5 Vl5
  cases ml5 with
  | zero=>cases h
  | succ ml5 =>
  rw [Do] at h
  exact go (tg (a:=([0,1,2,10],([0,1,2],[0,1,2],[0,1,2,20],([6,7],()),[0,1,2],[0,1,2],()),[0,1,2],()))) h hs t p o b l trivial (q2 u (fun e s=>Vl5 ml5 e s (Nat.lt_succ_self _)))
 ·clear h;rintro e st ⟨g,c,Xk3,Rk3,rfl,rfl,l,h⟩
  rw [E3] at h
  refine td t p o b l ?_
  refine AA (fun e st=>∃ (i:Int),Ck e st B Rw L [(0,true,Ak i)] [] [] (Jt n i=some r)) ?_ ?_
  ·intro K18 q
   apply Ao
   refine AL (fun m e st=>∃ (d:Int) (f:Int),Ck e st B Rw L [(0,true,Ak d),(1,true,Ak f),(2,true,Ak a2)] [] [] (DW n a2 m d f=some r)) n ⟨g,c,([]),Rk3,ef hs,ef hs,l,h⟩ ?_
   rintro ml19 e st ⟨d,f,Xl19,Rl19,rfl,rfl,l,h⟩ Ul19 Vl19
   cases ml19 with
   | zero=>cases h
   | succ ml19 =>
   rw [DW] at h
   exact go (tg (a:=([0,1,2,23],([0,1,2],[0,1,2,28],([6,7],()),[0,1,2],[0,1,2],[0,1,2],()),[0],()))) h hs t p o b l trivial (q2 q (fun e s=>Vl19 ml19 e s (Nat.lt_succ_self _)))
  ·clear h;rintro e st ⟨i,Xk17,Rk17,rfl,rfl,l,h⟩
   rw [Jt] at h
   refine td t p o b l ?_
   refine rg [6,7] hs ?_
   exact rt h hs b l
def PW (n:Nat)  (b:Int):Option (Int × Bool) :=
 some ((b,true))
def Gh (n:Nat)  : Nat→Int→Int→Option (Int × Bool)
 | 0,_,_=>none
 | m+1,b,g =>
  if decide (g<0) then
   if !(decide ((b.tmod 10)=0)) then
    some ((0,false))
   else
    if BM (b.tdiv 10) then
     if BM (g+1) then
      (Gh n m) (b.tdiv 10) (g+1)
     else none
    else none
  else
   PW n b
def II (n:Nat)  (g:Int) (b:Int):Option (Int × Bool) :=
 Gh n n g b
def Ge (n:Nat)  : Nat→Int→Int→Option (Int × Bool)
 | 0,_,_=>none
 | m+1,b,g =>
  if decide (0<g) then
   if (decide (999999999999999<b))||(decide (b<((-999999999999999)))) then
    some ((b,true))
   else
    if BM (10*b) then
     if BM (g-1) then
      (Ge n m) (10*b) (g-1)
     else none
    else none
  else
   II n b g
def Gu (n:Nat) (g:Int) (b:Int):Option (Int × Bool) :=
 Ge n n g b
theorem Qd (w0:World) (n:Nat) (B:Am) (Rw:Aq) (L:Ar) (a0:Int) (a1:Int) (r:Int × Bool) (h:Gu n a0 a1=some r) :
  ACalls Tryz.prog w0 47 [Ak a0,Ak a1] ⟨B,Rw,L⟩ fun x st=>x = .tup [Ak r.1,.val (.bool r.2)]∧st=⟨B,Rw,L⟩:=by
 rw [Gu] at h
 refine hd [.tmp 4,.tmp 5] Tryz.func47 Tryz.ntmps47 fun M0 W0 t p o b v l hs=>?_
 simp only [AG]
 refine rg [0,1] hs ?_
 refine AA (fun e st=>∃ (g:Int) (c:Int),Ck e st B Rw L [(0,true,Ak g),(1,true,Ak c)] [] [] (II n g c=some r)) ?_ ?_
 ·intro K4 u
  apply Ao
  refine AL (fun m e st=>∃ (j:Int) (k:Int),Ck e st B Rw L [(0,true,Ak j),(1,true,Ak k)] [] [] (Ge n m j k=some r)) n ⟨a0,a1,([]),Rw,ef hs,ef hs,l,h⟩ ?_
  rintro ml5 e st ⟨j,k,Xl5,Rl5,rfl,rfl,l,h⟩ Ul5 Vl5
  cases ml5 with
  | zero=>cases h
  | succ ml5 =>
  rw [Ge] at h
  exact go (tg (a:=([0,1,7],([0,1],[0,1,15],([4,5],()),[0,1],[0,1],[0,1],()),[0,1],()))) h hs t p o b l trivial (q2 u (fun e s=>Vl5 ml5 e s (Nat.lt_succ_self _)))
 ·clear h;rintro e st ⟨g,c,Xk3,Rk3,rfl,rfl,l,h⟩
  rw [II] at h
  refine td t p o b l ?_
  refine AA (fun e st=>∃ (i:Int),Ck e st B Rw L [(0,true,Ak i)] [] [] (PW n i=some r)) ?_ ?_
  ·intro K18 q
   apply Ao
   refine AL (fun m e st=>∃ (d:Int) (f:Int),Ck e st B Rw L [(0,true,Ak d),(1,true,Ak f)] [] [] (Gh n m d f=some r)) n ⟨g,c,([]),Rk3,ef hs,ef hs,l,h⟩ ?_
   rintro ml19 e st ⟨d,f,Xl19,Rl19,rfl,rfl,l,h⟩ Ul19 Vl19
   cases ml19 with
   | zero=>cases h
   | succ ml19 =>
   rw [Gh] at h
   exact go (tg (a:=([0,1,20],([0,1],[0,1,25],([4,5],()),[0,1],[0,1],[0,1],()),[0],()))) h hs t p o b l trivial (q2 q (fun e s=>Vl19 ml19 e s (Nat.lt_succ_self _)))
  ·clear h;rintro e st ⟨i,Xk17,Rk17,rfl,rfl,l,h⟩
   rw [PW] at h
   refine td t p o b l ?_
   refine rg [4,5] hs ?_
   exact rt h hs b l
def M8 (n:Nat)  : Option ((Int × ByteArray × Int × Ty × List Vl) × Bool) :=
 some (((0,(⟨#[]⟩:ByteArray),0,Ty.mk 0 0 0 0 ([]) ([]) ([]),[]),false))
def FN (n:Nat) (h:Ty) (q:Int):Nat→Int→Option ((Int × ByteArray × Int × Ty × List Vl) × Bool)
 | 0,_=>none
 | m+1,b =>
  if decide (b<(h.fields.length:Int)) then
   (B1 h.fields b).bind fun g =>
   if decide (g.1=q) then
    some ((g,true))
   else
    if BM (b+1) then
     (FN n h q m) (b+1)
    else none
  else
   M8 n 
def Gt (n:Nat) (g:Ty) (b:Int):Option ((Int × ByteArray × Int × Ty × List Vl) × Bool) :=
 FN n g b n 0
theorem JY (w0:World) (n:Nat) (B:Am) (Rw:Aq) (L:Ar) (a0:Ty) (a1:Int) (r:(Int × ByteArray × Int × Ty × List Vl) × Bool) (h:Gt n a0 a1=some r) :
  ACalls Tryz.prog w0 51 [.agg (a0.cs),Ak a1] ⟨B,Rw,L⟩ fun x st=>x = .tup [.agg (Ak r.1.1::(.val (.string r.1.2.1)::(Ak r.1.2.2.1::((r.1.2.2.2.1.cs)++([.list (r.1.2.2.2.2.map Bv) .none]))))),.val (.bool r.2)]∧st=⟨B,Rw,L⟩:=by
 rw [Gt] at h
 refine hd [.cell 4 95,.tmp 5] Tryz.func51 Tryz.ntmps51 fun M0 W0 j f g b k d hs=>?_
 simp only [AG]
 refine rg [1,2,4] hs ?_
 refine AA (fun e st=>Ck e st B Rw L [(4,true,.box (B.length+1) 0)] [a0.cs,[Ak 0,.val (.string (⟨#[]⟩:ByteArray)),Ak 0,Ak 0,Ak 0,Ak 0,Ak 0,.list ([]) .full,.list ([]) .full,.list ([]) .full,.list ([]) .full]] [] (M8 n  = some r)) ?_ ?_
 ·intro K4 i
  refine rg [1,2,4,6] hs ?_
  apply Ao
  refine AL (fun m e st=>∃ (c:Int),Ck e st B Rw L [(1,true,Ak a1),(2,true,.box B.length 0),(4,true,.box (B.length+1) 0),(6,true,Ak c)] [a0.cs,[Ak 0,.val (.string (⟨#[]⟩:ByteArray)),Ak 0,Ak 0,Ak 0,Ak 0,Ak 0,.list ([]) .full,.list ([]) .full,.list ([]) .full,.list ([]) .full]] [] (FN n a0 a1 m c=some r)) n ⟨0,([]),Rw,ef hs,ef hs,d,h⟩ ?_
  rintro ml6 e st ⟨c,Xl6,Rl6,rfl,rfl,d,h⟩ Ul6 Vl6
  cases ml6 with
  | zero=>cases h
  | succ ml6 =>
  rw [FN] at h
  exact go (tg (a:=([1,2,4,6,11],([1,2,4,6],[1,2,4,6,21],([4,5],()),[1,2,4,6],[1,2,4,6],()),[4],()))) h hs j f g b d trivial (q2 i (fun e s=>Vl6 ml6 e s (Nat.lt_succ_self _)))
 ·clear h;rintro e st ⟨Xk3,Rk3,rfl,rfl,d,h⟩
  rw [M8] at h
  refine td j f g b d ?_
  refine rg [4,5] hs ?_
  exact rt h hs b d
def QO (n:Nat)  : Option (Vl × Bool) :=
 some ((Vl.mk 0 0 0 (⟨#[]⟩:ByteArray) ([]) ([]),false))
def Im (n:Nat) (h:Vl) (q:ByteArray):Nat→Int→Option (Vl × Bool)
 | 0,_=>none
 | m+1,b =>
  if decide (b<(h.fields.length:Int)) then
   (B1 h.fields b).bind fun g =>
   if Eb g.1 q then
    some ((g.2,true))
   else
    if BM (b+1) then
     (Im n h q m) (b+1)
    else none
  else
   QO n 
def O8 (n:Nat) (g:Vl) (b:ByteArray):Option (Vl × Bool) :=
 Im n g b n 0
theorem Zbi (w0:World) (n:Nat) (B:Am) (Rw:Aq) (L:Ar) (a0:Vl) (a1:ByteArray) (r:Vl × Bool) (h:O8 n a0 a1=some r) :
  ACalls Tryz.prog w0 57 [.agg (a0.cs),.val (.string a1)] ⟨B,Rw,L⟩ fun x st=>x = .tup [.agg (r.1.cs),.val (.bool r.2)]∧st=⟨B,Rw,L⟩:=by
 rw [O8] at h
 refine hd [.cell 4 34,.tmp 5] Tryz.func57 Tryz.ntmps57 fun M0 W0 j f g b k d hs=>?_
 simp only [AG]
 refine rg [1,2,4] hs ?_
 refine AA (fun e st=>Ck e st B Rw L [(4,true,.box (B.length+1) 0)] [a0.cs,AX] [] (QO n  = some r)) ?_ ?_
 ·intro K4 i
  refine rg [1,2,4,6] hs ?_
  apply Ao
  refine AL (fun m e st=>∃ (c:Int),Ck e st B Rw L [(1,true,.val (.string a1)),(2,true,.box B.length 0),(4,true,.box (B.length+1) 0),(6,true,Ak c)] [a0.cs,AX] [] (Im n a0 a1 m c=some r)) n ⟨0,([]),Rw,ef hs,ef hs,d,h⟩ ?_
  rintro ml6 e st ⟨c,Xl6,Rl6,rfl,rfl,d,h⟩ Ul6 Vl6
  cases ml6 with
  | zero=>cases h
  | succ ml6 =>
  rw [Im] at h
  exact go (tg (a:=([1,2,4,6,11],([1,2,4,6],[1,2,4,6,21],([4,5],()),[1,2,4,6],[1,2,4,6],()),[4],()))) h hs j f g b d trivial (q2 i (fun e s=>Vl6 ml6 e s (Nat.lt_succ_self _)))
 ·clear h;rintro e st ⟨Xk3,Rk3,rfl,rfl,d,h⟩
  rw [QO] at h
  refine td j f g b d ?_
  refine rg [4,5] hs ?_
  exact rt h hs b d
def Bo (g:Int) (b:Ty):Bool :=
 (decide (b.min≤g))&&(decide (g≤b.max))
theorem Z8 (w0:World) (B:Am) (Rw:Aq) (L:Ar) (a0:Int) (a1:Ty) (r:Bool) (h:Bo a0 a1=r) :
  ACalls Tryz.prog w0 48 [Ak a0,.agg (a1.cs)] ⟨B,Rw,L⟩ fun x st=>x = .val (.bool r)∧st=⟨B,Rw,L⟩:=by
 rw [Bo] at h
 refine hd [.tmp 4] Tryz.func48 Tryz.ntmps48 fun M0 W0 e c b a f d hs=>?_
 simp only [AG]
 refine rg [0,3] hs ?_
 refine rg [4] hs ?_
 exact rT h hs a d
theorem Gw (w0:World) (B:Am) (Rw:Aq) (L:Ar) (a0:Int) (a1:Ty) :
  ACalls Tryz.prog w0 48 [Ak a0,.agg (a1.cs)] ⟨B,Rw,L⟩ fun x st=>x = .val (.bool (Bo a0 a1))∧st=⟨B,Rw,L⟩:=Z8 w0 B Rw L a0 a1 _ rfl
def PL (n:Nat) (g:ByteArray) (b:Ty):Option Bool :=
 some ((decide ((b.words.length:Int)=0))&&(Bo (g.size:Int) b))
def Jw (n:Nat) (h:ByteArray) (g:Ty):Nat→Int→Option Bool
 | 0,_=>none
 | m+1,b =>
  if decide (b<(g.words.length:Int)) then
   (B1 g.words b).bind fun q =>
   if Eb q h then
    some (true)
   else
    if BM (b+1) then
     (Jw n h g m) (b+1)
    else none
  else
   PL n h g 
def MH (n:Nat) (g:ByteArray) (b:Ty):Option Bool :=
 Jw n g b n 0
theorem RV (w0:World) (n:Nat) (B:Am) (Rw:Aq) (L:Ar) (a0:ByteArray) (a1:Ty) (r:Bool) (h:MH n a0 a1=some r) :
  ACalls Tryz.prog w0 49 [.val (.string a0),.agg (a1.cs)] ⟨B,Rw,L⟩ fun x st=>x = .val (.bool r)∧st=⟨B,Rw,L⟩:=by
 rw [MH] at h
 refine hd [.tmp 4] Tryz.func49 Tryz.ntmps49 fun M0 W0 l g i b o f hs=>?_
 simp only [AG]
 refine rg [0,3] hs ?_
 refine AA (fun e st=>Ck e st B Rw L [(0,true,.val (.string a0)),(3,true,.box B.length 0)] [a1.cs] [] (PL n a0 a1  = some r)) ?_ ?_
 ·intro K4 k
  refine rg [0,3,5] hs ?_
  apply Ao
  refine AL (fun m e st=>∃ (c:Int),Ck e st B Rw L [(0,true,.val (.string a0)),(3,true,.box B.length 0),(5,true,Ak c)] [a1.cs] [] (Jw n a0 a1 m c=some r)) n ⟨0,([]),Rw,ef hs,ef hs,f,h⟩ ?_
  rintro ml6 e st ⟨c,Xl6,Rl6,rfl,rfl,f,h⟩ Ul6 Vl6
  cases ml6 with
  | zero=>cases h
  | succ ml6 =>
  rw [Jw] at h
  exact go (tg (a:=([0,3,5,10],([0,3,5],[0,3,5,19],([4],()),[0,3,5],[0,3,5],()),[0,3],()))) h hs l g i b f trivial (q2 k (fun e s=>Vl6 ml6 e s (Nat.lt_succ_self _)))
 ·clear h;rintro e st ⟨Xk3,Rk3,rfl,rfl,f,h⟩
  rw [PL] at h
  refine td l g i b f ?_
  have j:=Ad and_self @imp_self
  have hs:=Ad j hs
  refine rc 2 [4] hs ?_;intro K16 d
  refine EF _ (fun _=>Gw w0 _ _ _ (a0.size:Int) a1) (hv hs) ?_
  refine ne hs d ?_
  clear d
  exact rt h hs b f
def E2 (g:Int × ByteArray × Int × Ty × List Vl) (b:ByteArray):Bool :=
 Eb g.2.1 b
theorem RU (w0:World) (B:Am) (Rw:Aq) (L:Ar) (a0:Int × ByteArray × Int × Ty × List Vl) (la1:Nat) (a1:ByteArray) (hla1:B[la1]? = some ([.val (.string a1)])) (r:Bool) (h:E2 a0 a1=r) :
  ACalls Tryz.prog w0 209 [.agg (Ak a0.1::(.val (.string a0.2.1)::(Ak a0.2.2.1::((a0.2.2.2.1.cs)++([.list (a0.2.2.2.2.map Bv) .none]))))),.box la1 0] ⟨B,Rw,L⟩ fun x st=>x = .val (.bool r)∧st=⟨B,Rw,L⟩:=by
 rw [E2] at h
 refine hd [.tmp 3] Tryz.func209 Tryz.ntmps209 fun M0 W0 f d c a g e hs=>?_
 simp only [AG]
 have b:=(Aj.1 hla1).1
 have hs:=Ad (Aw hla1) hs
 refine rg [1,2] hs ?_
 refine rg [3] hs ?_
 exact rT h hs a e
theorem RD (w0:World) (B:Am) (Rw:Aq) (L:Ar) (a0:Int × ByteArray × Int × Ty × List Vl) (la1:Nat) (a1:ByteArray) (hla1:B[la1]? = some ([.val (.string a1)])) :
  ACalls Tryz.prog w0 209 [.agg (Ak a0.1::(.val (.string a0.2.1)::(Ak a0.2.2.1::((a0.2.2.2.1.cs)++([.list (a0.2.2.2.2.map Bv) .none]))))),.box la1 0] ⟨B,Rw,L⟩ fun x st=>x = .val (.bool (E2 a0 a1))∧st=⟨B,Rw,L⟩:=RU w0 B Rw L a0 la1 a1 hla1 _ rfl
def DK (n:Nat) (g:Ty) (h:ByteArray):Option ((Int × ByteArray × Int × Ty × List Vl) × Bool) :=
 (Bh n g.fields (fun (q:Int × ByteArray × Int × Ty × List Vl)=>some (E2 q h))).bind fun b =>
 if decide (b<0) then
  some (((0,(⟨#[]⟩:ByteArray),0,Ty.mk 0 0 0 0 ([]) ([]) ([]),[]),false))
 else
  (B1 g.fields b).bind fun y =>
  some ((y,true))
theorem GH (w0:World) (n:Nat) (B:Am) (Rw:Aq) (L:Ar) (a0:Ty) (a1:ByteArray) (r:(Int × ByteArray × Int × Ty × List Vl) × Bool) (h:DK n a0 a1=some r) :
  ACalls Tryz.prog w0 136 [.agg (a0.cs),.val (.string a1)] ⟨B,Rw,L⟩ fun x st=>x = .tup [.agg (Ak r.1.1::(.val (.string r.1.2.1)::(Ak r.1.2.2.1::((r.1.2.2.2.1.cs)++([.list (r.1.2.2.2.2.map Bv) .none]))))),.val (.bool r.2)]∧st=⟨B,Rw,L⟩:=by
 rw [DK] at h
 refine hd [.cell 4 95,.tmp 5] Tryz.func136 Tryz.ntmps136 fun M0 W0 i e d b m j hs=>?_
 simp only [AG]
 refine rg [2,3,4] hs ?_
 obtain ⟨k,hy3,h⟩:=bind_some h
 refine rc 2 [2,4,6] hs ?_;intro K2 f
 refine As _ (Ez w0 n _ _ _ a0.fields 209 [.box (B.length+1) 0] (fun (x0:Int × ByteArray × Int × Ty × List Vl)=>some (E2 x0 a1)) (fun x0 r hx l c hB' g=>by cases hx;exact RD w0 _ _ _ x0 _ a1 (ED hB' ev)) _ hy3) (hv hs) ?_
 exact go (tg (a:=([2,4,6,12],([4,5],()),[2,4,6],[4,5],()))) h hs i e d b j trivial (q1 f)
abbrev nilV:Vl:=Vl.mk 0 0 0 (⟨#[]⟩:ByteArray) [] []
def Gx (l:List TF) (k:Int):Option TF:=l.find? fun p=>decide (p.1=k)
def DG (v:Vl) (w:ByteArray):Option Vl:=(v.fields.find? fun q=>Eb q.1 w).map (·.2)
theorem XO {α β:Type} (p:α→Bool) (l:List α) (A:β) (B:α→Option β):(if decide (O0 p l 0<0)=true then some A else (B1 l (O0 p l 0)).bind B)=match l.find? p with | none=>some A | some x=>B x:=by
 rw [Zan,←WM]
 cases h:l.find? p with
 | none=>rw [Ah];simpa [List.find?_eq_none] using h
 | some x =>
  rw [Ai];rfl
  have:=List.find?_some h
  have:=List.mem_of_find?_eq_some h
  simp only [Bool.not_eq_true',Bool.not_eq_false]
  exact List.any_eq_true.2 ⟨x,this,by assumption⟩
theorem Zlh (n:Nat) (l:List TF) (f:TF→Option Bool) (p:TF→Bool) (hf:∀ x,f x=some (p x)) (hl:l.length≤1000000000) (hn:l.length<n):Bh n l f=some (O0 p l 0):=Zcv n l f p (fun x _=>hf x) hl l.length n 0 (by omega) hn
theorem NS (n:Nat) (l:List TF) (k:Int) (hl:l.length≤1000000000) (hn:l.length<n):C9 n l k=some ((Gx l k).getD Po,(Gx l k).isSome):=by
 rw [C9,Zlh n l (fun a=>some (F2 a k)) (fun p=>decide (p.1=k)) (fun x=>rfl) hl hn,Ae,XO (fun p:TF=>decide (p.1=k))]
 rw [Gx]
 cases l.find? (fun p:TF=>decide (p.1=k))<;>rfl
theorem Mc (n:Nat) (t:Ty) (w:ByteArray) (hl:t.fields.length≤1000000000) (hn:t.fields.length<n):DK n t w=some ((A7 t w).getD Po,(A7 t w).isSome):=by
 rw [DK,Zlh n t.fields (fun a=>some (E2 a w)) (fun p=>Eb p.2.1 w) (fun x=>rfl) hl hn,Ae,XO (fun p:TF=>Eb p.2.1 w)]
 rw [A7]
 cases t.fields.find? (fun p:TF=>Eb p.2.1 w)<;>rfl
theorem Zl4 (n:Nat) (l:List (ByteArray × Vl)) (f:ByteArray × Vl→Option Bool) (p:ByteArray × Vl→Bool) (hf:∀ x,f x=some (p x)) (hl:l.length≤1000000000) (hn:l.length<n):BW n l f=some (O0 p l 0):=UE n l f p (fun x _=>hf x) hl l.length n 0 (by omega) hn
theorem ZbB (n:Nat) (v:Vl) (w:ByteArray) (hk:v.kind=9) (hl:v.fields.length≤1000000000) (hn:v.fields.length<n) (hc:∀ q∈v.fields,Bm n q.2=some q.2):I0 n v w=some ((DG v w).getD nilV,(DG v w).isSome):=by
 rw [I0,JF,Zl4 n v.fields (fun a=>some (F7 a w)) (fun q=>Eb q.1 w) (fun x=>rfl) hl hn]
 simp only [Ae]
 rw [show ((!decide (v.kind=9))||decide (O0 (fun q:ByteArray × Vl=>Eb q.1 w) v.fields 0<0))=decide (O0 (fun q:ByteArray × Vl=>Eb q.1 w) v.fields 0<0) by simp [hk],XO (fun q:ByteArray × Vl=>Eb q.1 w),DG]
 cases h:v.fields.find? (fun q:ByteArray × Vl=>Eb q.1 w) with
 | none=>rfl
 | some q =>
  have b:=List.mem_of_find?_eq_some h
  simp only [hc q b,Ae]
  rfl
theorem Vk (n:Nat) (t:Ty) (k:Int) (hl:t.fields.length≤1000000000):∀ (c m i:Nat),i+c=t.fields.length→c<m→FN n t k m i=some ((Gx (t.fields.drop i) k).getD Po,(Gx (t.fields.drop i) k).isSome)
 | c,0,i,_,h=>absurd h (Nat.not_lt_zero _)
 | 0,m+1,i,hi,_=>by
  rw [FN,AC,Ac,List.drop_eq_nil_of_le (by omega)];rfl
 | c+1,m+1,i,hi,hm=>by
  have a:i<t.fields.length:=by omega
  rw [FN,AC,Ag a,Ah rfl,AM a,Ae,List.drop_eq_getElem_cons a,Gx,List.find?_cons]
  by_cases q:t.fields[i].1=k
  ·rw [Ag q,Ah rfl];rfl
  ·rw [Af q,Ai (by decide),Ah (AK (by omega))]
   exact Vk n t k hl c m (i+1) (by omega) (by omega)
theorem NE (n:Nat) (t:Ty) (k:Int) (hl:t.fields.length≤1000000000) (hn:t.fields.length<n):Gt n t k=some ((Gx t.fields k).getD Po,(Gx t.fields k).isSome):=Vk n t k hl t.fields.length n 0 (by omega) hn
theorem Zm (n:Nat) (v:Vl) (w:ByteArray) (hl:v.fields.length≤1000000000):∀ (c m i:Nat),i+c=v.fields.length→c<m→Im n v w m i=some ((((v.fields.drop i).find? fun q=>Eb q.1 w).map (·.2)).getD nilV,(((v.fields.drop i).find? fun q=>Eb q.1 w).map (·.2)).isSome)
 | c,0,i,_,h=>absurd h (Nat.not_lt_zero _)
 | 0,m+1,i,hi,_=>by
  rw [Im,AC,Ac,List.drop_eq_nil_of_le (by omega)];rfl
 | c+1,m+1,i,hi,hm=>by
  have a:i<v.fields.length:=by omega
  rw [Im,AC,Ag a,Ah rfl,AM a,Ae,List.drop_eq_getElem_cons a,List.find?_cons]
  cases q:Eb v.fields[i].1 w with
  | true=>rw [Ah rfl];rfl
  | false =>
   rw [Ai (by decide),Ah (AK (by omega))]
   exact Zm n v w hl c m (i+1) (by omega) (by omega)
theorem ZeF (n:Nat) (v:Vl) (w:ByteArray) (hl:v.fields.length≤1000000000) (hn:v.fields.length<n):O8 n v w=some ((DG v w).getD nilV,(DG v w).isSome):=Zm n v w hl v.fields.length n 0 (by omega) hn
def On (n:Int) (t:Ty):Bool:=decide (t.min≤n)&&decide (n≤t.max)
def Es (s:ByteArray) (t:Ty):Bool:=if t.words=[] then On s.size t else t.words.any fun x=>Eb x s
theorem ZdF (n:Nat) (s:ByteArray) (t:Ty) (hl:t.words.length≤1000000000):∀ (c m i:Nat),i+c=t.words.length→c<m→Jw n s t m i=some (((t.words.drop i).any fun x=>Eb x s)||(decide (t.words.length=0)&&On s.size t))
 | c,0,i,_,h=>absurd h (Nat.not_lt_zero _)
 | 0,m+1,i,hi,_=>by
  rw [Jw,AC,Ac,List.drop_eq_nil_of_le (by omega),Ai (by decide),PL,Bo,On,List.any_nil,Bool.false_or,show decide ((t.words.length:Int)=0)=decide (t.words.length=0) by rw [decide_eq_decide];omega]
 | c+1,m+1,i,hi,hm=>by
  have a:i<t.words.length:=by omega
  rw [Jw,AC,Ag a,Ah rfl,AM a,Ae,List.drop_eq_getElem_cons a,List.any_cons]
  cases q:Eb t.words[i] s with
  | true=>rw [Ah rfl];rfl
  | false =>
   rw [Ai (by decide),Ah (AK (by omega)),Bool.false_or]
   exact ZdF n s t hl c m (i+1) (by omega) (by omega)
theorem Zav (n:Nat) (s:ByteArray) (t:Ty) (hl:t.words.length≤1000000000) (hn:t.words.length<n):MH n s t=some (Es s t):=by
 refine (ZdF n s t hl t.words.length n 0 (by omega) hn).trans ?_
 rw [List.drop_zero,Es]
 cases h:t.words with
 | nil=>simp
 | cons a r=>simp
theorem ZgJ (a b:ByteArray):Eb a b=Eb b a:=by
 cases h:Eb b a with
 | true=>rw [(Db _ _).1 h];exact Cj _
 | false =>
  cases h2:Eb a b with
  | false=>rfl
  | true=>rw [(Db _ _).1 h2,Cj] at h;cases h
theorem Ld (n:Nat) (s:ByteArray) (t:Ty) (hl:t.words.length≤1000000000) (hn:t.words.length<n):BX n t.words s=some (t.words.any fun x=>Eb x s):=by
 rw [Tn n t.words s hl hn]
 congr 2
 funext x
 exact ZgJ _ _
def upN:Nat→Int→Option Int
 | 0,x=>some x
 | k+1,x=>if -999999999999999≤x*10∧x*10≤999999999999999 then upN k (x*10) else none
def dnN:Nat→Int→Option Int
 | 0,x=>some x
 | k+1,x=>if x.tmod 10=0 then dnN k (x.tdiv 10) else none
def Nz (x a b:Int):Option Int:=if a≤b then upN (b-a).toNat x else dnN (a-b).toNat x
theorem ZgA {x:Int} (h : -999999999999999≤x∧x≤999999999999999) : -999999999999999≤x.tdiv 10∧x.tdiv 10≤999999999999999:=by
 rcases Int.le_total 0 x with q | q
 ·rw [Int.tdiv_eq_ediv_of_nonneg q];omega
 ·obtain ⟨z,rfl⟩:∃ z,x = -z:=⟨-x,by omega⟩
  rw [Int.neg_tdiv,Int.tdiv_eq_ediv_of_nonneg (by omega)];omega
theorem V7 (n:Nat) (b:Int):∀ (k m:Nat) (x a:Int),-999999999999999≤x∧x≤999999999999999 → -200≤a→a≤100→a-b≤k→b≤a → -100≤b→k<m→DW n b m x a=some ((dnN (a-b).toNat x).getD 0,(dnN (a-b).toNat x).isSome)
 | k,0,x,a,_,_,_,_,_,_,h=>absurd h (Nat.not_lt_zero _)
 | 0,m+1,x,a,hx,h0,h1,hk,hb,hb2,_=>by
  rw [DW,Ac,Ai (by decide),show (a-b).toNat=0 by omega];rfl
 | k+1,m+1,x,a,hx,h0,h1,hk,hb,hb2,hm=>by
  rw [DW]
  by_cases q:b<a
  ·obtain ⟨j,hj⟩:∃ j,(a-b).toNat=j+1:=⟨(a-b).toNat-1,by omega⟩
   rw [Ag q,Ah rfl,hj,dnN]
   by_cases c:x.tmod 10=0
   ·have d:=ZgA hx
    rw [Ag c,Ai (by decide),Ah c,Ah (by unfold BM;omega),Ah (by unfold BM;omega),V7 n b k m (x.tdiv 10) (a-1) d (by omega) (by omega) (by omega) (by omega) hb2 (by omega),show (a-1-b).toNat=j by omega]
   ·rw [Af c,Ah (by rfl),Ai c];rfl
  ·rw [Af q,Ai (by decide),show (a-b).toNat=0 by omega];rfl
theorem ZfV (n:Nat) (b:Int):∀ (k m:Nat) (x a:Int),-999999999999999≤x∧x≤999999999999999→0≤a→a≤100→b-a≤k→a≤b→b≤100→k<m→200<n→Do n b m x a=some ((upN (b-a).toNat x).getD 0,(upN (b-a).toNat x).isSome)
 | k,0,x,a,_,_,_,_,_,_,h,_=>absurd h (Nat.not_lt_zero _)
 | 0,m+1,x,a,hx,h0,h1,hk,hb,hb2,_,hn=>by
  rw [Do,Ac,Ai (by decide),show (b-a).toNat=0 by omega,E3,V7 n b 0 n x a hx (by omega) h1 (by omega) (by omega) (by omega) (by omega),show (a-b).toNat=0 by omega];rfl
 | k+1,m+1,x,a,hx,h0,h1,hk,hb,hb2,hm,hn=>by
  rw [Do]
  by_cases q:a<b
  ·obtain ⟨j,hj⟩:∃ j,(b-a).toNat=j+1:=⟨(b-a).toNat-1,by omega⟩
   rw [Ag q,Ah rfl,hj,upN,Ah (by unfold BM;omega)]
   by_cases c : -999999999999999≤x*10∧x*10≤999999999999999
   ·rw [Ac,Ac,Ai (by decide),Ah c,Ah (by unfold BM;omega),ZfV n b k m (x*10) (a+1) c (by omega) (by omega) (by omega) (by omega) hb2 (by omega) hn,show (b-(a+1)).toNat=j by omega]
   ·rw [Ah (by rw [Bool.or_eq_true,decide_eq_true_eq,decide_eq_true_eq];omega),Ai c];rfl
  ·rw [Af q,Ai (by decide),show (b-a).toNat=0 by omega,E3,V7 n b 0 n x a hx (by omega) h1 (by omega) (by omega) (by omega) (by omega),show (a-b).toNat=0 by omega];rfl
theorem SO (n:Nat) (x a b:Int) (hx : -999999999999999≤x∧x≤999999999999999) (ha:0≤a∧a≤100) (hb:0≤b∧b≤100) (hn:200<n):D5 n x a b=some ((Nz x a b).getD 0,(Nz x a b).isSome):=by
 rw [D5,Nz]
 by_cases q:a≤b
 ·rw [Ah q,ZfV n b 100 n x a hx ha.1 ha.2 (by omega) q hb.2 (by omega) hn]
 ·rw [Ai q]
  obtain ⟨m,rfl⟩:∃ m,n=m+1:=⟨n-1,by omega⟩
  rw [Do,Ac,Ai (by decide),E3,V7 _ b 100 _ x a hx (by omega) ha.2 (by omega) (by omega) (by omega) (by omega)]
def ZjX (o:Option Int) (y:Int × Bool):Prop:=match o with | some m=>y=(m,true) | none=>y.2=false∨(y.2=true∧(999999999999999<y.1∨y.1 < -999999999999999))
theorem ZB (n:Nat):∀ (k m:Nat) (x d:Int),-999999999999999≤x∧x≤999999999999999 → -d≤k→d≤0 → -100≤d→k<m→Gh n m x d=some ((dnN (-d).toNat x).getD 0,(dnN (-d).toNat x).isSome)
 | k,0,x,d,_,_,_,_,h=>absurd h (Nat.not_lt_zero _)
 | 0,m+1,x,d,hx,h0,h1,h2,_=>by
  rw [Gh,Ac,Ai (by decide),show (-d).toNat=0 by omega];rfl
 | k+1,m+1,x,d,hx,h0,h1,h2,hm=>by
  rw [Gh]
  by_cases q:d<0
  ·obtain ⟨j,hj⟩:∃ j,(-d).toNat=j+1:=⟨(-d).toNat-1,by omega⟩
   rw [Ag q,Ah rfl,hj,dnN]
   by_cases c:x.tmod 10=0
   ·have a:=ZgA hx
    rw [Ag c,Ai (by decide),Ah c,Ah (by unfold BM;omega),Ah (by unfold BM;omega),ZB n k m (x.tdiv 10) (d+1) a (by omega) (by omega) (by omega) (by omega),show (-(d+1)).toNat=j by omega]
   ·rw [Af c,Ah (by rfl),Ai c];rfl
  ·rw [Af q,Ai (by decide),show (-d).toNat=0 by omega];rfl
theorem Zjh (n:Nat) (hn:200<n):∀ (k m:Nat) (x d:Int),-999999999999999≤x∧x≤999999999999999→d≤k→0≤d→d≤100→k<m→∃ y,Ge n m x d=some y∧ZjX (upN d.toNat x) y
 | k,0,x,d,_,_,_,_,h=>absurd h (Nat.not_lt_zero _)
 | 0,m+1,x,d,hx,h0,h1,h2,_=>by
  rw [Ge,Ac,Ai (by decide),show d.toNat=0 by omega,II,ZB n 0 n x d hx (by omega) (by omega) (by omega) (by omega),show (-d).toNat=0 by omega]
  exact ⟨_,rfl,rfl⟩
 | k+1,m+1,x,d,hx,h0,h1,h2,hm=>by
  rw [Ge]
  by_cases q:0<d
  ·obtain ⟨j,hj⟩:∃ j,d.toNat=j+1:=⟨d.toNat-1,by omega⟩
   rw [Ag q,Ah rfl,hj,upN,Ac,Ac,Ai (by decide),Ah (by unfold BM;omega),Ah (by unfold BM;omega),Int.mul_comm 10 x]
   by_cases c : -999999999999999≤x*10∧x*10≤999999999999999
   ·rw [Ah c]
    obtain ⟨y,b,a⟩:=Zjh n hn k m (x*10) (d-1) c (by omega) (by omega) (by omega) (by omega)
    rw [show (d-1).toNat=j by omega] at a
    exact ⟨y,b,a⟩
   ·rw [Ai c]
    obtain ⟨m,rfl⟩:∃ q,m=q+1:=⟨m-1,by omega⟩
    rw [Ge]
    by_cases q2:0<d-1
    ·rw [Ag q2,Ah rfl,Ah (by rw [Bool.or_eq_true,decide_eq_true_eq,decide_eq_true_eq];omega)]
     exact ⟨_,rfl,.inr ⟨rfl,by simp only;omega⟩⟩
    ·rw [Af q2,Ai (by decide),II]
     obtain ⟨n,rfl⟩:∃ q,n=q+1:=⟨n-1,by omega⟩
     rw [Gh,Ac,Ai (by decide)]
     exact ⟨_,rfl,.inr ⟨rfl,by simp only;omega⟩⟩
  ·rw [Af q,Ai (by decide),show d.toNat=0 by omega,II,ZB n 0 n x d hx (by omega) (by omega) (by omega) (by omega),show (-d).toNat=0 by omega]
   exact ⟨_,rfl,rfl⟩
theorem WN (n:Nat) (x a b:Int) (hx : -999999999999999≤x∧x≤999999999999999) (ha:0≤a∧a≤100) (hb:0≤b∧b≤100) (hn:200<n):∃ y,Gu n x (b-a)=some y∧ZjX (Nz x a b) y:=by
 rw [Gu,Nz]
 by_cases q:a≤b
 ·rw [Ah q]
  exact Zjh n hn 100 n x (b-a) hx (by omega) (by omega) (by omega) (by omega)
 ·rw [Ai q]
  obtain ⟨m,rfl⟩:∃ m,n=m+1:=⟨n-1,by omega⟩
  rw [Ge,Ac,Ai (by decide),II,ZB _ 100 _ x (b-a) hx (by omega) (by omega) (by omega) (by omega),show (-(b-a)).toNat=(a-b).toNat by omega]
  refine ⟨_,rfl,?_⟩
  cases h:dnN (a-b).toNat x with
  | none=>exact .inl rfl
  | some m=>rfl
def D4 (n:Nat) (h:List (ByteArray × Vl)) (b:(ByteArray × Vl)→Option Bool):Option Bool :=
 (BW n h b).bind fun g =>
 some (decide (0≤g))
theorem Oh (w0:World) (n:Nat) (B:Am) (Rw:Aq) (L:Ar) (a0:List (ByteArray × Vl)) (fa1:FuncId) (ca1:List AV) (a1:(ByteArray × Vl)→Option Bool) (ha1:∀ (x0:ByteArray × Vl) r,a1 x0=some r→∀ B' rows,B <+: B'→Rw <+: rows→ACalls Tryz.prog w0 fa1 ([.agg (.val (.string x0.1)::(x0.2.cs))]++ca1) ⟨B',rows,L⟩ fun v s=>v = .val (.bool r)∧s=⟨B',rows,L⟩) (r:Bool) (h:D4 n a0 a1=some r) :
  ACalls Tryz.prog w0 274 [.list (a0.map BV) .none,.clo fa1 ca1] ⟨B,Rw,L⟩ fun x st=>x = .val (.bool r)∧st=⟨B,Rw,L⟩:=by
 rw [D4] at h
 refine hd [.tmp 4] Tryz.func274 Tryz.ntmps274 fun M0 W0 o l k b i g hs=>?_
 simp only [AG]
 have d:=CV (i (.clo fa1 ca1) (by simp))
 refine rg [0,1] hs ?_
 obtain ⟨m,f,h⟩:=bind_some h
 refine rc 2 [4] hs ?_;intro K2 c
 refine As _ (Ks w0 n _ _ _ a0 fa1 ca1 a1 (fun x0 r j e a q1 q2=>ha1 x0 r j e a (List.IsPrefix.trans px q1) (g.pre.trans q2)) _ f) (hv hs) ?_
 refine ne hs c ?_
 clear c
 exact rt h hs b g
def EK (b:ByteArray × Vl) (g:ByteArray × Vl):Bool :=
 (Eb b.1 g.1)&&(!(A3 b.2))
theorem Yh (w0:World) (B:Am) (Rw:Aq) (L:Ar) (a0:ByteArray × Vl) (la1:Nat) (a1:ByteArray × Vl) (hla1:B[la1]? = some (.val (.string a1.1)::(a1.2.cs))) (r:Bool) (h:EK a0 a1=r) :
  ACalls Tryz.prog w0 275 [.agg (.val (.string a0.1)::(a0.2.cs)),.box la1 0] ⟨B,Rw,L⟩ fun x st=>x = .val (.bool r)∧st=⟨B,Rw,L⟩:=by
 rw [EK] at h
 refine hd [.tmp 3] Tryz.func275 Tryz.ntmps275 fun M0 W0 g e d a i f hs=>?_
 simp only [AG]
 have c:=(Aj.1 hla1).1
 have hs:=Ad (Aw hla1) hs
 refine rg [1,2] hs ?_
 refine rc 2 [3] hs ?_;intro K2 b
 refine EF _ (fun _=>L2 w0 _ _ _ a0.2) (hv hs) ?_
 refine ne hs b ?_
 clear b
 exact rT h hs a f
theorem Xy (w0:World) (B:Am) (Rw:Aq) (L:Ar) (a0:ByteArray × Vl) (la1:Nat) (a1:ByteArray × Vl) (hla1:B[la1]? = some (.val (.string a1.1)::(a1.2.cs))) :
  ACalls Tryz.prog w0 275 [.agg (.val (.string a0.1)::(a0.2.cs)),.box la1 0] ⟨B,Rw,L⟩ fun x st=>x = .val (.bool (EK a0 a1))∧st=⟨B,Rw,L⟩:=Yh w0 B Rw L a0 la1 a1 hla1 _ rfl
structure VPre (Rw rows:Aq):Prop where
 pre:Rw <+: rows
def P7:ByteArray × Vl:=(⟨#[]⟩,Vl.mk 0 0 0 ⟨#[]⟩ [] [])
def BS (l:List (ByteArray × Vl)):List (ByteArray × Vl):=Ov Prod.fst P7 l
theorem Hu (l:List (ByteArray × Vl)):(BS l).length=l.length:=by simp only [BS,Ov,List.length_map];exact IZ _ _
theorem Me (x:ByteArray × Vl):(BV x).cells.length=7∧CM (BV x)=true:=by simp +decide only [go_sem,and_self]
theorem Zcu (x:ByteArray × Vl):(BV x).pub=BV x:=by simp +decide only [go_sem]
theorem Zao (x:ByteArray × Vl):∀ c∈(BV x).cells,∀ a b d,Under a b d c:=by
 intro c hc a b d
 simp only [BV,AV.cells,List.mem_cons] at hc
 rcases hc with rfl | hc
 ·exact .val _
 ·exact x.2.under a b d c hc
theorem ZeO (w0:World) (st:St):ACalls Tryz.prog w0 276 [.list [] .none,.clo 277 []] st fun r s=>r = .tup []∧s=st:=by
 refine ⟨Bl Tryz.func276 rfl (by decide),fun M w d e c=>?_⟩
 obtain ⟨v0,v1,rfl⟩:∃ v0 v1,d = #[v0,v1]:=by
  have hs:=c.1
  simp only [List.length_cons,List.length_nil] at hs
  match d,hs with
  | ⟨[a,b]⟩,_=>exact ⟨a,b,rfl⟩
 have h0:R w0 M w v0 (.list [] .none):=c.2 0 (by simp) (by simp)
 obtain ⟨p,cap,rfl⟩:∃ p cap,v0 = .slice p 0 cap:=by
  generalize hx:AV.list [] Ev.Own.none=x at h0
  cases h0 with
  | nil ho=>exact ⟨_,_,rfl⟩
  | emp ho=>exact ⟨_,_,rfl⟩
  | list sz us hc hm hcell hu ho=>cases hx;exact ⟨_,_,rfl⟩
  | _=>cases hx
 have h:=AnyF.slices_SortFunc_none (P:=Tryz.prog) (ρ:=Tryz.laysSort_ren) Tryz.laysSort p cap v1 w
 refine h.mono ?_
 rintro en g ⟨rfl,rfl⟩
 exact ⟨.tuple #[],M,.tup [],st,rfl,⟨rfl,rfl⟩,.refl _ _ _,e,.tup rfl (fun i f _=>absurd f (by simp))⟩
theorem Zem (w0:World) {st:St} {id ver:Nat} (l:List (ByteArray × Vl)) (hid:st.rows[id]? = some (.vec ver 7 (l.flatMap fun x=>(BV x).cells))) (hn:0<l.length) (hz:l.length<4611686018427387904) :
  ACalls Tryz.prog w0 276 [.vec id ver 0 l.length,.clo 277 []] st fun r s=>r = .tup []∧s={ st with rows:=st.rows.set id (.vec ver 7 ((BS l).flatMap fun x=>(BV x).cells)) } :=
 Zen (ρ:=Tryz.laysSort_ren) Tryz.laysSort (Bl Tryz.func276 rfl (by decide)) 6 Tryz.isAgg81 Tryz.sizeOf81 277 (Bl Tryz.func277 rfl (by decide))
  (fun s f r d W c a b e=>ZcH s f r d W c a b e) BV Prod.fst P7 l (fun x=>⟨x.2.cs,rfl,Vl.cs_length _⟩) hid hn hz
def Kp (n:Nat) (g:Int→(List (ByteArray × Vl))→Option Vl) (b:Int) (b1_k12_5:List (ByteArray × Vl)):Option Vl :=
 if BM (b+1) then
  g (b+1) b1_k12_5
 else none
def JK (n:Nat)  (b1_k4_5:List (ByteArray × Vl)):Option Vl :=
 if b1_k4_5.length<4611686018427387904 then
  (Bm n (Vl.mk 9 0 0 (⟨#[]⟩:ByteArray) ([]) (BS b1_k4_5))).bind fun b =>
  some (b)
 else none
def EQ (n:Nat) (g:List (ByteArray × Vl)):Nat→Int→(List (ByteArray × Vl))→Option Vl
 | 0,_,_=>none
 | m+1,b,b1_l7_5 =>
  if decide (b<(g.length:Int)) then
   (B1 g b).bind fun h =>
   if BM (b+1) then
    if 0≤b+1∧b+1≤(g.length:Int)∧(g.length:Int)≤(g.length:Int) then
     (D4 n (g.drop (b+1).toNat) (fun (y:ByteArray × Vl)=>some (EK y h))).bind fun q =>
     if (!(A3 h.2))&&(!q) then
      if (b1_l7_5.length+1)*104≤140737488355328∧b1_l7_5.length+1≤4611686018427387904 then
       Kp n (EQ n g m) b (b1_l7_5++([h]))
      else none
     else
      Kp n (EQ n g m) b b1_l7_5
    else none
   else none
  else
   JK n b1_l7_5
def Gm (n:Nat) (b:List (ByteArray × Vl)):Option Vl :=
 EQ n b n 0 ([])
theorem Vv (w0:World) (n:Nat) (B:Am) (Rw:Aq) (L:Ar) (a0:List (ByteArray × Vl)) (r:Vl) (h:Gm n a0=some r) :
  ACalls Tryz.prog w0 212 [.list (a0.map BV) .none] ⟨B,Rw,L⟩ fun x st=>x = .agg (r.cs)∧st=⟨B,Rw,L⟩:=by
 rw [Gm] at h
 refine hd [.cell 2 34] Tryz.func212 Tryz.ntmps212 fun M0 W0 J u t l hu o hs=>?_
 simp only [AG]
 refine rg [0,2] hs ?_
 apply An;intro K2 Q
 apply Ax 1 [0,2,3]
 rw [Ap];simp +decide only [go_sem,Nat.reduceAdd,TS,Qq,LQ]
 (repeat' apply Ad)<;>first | refine Q _ _ ?_ | exact cl
 clear Q
 refine AA (fun e st=>∃ (b:List (ByteArray × Vl)) (k:AV) (Xk4:Am) (Rk4:Aq),e=[(2,true,.box B.length 0),(3,true,.box (B.length+1) 0)]∧st=⟨B++([AX,[Ak 9,Ak 0,Ak 0,.val (.string (⟨#[]⟩:ByteArray)),.list ([]) .full,k]]++Xk4),Rk4,L⟩∧VOne Rw Rk4 7 (b.map BV) k∧JK n b=some r) ?_ ?_
 ·intro K5 ae
  refine JV (B.length+1) 5 (by first | rfl | (simp only [EZ,D3];rfl)) rfl ?_;simp +decide only [go_sem,Nat.reduceAdd,List.set_cons_succ,List.set_cons_zero]
  refine rg [0,2,3,8,9,10] hs ?_
  apply Ao
  refine AL (fun m e st=>∃ (i:Int) (d:List (ByteArray × Vl)) (c:AV) (Xl7:Am) (Rl7:Aq),e=[(0,true,.list (a0.map BV) .none),(2,true,.box B.length 0),(3,true,.box (B.length+1) 0),(8,true,.list (a0.map BV) .none),(9,true,Ak (a0.length:Int)),(10,true,Ak i)]∧st=⟨B++([AX,[Ak 9,Ak 0,Ak 0,.val (.string (⟨#[]⟩:ByteArray)),.list ([]) .full,c]]++Xl7),Rl7,L⟩∧VOne Rw Rl7 7 (d.map BV) c∧EQ n a0 m i d=some r) n ⟨0,[],.list [] .seed,[],Rw,ef hs,ef hs,VOne.none Rw 7,h⟩ ?_
  rintro ml7 e st ⟨i,d,c,Xl7,Rl7,rfl,rfl,o,h⟩ Ul7 Vl7
  cases ml7 with
  | zero=>cases h
  | succ ml7 =>
  rw [EQ] at h
  have hU:=o.under (B.length+2) L.length
  refine tdV J u t l o ?_
  refine rg [0,2,3,8,9,10,11] hs ?_
  apply An;intro K9 O
  refine BN h hs ?_ ?_<;>intro hs h
  rotate_left
  ·refine sx [2,3] hs ae ?_
   exact ⟨d,c,([]),Rl7,ef hs,ef hs,VOne.of_eq o (by simp only [List.map_append,List.map_cons,List.map_nil]),h⟩
  refine sk [0,2,3,8,9,10] hs O ?_
  clear O
  refine AA (fun e st=>∃ (j:List (ByteArray × Vl)) (g:AV) (Xk12:Am) (Rk12:Aq),e=[(0,true,.list (a0.map BV) .none),(2,true,.box B.length 0),(3,true,.box (B.length+1) 0),(8,true,.list (a0.map BV) .none),(9,true,Ak (a0.length:Int)),(10,true,Ak i)]∧st=⟨B++([AX,[Ak 9,Ak 0,Ak 0,.val (.string (⟨#[]⟩:ByteArray)),.list ([]) .full,g]]++Xk12),Rk12,L⟩∧VOne Rw Rk12 7 (j.map BV) g∧Kp n (EQ n a0 ml7) i j=some r) ?_ ?_
  ·intro K13 C
   apply Ao
   obtain ⟨x15,K,h⟩:=bind_some h
   obtain ⟨Z,Y,G⟩:=B9 K
   have H:=C5 (f:=BV) G
   have hs:=Ad H hs
   refine rg [0,2,3,4,5,8,9,10] hs ?_
   obtain ⟨aj,h⟩:=Au h
   obtain ⟨ai,h⟩:=Au h
   obtain ⟨am,hy19,h⟩:=bind_some h
   refine rc 2 [0,2,3,5,6,8,9,10] hs ?_;intro K16 D
   refine As _ (Oh w0 n _ _ _ (a0.drop (i+1).toNat) 275 [.box (B.length+2) 0] (fun (x0:ByteArray × Vl)=>some (EK x0 x15)) (fun x0 r hx B' af hB' ak=>by cases hx;exact Xy w0 _ _ _ x0 _ x15 (ED hB' (ef hs))) _ hy19) (hv hs) ?_
   refine ne hs D ?_
   clear D
   refine rc 2 [0,2,3,5,8,9,10,28] hs ?_;intro K20 E
   refine As _ (L2 w0 _ _ _ x15.2) (hv hs) ?_
   refine ne hs E ?_
   clear E
   refine BN h hs ?_ ?_<;>intro hs h
   ·obtain ⟨F,h⟩:=Au h
    obtain ⟨aa,v,o,p⟩:=o.append (P:=Tryz.prog) (y:=BV x15) Nb (by rw [IB];rfl) (by decide) (by rw [List.length_map];exact F.1) (by rw [List.length_map];exact F.2) (Me x15) (Zcu x15) (Zao x15) (fun z hz=>by obtain ⟨y,_,rfl⟩:=List.mem_map.1 hz;exact (Me y).1)
    simp only [GK] at p
    replace p:=Ad p o.cell
    have hs:=Ad p hs
    refine rl [0,2,3,8,9,10] hs C ?_
    exact ⟨(d++([x15])),aa,([.val (.string x15.1)::(x15.2.cs)]),v,ef hs,ef hs,VOne.of_eq o (by simp only [List.map_append,List.map_cons,List.map_nil]),h⟩
   refine sk [0,2,3,8,9,10] hs C ?_
   exact ⟨d,c,([.val (.string x15.1)::(x15.2.cs)]),Rl7,ef hs,ef hs,VOne.of_eq o (by simp only [List.map_append,List.map_cons,List.map_nil]),h⟩
  ·clear h;rintro e st ⟨j,g,Xk12,Rk12,rfl,rfl,o,h⟩
   rw [Kp] at h
   have hU:=o.under (B.length+2) L.length
   refine tdV J u t l o ?_
   obtain ⟨ah,h⟩:=Au h
   refine rl [0,2,3,8,9,10] hs (fun e s=>Vl7 ml7 e s (Nat.lt_succ_self _)) ?_
   exact ⟨(i+1),j,g,([]),Rk12,ef hs,ef hs,VOne.of_eq o (by simp only [List.map_append,List.map_cons,List.map_nil]),h⟩
 ·clear h;rintro e st ⟨b,k,Xk4,Rk4,rfl,rfl,o,h⟩
  rw [JK] at h
  have hU:=o.under (B.length+2) L.length
  refine tdV J u t l o ?_
  obtain ⟨ag,h⟩:=Au h
  rcases o.at_ with ⟨hnil,rfl⟩ | ⟨id,ver,rfl,hpos,hid,hrow⟩
  ·have hb0:b=[]:=List.map_eq_nil_iff.1 hnil
   subst hb0
   refine rc 2 [2,3] hs ?_;intro K27 q
   refine As _ (ZeO w0 _) (hv hs) ?_
   refine ne hs q ?_
   clear q
   obtain ⟨ad,w,h⟩:=bind_some h
   rw [show BS []=[] from List.eq_nil_of_length_eq_zero (Hu [])] at w
   exact go (tg (a:=([2],()))) h hs J u t l o (q1 (DO w0 n)) trivial
  ·rw [List.length_map] at hpos
   rw [List.length_map]
   rw [show ((b.map BV).flatMap AV.cells)=b.flatMap fun x=>(BV x).cells from List.flatMap_map ..] at hrow
   refine rc 2 [2,3] hs ?_;intro K27 q
   refine BF _ (Zem w0 (st:=⟨_,_,_⟩) b hrow hpos ag) (hv hs) ?_;rintro _ _ ⟨rfl,rfl⟩
   refine ne hs q ?_
   clear q
   have ab:=(Aj.1 hrow).1
   have U:IH (Rk4.set id (.vec ver 7 ((BS b).flatMap fun x=>(BV x).cells))) id ver=some (7,(BS b).flatMap fun x=>(BV x).cells):=by simp [IH,ab]
   have N:(BS b).length=b.length:=Hu _
   refine QN (B.length+1) 5 true (by first | rfl | (simp only [EZ,D3];rfl)) rfl U (.inl rfl) (by rw [Nat.zero_add,Uf (fun x _=>(Me x).1),N];exact Nat.le_refl _) ?_
   have V:Ru 7 true ((BS b).flatMap fun x=>(BV x).cells) 0 b.length=(BS b).map BV:=by
    have:=Zeh (ys:=(BS b).map BV) (sz:=7) (fun y hy=>by obtain ⟨x,_,rfl⟩:=List.mem_map.1 hy;exact ⟨_,rfl,(Me x).1⟩)
    rw [List.length_map,N,List.flatMap_map] at this
    exact this
   rw [V]
   simp +decide only [go_sem,Nat.reduceAdd,List.set_cons_succ,List.set_cons_zero]
   obtain ⟨ad,w,h⟩:=bind_some h
   have o:VPre Rw ((Rk4.set id (.vec ver 7 ((BS b).flatMap fun x=>(BV x).cells))).set id (.dead (ver+1))):=⟨PU (PU o.pre hid _) hid _⟩
   exact go (tg (a:=([2],()))) h hs J u t l o (q1 (DO w0 n)) trivial
theorem Uc:∀ a b:List UInt8,Op.bytesLess a b=decide (YV a b<0)
 | [],[]=>rfl
 | _::_,[]=>rfl
 | [],_::_=>rfl
 | x::a,y::b=>by
  have ih:=Uc a b
  simp only [Op.bytesLess,YV,Lib.compareBytes] at *
  by_cases h1:x<y
  ·simp [h1]
  ·by_cases h2:y<x
   ·have:¬ x=y:=fun e=>by rw [e] at h2;exact UInt8.lt_irrefl _ h2
    simp [h1,h2,this]
   ·have:x=y:=by
     rw [UInt8.lt_iff_toNat_lt] at h1 h2
     exact UInt8.toNat.inj (by omega)
    subst this
    simp [h1,ih]
theorem Rn (x y:ByteArray):X7 x y=decide (E6 x y<0):=Uc _ _
theorem OB (x y:ByteArray):E6 y x = - E6 x y:=TO _ _
theorem JB (x:ByteArray):E6 x x=0:=Wa _
theorem Rr {x y z:ByteArray} (h1:E6 x y<0) (h2:E6 y z<0):E6 x z<0:=(Tt _ _ _ (Int.le_of_lt h1) (Int.le_of_lt h2)).2 (.inl h1)
def SS (l:List (ByteArray × Vl)):Prop:=l.Pairwise fun p q=>E6 p.1 q.1<0
theorem Y8:∀ (l m:List (ByteArray × Vl)),l.Perm m→SS l→SS m→l=m
 | [],m,h,_,_=>(List.nil_perm.1 h).symm▸rfl
 | p::l,[],h,_,_=>absurd h.length_eq (by simp)
 | p::l,q::m,h,h1,h2=>by
  obtain ⟨a1,a2⟩:=List.pairwise_cons.1 h1
  obtain ⟨b,a⟩:=List.pairwise_cons.1 h2
  have e:p=q:=by
   have hp:p∈q::m:=h.mem_iff.1 (List.mem_cons_self ..)
   have hq:q∈p::l:=h.mem_iff.2 (List.mem_cons_self ..)
   rcases List.mem_cons.1 hp with e | hp
   ·exact e
   rcases List.mem_cons.1 hq with e | hq
   ·exact e.symm
   have c:=b p hp
   have d:=a1 q hq
   have:=OB p.1 q.1
   omega
  subst e
  rw [Y8 l m ((List.perm_cons _).1 h) a2 a]
theorem X3 {α:Type} (d:α):∀ xs:List α,(List.range xs.length).map (fun i=>xs.getD i d)=xs:=fun xs=>by
 apply List.ext_getElem
 ·simp
 ·intro i b a
  simp [List.getD,List.getElem?_eq_getElem a]
theorem Gj (l:List (ByteArray × Vl)):(BS l).Perm l:=by
 have h:=((PN (fun i=>(l.getD i P7).1) l.length).1).map fun i=>l.getD i P7
 rw [X3] at h
 exact h
theorem Ub (l:List (ByteArray × Vl)) (hd:(l.map Prod.fst).Nodup):SS (BS l):=by
 have n:=Gj l
 have r:=Hu l
 have h:((BS l).map Prod.fst).Nodup:=(n.map Prod.fst).nodup_iff.2 hd
 unfold SS
 rw [List.pairwise_iff_getElem]
 intro i j d b a
 have f:=(PN (fun i=>(l.getD i P7).1) l.length).2 i j a (by omega)
 have m:(J6 (fun i=>(l.getD i P7).1) l.length).length=l.length:=IZ _ _
 have g:∀ k (e:k<(BS l).length),(BS l)[k].1=(l.getD ((J6 (fun i=>(l.getD i P7).1) l.length)[k]!) P7).1:=fun k e=>by
  have c:k<(J6 (fun i=>(l.getD i P7).1) l.length).length:=by omega
  rw [getElem!_pos _ k c]
  show ((Ov Prod.fst P7 l)[k]'e).1=_
  simp only [Ov,List.getElem_map]
 rw [g i d,g j b]
 have ne:(BS l)[i].1≠(BS l)[j].1:=by
  have:=List.pairwise_iff_getElem.1 h i j (by simpa using d) (by simpa using b) a
  simpa using this
 rw [g i d,g j b] at ne
 have o:=OB (l.getD ((J6 (fun i=>(l.getD i P7).1) l.length)[i]!) P7).1 (l.getD ((J6 (fun i=>(l.getD i P7).1) l.length)[j]!) P7).1
 have p:E6 (l.getD ((J6 (fun i=>(l.getD i P7).1) l.length)[i]!) P7).1 (l.getD ((J6 (fun i=>(l.getD i P7).1) l.length)[j]!) P7).1≠0:=fun q=>ne ((KW _ _).1 q)
 change ¬ E6 _ _<0 at f
 omega
theorem Zaz:∀ (l:List (ByteArray × Vl)),SS l→(∀ p∈l,Ft p.1=true)→∀ o:Option ByteArray,(∀ w,o=some w→∀ p∈l,E6 w p.1<0)→Oy o (l.map Prod.fst)=0
 | [],_,_,o,_=>by cases o<;>rfl
 | p::l,h,hn,o,ho=>by
  obtain ⟨a1,a2⟩:=List.pairwise_cons.1 h
  have ih:=Zaz l a2 (fun q hq=>hn q (List.mem_cons_of_mem _ hq)) (some p.1) (fun w hw q hq=>by cases hw;exact a1 q hq)
  have a:=hn p (List.mem_cons_self ..)
  cases o with
  | none=>rw [List.map_cons,Oy,Ah a];exact ih
  | some w =>
   have hw:=ho w rfl p (List.mem_cons_self ..)
   have b:=OB w p.1
   rw [List.map_cons,Oy,Ah a,Ai,Ai]
   ·exact ih
   ·rw [Rn,decide_eq_true_eq];omega
   ·intro q
    rw [(Db _ _).1 q,JB] at hw
    exact absurd hw (by decide)
theorem ZV (n:Nat) (l:List (ByteArray × Vl)) (hl:l.length≤1000000) (hn:l.length<n) (hnul:∀ p∈l,A3 p.2=false) (hd:(l.map Prod.fst).Nodup):∀ (k m i:Nat),i+k=l.length→k<m→EQ n l m i (l.take i)=JK n l
 | k,0,i,_,h=>absurd h (Nat.not_lt_zero _)
 | 0,m+1,i,hi,_=>by
  rw [EQ,AC,Ac,List.take_of_length_le (by omega)]
  rfl
 | k+1,m+1,i,hi,hm=>by
  have a:i<l.length:=by omega
  have r:¬ (((l.length:Nat):Int)<(i:Int)+1):=by omega
  rw [EQ,AC,Ag a]
  rw [Ah rfl,AM a,Ae]
  rw [Ah (AK (by omega)),Ab]
  have f:((i:Int)+1).toNat=i+1:=by omega
  have d:D4 n (l.drop (i+1)) (fun b=>some (EK b l[i]))=some false:=by
   rw [D4,BW]
   have e:=UE n (l.drop (i+1)) (fun b=>some (EK b l[i])) (fun b=>EK b l[i]) (fun _ _=>rfl) (by rw [List.length_drop];omega) (l.drop (i+1)).length n 0 (by omega) (by rw [List.length_drop];omega)
   have o:Cb n (l.drop (i+1)) (fun b=>some (EK b l[i])) n 0=_:=e
   rw [o,Ae,L1]
   congr 1
   rw [List.any_eq_false]
   intro p g
   rw [EK]
   have ne:¬ Eb p.1 l[i].1=true:=by
    rw [Db]
    intro q
    obtain ⟨j,c,rfl⟩:=List.mem_iff_getElem.1 g
    rw [List.length_drop] at c
    have:=List.pairwise_iff_getElem.1 hd i (i+1+j) (by simpa using a) (by simp;omega) (by omega)
    apply this
    simp only [List.getElem_map]
    rw [List.getElem_drop] at q
    exact q.symm
   simp [Bool.eq_false_iff.2 ne]
  rw [f,d,Ae,hnul _ (List.getElem_mem a)]
  rw [Ah (by rfl),Ah (by rw [List.length_take];omega),Kp,Ah (AK (by omega))]
  have e:l.take i++[l[i]]=l.take (i+1):=by rw [List.take_succ_eq_append_getElem a]
  rw [e]
  exact ZV n l hl hn hnul hd k m (i+1) (by omega) (by omega)
theorem NI {l m:List (ByteArray × Vl)} (h:l.Perm m):Bi l=Bi m:=by
 rw [Qu,Qu]
 exact (h.map _).sum_nat
theorem ZcK (n:Nat) (l:List (ByteArray × Vl)) (hl:Bi l+2≤1000000) (hn:Bi l+2≤n) (hnul:∀ p∈l,A3 p.2=false) (hd:(l.map Prod.fst).Nodup):Gm n l=some (Vl.mk 9 0 0 ⟨#[]⟩ [] (BS l)):=by
 have b:=Nv l
 have e:=ZV n l (by omega) (by omega) hnul hd l.length n 0 (by omega) (by omega)
 rw [List.take_zero] at e
 have a:EQ n l n 0 []=_:=e
 rw [Gm,a,JK,Ab]
 have hs:=NI (Gj l)
 rw [FZ n _ (by simp only [Vl.size,CJ];omega) (by simp only [Vl.size,CJ];omega)]
 rfl
theorem ZeG {b:List (ByteArray × Vl)} (hb:SS b) (x:ByteArray × Vl) (hx:∀ p∈b,p.1≠x.1) {j:Nat} (h1:∀ p∈b.take j,E6 p.1 x.1<0) (h2:∀ h:j<b.length,¬ E6 b[j].1 x.1<0):SS (b.take j++[x]++b.drop j):=by
 unfold SS at *
 rw [List.append_assoc,List.singleton_append]
 have a:=hb
 rw [←List.take_append_drop j b] at a
 obtain ⟨k,c,i⟩:=List.pairwise_append.1 a
 have hd:∀ q∈b.drop j,E6 x.1 q.1<0:=by
  by_cases hj:j<b.length
  ·have e:=List.drop_eq_getElem_cons hj
   rw [e] at c ⊢
   obtain ⟨f,n⟩:=List.pairwise_cons.1 c
   have g:E6 x.1 b[j].1<0:=by
    have:=h2 hj
    have l:=OB b[j].1 x.1
    have m:E6 b[j].1 x.1≠0:=fun q=>hx _ (List.getElem_mem hj) ((KW _ _).1 q)
    omega
   intro q hq
   rcases List.mem_cons.1 hq with rfl | hq
   ·exact g
   ·exact Rr g (f q hq)
  ·rw [List.drop_eq_nil_of_le (by omega)];simp
 refine List.pairwise_append.2 ⟨k,List.pairwise_cons.2 ⟨hd,c⟩,fun p d q hq=>?_⟩
 rcases List.mem_cons.1 hq with rfl | hq
 ·exact h1 p d
 ·exact i p d q hq
theorem NC {B:List (List AV)} {l:Nat} {cs:List AV} (h:B[l]? = some cs) (i:Nat):∀ (X:Am) (c c':List AV),(B.set i c++X).set l c'=(B.set i c).set l c'++X:=fun X c c'=>List.set_append_left _ _ (by rw [List.length_set];exact (Aj.1 h).1)
theorem AB {B:List (List AV)} {l:Nat} {c:List AV} (h:B[l]? = some c):B.set l c=B:=by
 apply List.ext_getElem?
 intro i
 by_cases q:l=i
 ·subst q
  rw [List.getElem?_set_self (Aj.1 h).1,h]
 ·rw [List.getElem?_set_ne q]
@[go_sem] theorem Zkk:HS Tryz.prog 103 0=some (0,1,false)∧HS Tryz.prog 103 1=some (1,1,false)∧HA Tryz.prog 100=some [(0,1),(1,1)]∧MZ Tryz.prog 101=some (1,false)∧EW Tryz.prog 100=some [.val (.string ⟨#[]⟩),Ak 0]∧EW Tryz.prog 5=some [.val (.int .u8 0)]:=by (repeat' apply Ad)<;>kernel_rfl
def GM (g:ByteArray × Vl) (b:ByteArray):Int :=
 E6 g.1 b
theorem Uo (w0:World) (B:Am) (Rw:Aq) (L:Ar) (a0:ByteArray × Vl) (a1:ByteArray) (r:Int) (h:GM a0 a1=r) :
  ACalls Tryz.prog w0 139 [.agg (.val (.string a0.1)::(a0.2.cs)),.val (.string a1)] ⟨B,Rw,L⟩ fun x st=>x=Ak r∧st=⟨B,Rw,L⟩:=by
 rw [GM] at h
 refine hd [.tmp 4] Tryz.func139 Tryz.ntmps139 fun M0 W0 e d c b g f hs=>?_
 simp only [AG]
 exact go (tg (a:=([1,2],[4],()))) h hs e d c b f (q1 (PO w0)) trivial
theorem RY (w0:World) (B:Am) (Rw:Aq) (L:Ar) (a0:ByteArray × Vl) (a1:ByteArray) :
  ACalls Tryz.prog w0 139 [.agg (.val (.string a0.1)::(a0.2.cs)),.val (.string a1)] ⟨B,Rw,L⟩ fun x st=>x=Ak (GM a0 a1)∧st=⟨B,Rw,L⟩:=Uo w0 B Rw L a0 a1 _ rfl
def PI (b:ByteArray):Option Bool :=
 if b.size≤maxLen then
  some (Lib.validD b.data.toList)
 else none
theorem Zb5 (w0:World) (hT:Lib.Utf8Tabs 2 3 w0) (B:Am) (Rw:Aq) (L:Ar) (a0:ByteArray) (r:Bool) (h:PI a0=some r) :
  ACalls Tryz.prog w0 204 [.val (.string a0)] ⟨B,Rw,L⟩ fun x st=>x = .val (.bool r)∧st=⟨B,Rw,L⟩:=by
 rw [PI] at h
 refine hd [.tmp 2] Tryz.func204 Tryz.ntmps204 fun M0 W0 e d c b g f hs=>?_
 simp only [AG]
 exact go (tg (a:=([0],[2],()))) h hs e d c b f (q1 (Xc w0)) trivial
def CS (n:Nat)  (b1_k4:Vl):Option Bool :=
 some (((((decide (b1_k4.int=0))&&(decide (b1_k4.scale=0)))&&(Eb b1_k4.text (⟨#[]⟩:ByteArray)))&&(decide ((b1_k4.list.length:Int)=0)))&&(decide ((b1_k4.fields.length:Int)=0)))
def J2 (n:Nat) (b:Vl):Option Bool :=
 CS n (Vl.mk b.kind b.int b.scale b.text b.list ([]))
def EN (n:Nat) (g:Vl):Nat→Int→Option Bool
 | 0,_=>none
 | m+1,b =>
  if decide (b<(g.fields.length:Int)) then
   if BM (b-1) then
    (B1 g.fields (b-1)).bind fun q =>
    (B1 g.fields b).bind fun h =>
    if !(X7 q.1 h.1) then
     some (false)
    else
     if BM (b+1) then
      (EN n g m) (b+1)
     else none
   else none
  else
   J2 n g 
def Ej (n:Nat) (b:Vl) (g:Bool):Option Bool :=
 if g then
  CS n (Vl.mk b.kind 0 b.scale b.text b.list b.fields)
 else
  if decide (b.kind=3) then
   CS n (Vl.mk b.kind 0 0 b.text b.list b.fields)
  else
   if decide (b.kind=4) then
    (PI b.text).bind fun h =>
    if !h then
     some (false)
    else
     CS n (Vl.mk b.kind b.int b.scale (⟨#[]⟩:ByteArray) b.list b.fields)
   else
    if decide (b.kind=5) then
     CS n (Vl.mk b.kind b.int b.scale (⟨#[]⟩:ByteArray) b.list b.fields)
    else
     if decide (b.kind=8) then
      CS n (Vl.mk b.kind b.int b.scale b.text ([]) b.fields)
     else
      if decide (b.kind=9) then
       EN n b n 1
      else
       if decide (b.kind=10) then
        if !(decide ((b.list.length:Int)=1)) then
         some (false)
        else
         CS n (Vl.mk b.kind b.int b.scale (⟨#[]⟩:ByteArray) ([]) b.fields)
       else
        CS n b
def IU (n:Nat) (b:Vl):Option Bool :=
 if decide (b.kind=1) then
  if (!(decide (b.int=0)))&&(!(decide (b.int=1))) then
   some (false)
  else
   CS n (Vl.mk b.kind 0 b.scale b.text b.list b.fields)
 else
  if decide (b.kind=2) then
   Ej n b true
  else
   if decide (b.kind=6) then
    Ej n b true
   else
    Ej n b (decide (b.kind=7))
theorem RP (w0:World) (hT:Lib.Utf8Tabs 2 3 w0) (n:Nat) (B:Am) (Rw:Aq) (L:Ar) (a0:Vl) (r:Bool) (h:IU n a0=some r) :
  ACalls Tryz.prog w0 131 [.agg (a0.cs)] ⟨B,Rw,L⟩ fun x st=>x = .val (.bool r)∧st=⟨B,Rw,L⟩:=by
 rw [IU] at h
 refine hd [.tmp 2] Tryz.func131 Tryz.ntmps131 fun M0 W0 t l k b D d hs=>?_
 simp only [AG]
 refine rg [1] hs ?_
 refine rg [1,3] hs ?_
 refine AA (fun e st=>∃ (i:Vl) (g:List AV),Ck e st B Rw L [(3,true,.box (B.length+1) 0)] [a0.cs,g] [] (g.map AV.pubCell=i.cs∧CS n i=some r)) ?_ ?_
 ·intro K5 j
  refine rg [1,3,7] hs ?_
  apply Ao
  refine rg [1,3,7,8] hs ?_
  refine BN h hs ?_ ?_<;>intro hs h
  ·apply An;intro K9 v
   refine rg [3,17] hs ?_
   refine BN h hs ?_ ?_<;>intro hs h
   ·refine rg [2] hs ?_
    exact rt h hs b d
   refine sk [3] hs v ?_
   clear v
   have hs:=Ad (Vl.cs_eqs a0) hs
   refine rl [3] hs j ?_
   exact ⟨(Vl.mk a0.kind 0 a0.scale a0.text a0.list a0.fields),([Ak a0.kind,Ak 0,Ak a0.scale,.val (.string a0.text),.list (a0.list.map Bv) .none,.list (a0.fields.map BV) .none]),([]),Rw,ef (cm hs),ef (cm hs),d,ef (cm hs),h⟩
  refine AA (fun e st=>∃ (c:Bool),Ck e st B Rw L [(1,true,.box B.length 0),(3,true,.box (B.length+1) 0),(7,true,Ak a0.kind),(19,true,.val (.bool c))] [a0.cs,a0.cs] [] (Ej n a0 c=some r)) ?_ ?_
  ·intro K15 u
   exact go (tg (a:=([1,3,7,19],([1,3,7,19],()),[1,3,7,19],([1,3,7,19],()),[1,3,7,19],()))) h hs t l k b d trivial (q1 u)
  ·clear h;rintro e st ⟨c,Xk14,Rk14,rfl,rfl,d,h⟩
   rw [Ej] at h
   refine td t l k b d ?_
   refine BN h hs ?_ ?_<;>intro hs h
   ·have hs:=Ad (Vl.cs_eqs a0) hs
    refine rl [3] hs j ?_
    exact ⟨(Vl.mk a0.kind 0 a0.scale a0.text a0.list a0.fields),([Ak a0.kind,Ak 0,Ak a0.scale,.val (.string a0.text),.list (a0.list.map Bv) .none,.list (a0.fields.map BV) .none]),([]),Rk14,ef (cm hs),ef (cm hs),d,ef (cm hs),h⟩
   refine rg [1,3,7,24] hs ?_
   refine BN h hs ?_ ?_<;>intro hs h
   ·have hs:=Ad (Vl.cs_eqs a0) hs
    refine rl [3] hs j ?_
    exact ⟨(Vl.mk a0.kind 0 0 a0.text a0.list a0.fields),([Ak a0.kind,Ak 0,Ak 0,.val (.string a0.text),.list (a0.list.map Bv) .none,.list (a0.fields.map BV) .none]),([]),Rk14,ef (cm hs),ef (cm hs),d,ef (cm hs),h⟩
   refine rg [1,3,7,28] hs ?_
   refine BN h hs ?_ ?_<;>intro hs h
   ·apply An;intro K25 p
    obtain ⟨C,w,h⟩:=bind_some h
    refine rc 2 [3,33] hs ?_;intro K26 q
    refine As _ (Zb5 w0 hT _ _ _ a0.text _ w) (hv hs) ?_
    refine ne hs q ?_
    clear q
    refine BN h hs ?_ ?_<;>intro hs h
    ·refine rg [2] hs ?_
     exact rt h hs b d
    refine sk [3] hs p ?_
    clear p
    have hs:=Ad (Vl.cs_eqs a0) hs
    refine rl [3] hs j ?_
    exact ⟨(Vl.mk a0.kind a0.int a0.scale (⟨#[]⟩:ByteArray) a0.list a0.fields),([Ak a0.kind,Ak a0.int,Ak a0.scale,.val (.string (⟨#[]⟩:ByteArray)),.list (a0.list.map Bv) .none,.list (a0.fields.map BV) .none]),([]),Rk14,ef (cm hs),ef (cm hs),d,ef (cm hs),h⟩
   refine rg [1,3,7,35] hs ?_
   refine BN h hs ?_ ?_<;>intro hs h
   ·have hs:=Ad (Vl.cs_eqs a0) hs
    refine rl [3] hs j ?_
    exact ⟨(Vl.mk a0.kind a0.int a0.scale (⟨#[]⟩:ByteArray) a0.list a0.fields),([Ak a0.kind,Ak a0.int,Ak a0.scale,.val (.string (⟨#[]⟩:ByteArray)),.list (a0.list.map Bv) .none,.list (a0.fields.map BV) .none]),([]),Rk14,ef (cm hs),ef (cm hs),d,ef (cm hs),h⟩
   refine rg [1,3,7,38] hs ?_
   refine BN h hs ?_ ?_<;>intro hs h
   ·have hs:=Ad (Vl.cs_eqs a0) hs
    refine rl [3] hs j ?_
    exact ⟨(Vl.mk a0.kind a0.int a0.scale a0.text ([]) a0.fields),([Ak a0.kind,Ak a0.int,Ak a0.scale,.val (.string a0.text),.list ([]) .full,.list (a0.fields.map BV) .none]),([]),Rk14,ef (cm hs),ef (cm hs),d,ef (cm hs),h⟩
   refine rg [1,3,7,41] hs ?_
   refine BN h hs ?_ ?_<;>intro hs h
   ·refine AA (fun e st=>Ck e st B Rw L [(3,true,.box (B.length+1) 0)] [a0.cs,a0.cs] [] (J2 n a0  = some r)) ?_ ?_
    ·intro K38 y
     refine rg [1,3,4] hs ?_
     apply Ao
     refine AL (fun m e st=>∃ (f:Int),Ck e st B Rw L [(1,true,.box B.length 0),(3,true,.box (B.length+1) 0),(4,true,Ak f)] [a0.cs,a0.cs] [] (EN n a0 m f=some r)) n ⟨1,([]),Rk14,ef hs,ef hs,d,h⟩ ?_
     rintro ml40 e st ⟨f,Xl40,Rl40,rfl,rfl,d,h⟩ Ul40 Vl40
     cases ml40 with
     | zero=>cases h
     | succ ml40 =>
     rw [EN] at h
     exact go (tg (a:=([1,3,4,47],([1,3,4],[14,1,3,4,63],([2],()),[1,3,4],[1,3,4],()),[3],()))) h hs t l k b d trivial (q2 y (fun e s=>Vl40 ml40 e s (Nat.lt_succ_self _)))
    ·clear h;rintro e st ⟨Xk37,Rk37,rfl,rfl,d,h⟩
     rw [J2] at h
     refine td t l k b d ?_
     have hs:=Ad (Vl.cs_eqs a0) hs
     refine rl [3] hs j ?_
     exact ⟨(Vl.mk a0.kind a0.int a0.scale a0.text a0.list ([])),([Ak a0.kind,Ak a0.int,Ak a0.scale,.val (.string a0.text),.list (a0.list.map Bv) .none,.list ([]) .full]),([]),Rk37,ef (cm hs),ef (cm hs),d,ef (cm hs),h⟩
   refine rg [1,3,65] hs ?_
   refine BN h hs ?_ ?_<;>intro hs h
   ·apply An;intro K54 o
    refine rg [3,70] hs ?_
    refine BN h hs ?_ ?_<;>intro hs h
    ·refine rg [2] hs ?_
     exact rt h hs b d
    refine sk [3] hs o ?_
    clear o
    have hs:=Ad (Vl.cs_eqs a0) hs
    refine rl [3] hs j ?_
    exact ⟨(Vl.mk a0.kind a0.int a0.scale (⟨#[]⟩:ByteArray) ([]) a0.fields),([Ak a0.kind,Ak a0.int,Ak a0.scale,.val (.string (⟨#[]⟩:ByteArray)),.list ([]) .full,.list (a0.fields.map BV) .none]),([]),Rk14,ef (cm hs),ef (cm hs),d,ef (cm hs),h⟩
   refine sk [3] hs j ?_
   exact ⟨a0,_,([]),Rk14,ef hs,ef hs,d,ef hs,h⟩
 ·clear h;rintro e st ⟨i,g,Xk4,Rk4,rfl,rfl,d,z,h⟩
  rw [CS] at h
  refine Of (B.length+1) (by first | rfl | (simp only [EZ,D3,HH,F5];rfl)) z ?_;simp +decide only [go_sem,Nat.reduceAdd]
  show F3 _ _ _ _ _ _ _ _ [(3,true,.box (B.length+1) 0)] ⟨B++([a0.cs,i.cs]++Xk4),Rk4,L⟩
  refine td t l k b d ?_
  refine rg [2] hs ?_
  exact rt h hs b d
def La (n:Nat) (g:Int→(List (ByteArray × Vl))→Option Vl) (b:Int) (b3_k37_5:List (ByteArray × Vl)) (b4_k37:ByteArray × Vl):Option Vl :=
 if (b3_k37_5.length+1)*104≤140737488355328∧b3_k37_5.length+1≤4611686018427387904 then
  if BM (b+1) then
   g (b+1) (b3_k37_5++([b4_k37]))
  else none
 else none
def DI (n:Nat) (b:Vl) (b3_k4_4:List Vl) (b3_k4_5:List (ByteArray × Vl)):Option Vl :=
 some (Vl.mk b.kind b.int b.scale b.text b3_k4_4 b3_k4_5)
def Gl (n:Nat) (a0:Ty) (g:Vl) (a2:Ty→Vl→Option Vl):Nat→Int→(List Vl)→Option Vl
 | 0,_,_=>none
 | m+1,b,b3_l10_4 =>
  if decide (b<(g.list.length:Int)) then
   (B1 g.list b).bind fun y =>
   (B1 a0.elem 0).bind fun q =>
   (a2 q y).bind fun h =>
   if (b3_l10_4.length+1)*88≤140737488355328∧b3_l10_4.length+1≤4611686018427387904 then
    if BM (b+1) then
     (Gl n a0 g a2 m) (b+1) (b3_l10_4++([h]))
    else none
   else none
  else
   DI n g b3_l10_4 g.fields
def HJ (n:Nat) (a0:Ty) (h:Vl) (a2:Ty→Vl→Option Vl):Nat→Int→(List (ByteArray × Vl))→Option Vl
 | 0,_,_=>none
 | m+1,b,b3_l29_5 =>
  if decide (b<(h.fields.length:Int)) then
   (B1 h.fields b).bind fun g =>
   (DK n a0 g.1).bind fun q =>
   if q.2 then
    (a2 q.1.2.2.2.1 g.2).bind fun y =>
    La n (HJ n a0 h a2 m) b b3_l29_5 ((g.1,y))
   else
    La n (HJ n a0 h a2 m) b b3_l29_5 g
  else
   DI n h h.list b3_l29_5
def N3 (n:Nat) (g:Ty) (b:Vl) (y:Ty→Vl→Option Vl):Option Vl :=
 if (decide (g.kind=8))&&(decide ((g.elem.length:Int)=1)) then
  Gl n g b y n 0 ([])
 else
  if decide (g.kind=9) then
   HJ n g b y n 0 ([])
  else
   if decide (g.kind=10) then
    (DK n g b.text).bind fun h =>
    if h.2 then
     (B1 b.list 0).bind fun x55 =>
     (y h.1.2.2.2.1 x55).bind fun q =>
     DI n b ([q]) b.fields
    else
     DI n b b.list b.fields
   else
    DI n b b.list b.fields
theorem Zar (w0:World) (n:Nat) (B:Am) (Rw:Aq) (L:Ar) (a0:Ty) (a1:Vl) (fa2:FuncId) (ca2:List AV) (a2:Ty→Vl→Option Vl) (ha2:∀ (x0:Ty) (x1:Vl) r,a2 x0 x1=some r→∀ B' rows,B <+: B'→Rw <+: rows→ACalls Tryz.prog w0 fa2 ([.agg (x0.cs),.agg (x1.cs)]++ca2) ⟨B',rows,L⟩ fun v s=>v = .agg (r.cs)∧s=⟨B',rows,L⟩) (r:Vl) (h:N3 n a0 a1 a2=some r) :
  ACalls Tryz.prog w0 137 [.agg (a0.cs),.agg (a1.cs),.clo fa2 ca2] ⟨B,Rw,L⟩ fun x st=>x = .agg (r.cs)∧st=⟨B,Rw,L⟩:=by
 rw [N3] at h
 refine hd [.cell 6 34] Tryz.func137 Tryz.ntmps137 fun M0 W0 hN N K q hu l hs=>?_
 simp only [AG]
 have o:=CV (hu (.clo fa2 ca2) (by simp))
 refine rg [2,3,4,6] hs ?_
 refine rg [2,3,4,6,7] hs ?_
 refine AA (fun e st=>∃ (u:List Vl) (t:List (ByteArray × Vl)) (z:AV) (C:AV),Ck e st B Rw L [(6,true,.box (B.length+2) 0),(7,true,.box (B.length+3) 0)] [a0.cs,a1.cs,AX,[Ak a1.kind,Ak a1.int,Ak a1.scale,.val (.string a1.text),z,C]] [] (z.pub = .list (u.map Bv) .none∧C.pub = .list (t.map BV) .none∧DI n a1 u t=some r)) ?_ ?_
 ·intro K5 U
  apply Ao
  refine rg [2,3,4,6,7,17] hs ?_
  refine BN h hs ?_ ?_<;>intro hs h
  ·have hs:=Ad (Vl.cs_eqs a1) hs
   refine rg [2,3,4,6,7] hs ?_
   refine rg [2,3,6,7,29,30,31] hs ?_
   apply Ao
   refine AL (fun m e st=>∃ (E:Int) (d:List Vl) (g:Ev.Own),Ck e st B Rw L [(2,true,.clo fa2 ca2),(3,true,.box B.length 0),(6,true,.box (B.length+2) 0),(7,true,.box (B.length+3) 0),(29,true,.list (a1.list.map Bv) .none),(30,true,Ak (a1.list.length:Int)),(31,true,Ak E)] [a0.cs,a1.cs,AX,[Ak a1.kind,Ak a1.int,Ak a1.scale,.val (.string a1.text),.list (d.map Bv) g,.list (a1.fields.map BV) .none]] [(6,d.length,g)] (Gl n a0 a1 a2 m E d=some r)) n ⟨0,([]),.full,([]),Rw,ef hs,ef hs,Owns.of_eq ((l).full 6 0) Kr,h⟩ ?_
   rintro ml10 e st ⟨E,d,g,Xl10,Rl10,rfl,rfl,l,h⟩ Ul10 Vl10
   cases ml10 with
   | zero=>cases h
   | succ ml10 =>
   rw [Gl] at h
   have hU:=l.unders
   simp only [List.mem_cons,List.not_mem_nil,or_false,forall_eq_or_imp,forall_eq] at hU
   refine AY hN N K rfl q l (Kq o l) (Kq o l) ?_
   refine rg [2,3,6,7,29,30,31,32] hs ?_
   apply An;intro K12 aa
   refine BN h hs ?_ ?_<;>intro hs h
   rotate_left
   ·refine sx [6,7] hs U ?_
    exact ⟨d,a1.fields,(.list (d.map Bv) g),(.list (a1.fields.map BV) .none),([]),Rl10,ef hs,ef hs,(l).sub (List.sublist_append_left [] [(6,d.length,g)]),ef hs,ef hs,h⟩
   refine sk [2,3,6,7,29,30,31] hs aa ?_
   clear aa
   apply An;intro K14 ar
   apply Ao
   obtain ⟨ba,au,h⟩:=bind_some h
   obtain ⟨bf,a9,am⟩:=B9 au
   have ah:=C5 (f:=Bv) am
   have hs:=Ad ah hs
   refine rg [2,3,6,7,9,29,30,31] hs ?_
   obtain ⟨a7,bd,a6,Q,h⟩:=ix Ny h
   have ak:(a0.elem.map Ny).getD 0 .junk=_:=Q
   obtain ⟨bi,ap,h⟩:=bind_some h
   have ai:=l.pre
   obtain ⟨Y,h⟩:=Au h
   obtain ⟨bh,a4,l,w⟩:=l.append (P:=Tryz.prog) LS (by rw [HF];rfl) (by decide) 1 Y.1 Y.2
   replace w:=fun (ys:List AV) B L o2=>w (d.map Bv) ys B L o2 Kr
   replace w:=fun (y:AV) B L o2=>w [y] B L o2 Kr ev
   try simp only [List.mem_singleton,List.mem_cons,List.not_mem_nil,or_false,forall_eq_or_imp,forall_eq,List.map_append,List.map_cons,List.map_nil,Hg,G6,He,Hz,Ha,GK,Fh,Fa,G2,Eg,Eh,Fp,Fq,E9] at w
   have hs:=Ad Q hs
   have hs:=Ad ak hs
   have hs:=Ad w hs
   refine dk 10 2 1 [2,3,6,7,29,30,31] hs Oo ?_
   refine TZ _ (ha2 a7 ba _ ap _ _ px ai) (hv hs) ?_
   exact go (tg (a:=([2,3,6,7,29,30,31],()))) h hs hN N K q l trivial (q2 ar (fun e s=>Vl10 ml10 e s (Nat.lt_succ_self _)))
  refine rg [2,3,4,6,7,48] hs ?_
  refine BN h hs ?_ ?_<;>intro hs h
  ·have hs:=Ad (Vl.cs_eqs a1) hs
   refine rg [2,3,4,6,7] hs ?_
   refine rg [2,3,6,7,54,55,56] hs ?_
   apply Ao
   refine AL (fun m e st=>∃ (j:Int) (b:List (ByteArray × Vl)) (c:Ev.Own),Ck e st B Rw L [(2,true,.clo fa2 ca2),(3,true,.box B.length 0),(6,true,.box (B.length+2) 0),(7,true,.box (B.length+3) 0),(54,true,.list (a1.fields.map BV) .none),(55,true,Ak (a1.fields.length:Int)),(56,true,Ak j)] [a0.cs,a1.cs,AX,[Ak a1.kind,Ak a1.int,Ak a1.scale,.val (.string a1.text),.list (a1.list.map Bv) .none,.list (b.map BV) c]] [(7,b.length,c)] (HJ n a0 a1 a2 m j b=some r)) n ⟨0,([]),.full,([]),Rw,ef hs,ef hs,Owns.of_eq ((l).full 7 0) Kr,h⟩ ?_
   rintro ml29 e st ⟨j,b,c,Xl29,Rl29,rfl,rfl,l,h⟩ Ul29 Vl29
   cases ml29 with
   | zero=>cases h
   | succ ml29 =>
   rw [HJ] at h
   have hU:=l.unders
   simp only [List.mem_cons,List.not_mem_nil,or_false,forall_eq_or_imp,forall_eq] at hU
   refine AY hN N K rfl q l (Kq o l) (Kq o l) ?_
   refine rg [2,3,6,7,54,55,56,57] hs ?_
   apply An;intro K31 Z
   refine BN h hs ?_ ?_<;>intro hs h
   rotate_left
   ·refine sx [6,7] hs U ?_
    exact ⟨a1.list,b,(.list (a1.list.map Bv) .none),(.list (b.map BV) c),([]),Rl29,ef hs,ef hs,(l).sub (List.sublist_append_left [] [(7,b.length,c)]),ef hs,ef hs,h⟩
   refine sk [2,3,6,7,54,55,56] hs Z ?_
   clear Z
   apply An;intro K33 aq
   apply Ao
   obtain ⟨J,az,h⟩:=bind_some h
   obtain ⟨be,bb,ao⟩:=B9 az
   have ag:=C5 (f:=BV) ao
   have hs:=Ad ag hs
   refine rg [2,3,6,7,11,54,55,56] hs ?_
   refine AA (fun e st=>∃ (i:List (ByteArray × Vl)) (p:ByteArray × Vl) (k:Ev.Own) (D:List AV),Ck e st B Rw L [(2,true,.clo fa2 ca2),(3,true,.box B.length 0),(6,true,.box (B.length+2) 0),(7,true,.box (B.length+3) 0),(11,true,.box (B.length+4) 0),(54,true,.list (a1.fields.map BV) .none),(55,true,Ak (a1.fields.length:Int)),(56,true,Ak j)] [a0.cs,a1.cs,AX,[Ak a1.kind,Ak a1.int,Ak a1.scale,.val (.string a1.text),.list (a1.list.map Bv) .none,.list (i.map BV) k],D] [(7,i.length,k)] (D.map AV.pubCell = .val (.string p.1)::(p.2.cs)∧La n (HJ n a0 a1 a2 ml29) j i p=some r)) ?_ ?_
   ·intro K38 ad
    obtain ⟨F,aw,h⟩:=bind_some h
    refine rc 2 [2,3,6,7,11,12,13,54,55,56] hs ?_;intro K39 V
    refine As _ (GH w0 n _ _ _ a0 J.1 _ aw) (hv hs) ?_
    refine ne hs V ?_
    clear V
    refine rg [2,3,6,7,11,12,54,55,56,67] hs ?_
    refine BN h hs ?_ ?_<;>intro hs h
    ·obtain ⟨H,a3,h⟩:=bind_some h
     have hs:=Ad (Vl.cs_eqs J.2) hs
     have hs:=Ad (Vl.cs_eqs H) hs
     refine rk 2 [2,3,6,7,11,54,55,56] hs ?_
     refine TZ _ (ha2 F.1.2.2.2.1 J.2 _ a3 _ _ px l.pre) (hv hs) ?_
     refine ne hs ad ?_
     exact ⟨b,((J.1,H)),c,([.val (.string J.1),Ak H.kind,Ak H.int,Ak H.scale,.val (.string H.text),.list (H.list.map Bv) .none,.list (H.fields.map BV) .none]),([Ak F.1.1::(.val (.string F.1.2.1)::(Ak F.1.2.2.1::((F.1.2.2.2.1.cs)++([.list (F.1.2.2.2.2.map Bv) .none]))))]),Rl29,ef (cm hs),ef (cm hs),Owns.of_eq (l) Kr,ef (cm hs),h⟩
    refine sk [2,3,6,7,11,54,55,56] hs ad ?_
    exact ⟨b,J,c,(.val (.string J.1)::(J.2.cs)),([Ak F.1.1::(.val (.string F.1.2.1)::(Ak F.1.2.2.1::((F.1.2.2.2.1.cs)++([.list (F.1.2.2.2.2.map Bv) .none]))))]),Rl29,ef (cm hs),ef (cm hs),Owns.of_eq (l) Kr,ef (cm hs),h⟩
   ·clear h;rintro e st ⟨i,p,k,D,Xk37,Rk37,rfl,rfl,l,af,h⟩
    rw [La] at h
    refine Of (B.length+4) (by first | rfl | (simp only [EZ,D3,HH,F5];rfl)) af ?_;simp +decide only [go_sem,Nat.reduceAdd]
    show F3 _ _ _ _ _ _ _ _ [(2,true,.clo fa2 ca2),(3,true,.box B.length 0),(6,true,.box (B.length+2) 0),(7,true,.box (B.length+3) 0),(11,true,.box (B.length+4) 0),(54,true,.list (a1.fields.map BV) .none),(55,true,Ak (a1.fields.length:Int)),(56,true,Ak j)] ⟨B++([a0.cs,a1.cs,AX,[Ak a1.kind,Ak a1.int,Ak a1.scale,.val (.string a1.text),.list (a1.list.map Bv) .none,.list (i.map BV) k],.val (.string p.1)::(p.2.cs)]++Xk37),Rk37,L⟩
    have hU:=l.unders
    simp only [List.mem_cons,List.not_mem_nil,or_false,forall_eq_or_imp,forall_eq] at hU
    refine AY hN N K rfl q l (Kq o l) (Kq o l) ?_
    exact go (tg (a:=([2,3,6,7,54,55,56],[2,3,6,7,54,55,56],()))) h hs hN N K q l (q1 (ae Nb IB)) (q2 aq (fun e s=>Vl29 ml29 e s (Nat.lt_succ_self _)))
  refine rg [2,3,4,6,7,82] hs ?_
  refine BN h hs ?_ ?_<;>intro hs h
  ·obtain ⟨G,ax,h⟩:=bind_some h
   refine rc 2 [2,4,6,7,14,15] hs ?_;intro K51 ab
   refine As _ (GH w0 n _ _ _ a0 a1.text _ ax) (hv hs) ?_
   refine ne hs ab ?_
   clear ab
   refine rg [2,4,6,7,14,93] hs ?_
   refine BN h hs ?_ ?_<;>intro hs h
   ·obtain ⟨a8,bg,a5,O,h⟩:=ix Bv h
    have aj:(a1.list.map Bv).getD 0 .junk=_:=O
    obtain ⟨av,ay,h⟩:=bind_some h
    have hs:=Ad O hs
    have hs:=Ad aj hs
    have hs:=Ad (Vl.cs_eqs a1) hs
    refine dk 10 2 1 [6,7] hs Oo ?_
    refine TZ _ (ha2 G.1.2.2.2.1 a8 _ ay _ _ px l.pre) (hv hs) ?_
    refine dn hs U ?_
    exact ⟨([av]),a1.fields,(.list (([av]).map Bv) .full),(.list (a1.fields.map BV) .none),([Ak G.1.1::(.val (.string G.1.2.1)::(Ak G.1.2.2.1::((G.1.2.2.2.1.cs)++([.list (G.1.2.2.2.2.map Bv) .none]))))]),Rw,ef hs,ef hs,l,ef hs,ef hs,h⟩
   have hs:=Ad (Vl.cs_eqs a1) hs
   refine sk [6,7] hs U ?_
   exact ⟨a1.list,a1.fields,(.list (a1.list.map Bv) .none),(.list (a1.fields.map BV) .none),([Ak G.1.1::(.val (.string G.1.2.1)::(Ak G.1.2.2.1::((G.1.2.2.2.1.cs)++([.list (G.1.2.2.2.2.map Bv) .none]))))]),Rw,ef hs,ef hs,l,ef hs,ef hs,h⟩
  have hs:=Ad (Vl.cs_eqs a1) hs
  refine sk [6,7] hs U ?_
  exact ⟨a1.list,a1.fields,(.list (a1.list.map Bv) .none),(.list (a1.fields.map BV) .none),([]),Rw,ef hs,ef hs,l,ef hs,ef hs,h⟩
 ·clear h;rintro e st ⟨u,t,z,C,Xk4,Rk4,rfl,rfl,l,af,bc,h⟩
  rw [DI] at h
  refine JZ (B.length+3) 4 (by first | rfl | (simp only [EZ,D3,HH,F5];rfl)) rfl af ?_;simp +decide only [go_sem,Nat.reduceAdd]
  refine JZ (B.length+3) 5 (by first | rfl | (simp only [EZ,D3,HH,F5];rfl)) rfl bc ?_;simp +decide only [go_sem,Nat.reduceAdd]
  show F3 _ _ _ _ _ _ _ _ [(6,true,.box (B.length+2) 0),(7,true,.box (B.length+3) 0)] ⟨B++([a0.cs,a1.cs,AX,[Ak a1.kind,Ak a1.int,Ak a1.scale,.val (.string a1.text),.list (u.map Bv) .none,.list (t.map BV) .none]]++Xk4),Rk4,L⟩
  refine AY hN N K rfl q l (Kq o l) (Kq o l) ?_
  refine rg [6] hs ?_
  exact rt h hs q l
def GI (n:Nat) (g:Int→(List (ByteArray × Vl))→Option Vl) (b:Int) (b3_k24_5:List (ByteArray × Vl)) (b4_k24:ByteArray × Vl):Option Vl :=
 if (b3_k24_5.length+1)*104≤140737488355328∧b3_k24_5.length+1≤4611686018427387904 then
  if BM (b+1) then
   g (b+1) (b3_k24_5++[b4_k24])
  else none
 else none
def Oe (n:Nat) (b:Vl) (b3_k7_5:List (ByteArray × Vl)):Option Vl :=
 some (Vl.mk b.kind b.int b.scale b.text b.list b3_k7_5)
def Ed (n:Nat) (a0:Ty) (h:Vl) (y:Ty→Vl→Option Vl):Nat→Int→(List (ByteArray × Vl))→Option Vl
 | 0,_,_=>none
 | m+1,b,b3_l15_5 =>
  if decide (b<(h.fields.length:Int)) then
   (B1 h.fields b).bind fun g =>
   (DK n a0 g.1).bind fun q =>
   if q.2 then
    (y q.1.2.2.2.1 g.2).bind fun y30 =>
    GI n (Ed n a0 h y m) b b3_l15_5 ((g.1,y30))
   else
    GI n (Ed n a0 h y m) b b3_l15_5 g
  else
   Oe n h b3_l15_5
def MB (n:Nat) (b:Ty) (g:Vl) (h:Ty→Vl→Option Vl):Option Vl :=
 if b.kind=9 then
  Ed n b g h n 0 ([])
 else none
theorem Yn (w0:World) (n:Nat) (B:Am) (Rw:Aq) (L:Ar) (a0:Ty) (a1:Vl) (fa2:FuncId) (ca2:List AV) (a2:Ty→Vl→Option Vl) (ha2:∀ (x0:Ty) (x1:Vl) r,a2 x0 x1=some r→∀ B' rows,B <+: B'→Rw <+: rows→ACalls Tryz.prog w0 fa2 ([.agg (x0.cs),.agg (x1.cs)]++ca2) ⟨B',rows,L⟩ fun v s=>v = .agg (r.cs)∧s=⟨B',rows,L⟩) (r:Vl) (h:MB n a0 a1 a2=some r) :
  ACalls Tryz.prog w0 137 [.agg (a0.cs),.agg (a1.cs),.clo fa2 ca2] ⟨B,Rw,L⟩ fun x st=>∃ (o0:VO) (rows:Aq),x = .agg ([Ak r.kind,Ak r.int,Ak r.scale,.val (.string r.text),.list (r.list.map Bv) .none,Ly o0 r.fields.length])∧st=⟨B,rows,L⟩∧Owns Rw rows [] .none [(o0,7,(r.fields).flatMap fun x=>(BV x).cells)]:=by
 rw [MB] at h
 refine ACalls.finV (Sm [true,true,true,true,true,false] (rs:=[.cell 6 34]) Tryz.func137 rfl rfl Tryz.ntmps137 (Bl Tryz.func137 rfl (by decide)) (Nat.le_of_ble_eq_true rfl) ?_)
 intro M0 W0 hN G E t hu
 dsimp only at hN G E t hu
 simp only [AG]
 have k:=Owns.none Rw
 have hs:=YB
 have l:=CV (hu (.clo fa2 ca2) (by simp))
 obtain ⟨ag,h⟩:=Au h
 have z:(decide (a0.kind=9))=true:=Ag ag
 have C:(decide (a0.kind=8))=false:=Af (by omega)
 have hs:=Ad z hs
 have hs:=Ad C hs
 refine rg [2,3,4,6] hs ?_
 refine rg [2,3,4,6,7] hs ?_
 refine AA (fun e st=>∃ (j:List (ByteArray × Vl)) (o:VO) (Xk7:Am) (Rk7:Aq),e=[(6,true,.box (B.length+2) 0),(7,true,.box (B.length+3) 0)]∧st=⟨B++([a0.cs,a1.cs,AX,[Ak a1.kind,Ak a1.int,Ak a1.scale,.val (.string a1.text),.list (a1.list.map Bv) .none,Ly o j.length]]++Xk7),Rk7,L⟩∧Owns Rw Rk7 [] .none [(o,7,j.flatMap fun x=>(BV x).cells)]∧Oe n a1 j=some r) ?_ ?_
 ·intro K8 af
  apply Ao
  refine rg [2,3,4,6,7,17] hs ?_
  refine Di false ev (ef hs) (fun hb10=>by cases hb10) (fun hb10=>?_)
  refine rg [2,3,4,6,7,48] hs ?_
  refine Di true ev (ef hs) (fun hb12=>?_) (fun hb12=>by cases hb12)
  have hs:=Ad (Vl.cs_eqs a1) hs
  refine rg [2,3,4,6,7] hs ?_
  refine rg [2,3,6,7,54,55,56] hs ?_
  apply Ao
  refine JV (B.length+3) 5 (by simp only [EZ,D3,HH,F5];rfl) rfl ?_;simp +decide only [go_sem,Nat.reduceAdd,List.set_cons_zero,List.set_cons_succ]
  have k:=k.nilV 7
  refine AL (fun m e st=>∃ (g:Int) (d:List (ByteArray × Vl)) (c:VO) (Xl15:Am) (Rl15:Aq),e=[(2,true,.clo fa2 ca2),(3,true,.box B.length 0),(6,true,.box (B.length+2) 0),(7,true,.box (B.length+3) 0),(54,true,.list (a1.fields.map BV) .none),(55,true,Ak (a1.fields.length:Int)),(56,true,Ak g)]∧st=⟨B++([a0.cs,a1.cs,AX,[Ak a1.kind,Ak a1.int,Ak a1.scale,.val (.string a1.text),.list (a1.list.map Bv) .none,Ly c d.length]]++Xl15),Rl15,L⟩∧Owns Rw Rl15 [] .none [(c,7,d.flatMap fun x=>(BV x).cells)]∧Ed n a0 a1 a2 m g d=some r) n ⟨0,([]),.nil,([]),Rw,ef hs,ef hs,Owns.eqV (k) V5,h⟩ ?_
  rintro ml15 e st ⟨g,d,c,Xl15,Rl15,rfl,rfl,k,h⟩ Ul15 Vl15
  cases ml15 with
  | zero=>cases h
  | succ ml15 =>
  rw [Ed] at h
  have y:=k.underV
  simp only [List.mem_cons,List.not_mem_nil,or_false,forall_eq_or_imp,forall_eq] at y
  refine AY hN G E rfl t k (Kq l k) (Kq l k) ?_ (vu @KN)
  refine rg [2,3,6,7,54,55,56,57] hs ?_
  apply An;intro K18 J
  refine BN h hs ?_ ?_<;>intro hs h
  rotate_left
  ·refine sx [6,7] hs af ?_
   exact ⟨d,c,([]),Rl15,ef hs,ef hs,Owns.eqV (k) V5,h⟩
  refine sk [2,3,6,7,54,55,56] hs J ?_
  clear J
  apply An;intro K20 N
  apply Ao
  obtain ⟨u,Z,h⟩:=bind_some h
  obtain ⟨ae,ad,Q⟩:=B9 Z
  have U:=C5 (f:=BV) Q
  have hs:=Ad U hs
  refine rg [2,3,6,7,11,54,55,56] hs ?_
  refine AA (fun e st=>∃ (a:List (ByteArray × Vl)) (b:ByteArray × Vl) (i:VO) (p:List AV) (Xk24:Am) (Rk24:Aq),e=[(2,true,.clo fa2 ca2),(3,true,.box B.length 0),(6,true,.box (B.length+2) 0),(7,true,.box (B.length+3) 0),(11,true,.box (B.length+4) 0),(54,true,.list (a1.fields.map BV) .none),(55,true,Ak (a1.fields.length:Int)),(56,true,Ak g)]∧st=⟨B++([a0.cs,a1.cs,AX,[Ak a1.kind,Ak a1.int,Ak a1.scale,.val (.string a1.text),.list (a1.list.map Bv) .none,Ly i a.length],p]++Xk24),Rk24,L⟩∧Owns Rw Rk24 [] .none [(i,7,a.flatMap fun x=>(BV x).cells)]∧p.map AV.pubCell = .val (.string b.1)::(b.2.cs)∧GI n (Ed n a0 a1 a2 ml15) g a b=some r) ?_ ?_
  ·intro K25 H
   obtain ⟨q,Y,h⟩:=bind_some h
   refine rc 2 [2,3,6,7,11,12,13,54,55,56] hs ?_;intro K26 O
   refine As _ (GH w0 n _ _ _ a0 u.1 _ Y) (hv hs) ?_
   refine ne hs O ?_
   clear O
   refine rg [2,3,6,7,11,12,54,55,56,67] hs ?_
   refine BN h hs ?_ ?_<;>intro hs h
   ·obtain ⟨w,V,h⟩:=bind_some h
    have hs:=Ad (Vl.cs_eqs u.2) hs
    have hs:=Ad (Vl.cs_eqs w) hs
    refine rk 2 [2,3,6,7,11,54,55,56] hs ?_
    refine TZ _ (ha2 q.1.2.2.2.1 u.2 _ V _ _ px k.pre) (hv hs) ?_
    refine ne hs H ?_
    exact ⟨d,((u.1,w)),c,([.val (.string u.1),Ak w.kind,Ak w.int,Ak w.scale,.val (.string w.text),.list (w.list.map Bv) .none,.list (w.fields.map BV) .none]),([Ak q.1.1::(.val (.string q.1.2.1)::(Ak q.1.2.2.1::((q.1.2.2.2.1.cs)++([.list (q.1.2.2.2.2.map Bv) .none]))))]),Rl15,ef (cm hs),ef (cm hs),Owns.eqV (k) V5,ef (cm hs),h⟩
   refine sk [2,3,6,7,11,54,55,56] hs H ?_
   exact ⟨d,u,c,(.val (.string u.1)::(u.2.cs)),([Ak q.1.1::(.val (.string q.1.2.1)::(Ak q.1.2.2.1::((q.1.2.2.2.1.cs)++([.list (q.1.2.2.2.2.map Bv) .none]))))]),Rl15,ef (cm hs),ef (cm hs),Owns.eqV (k) V5,ef (cm hs),h⟩
  ·clear h;rintro e st ⟨a,b,i,p,Xk24,Rk24,rfl,rfl,k,aa,h⟩
   rw [GI] at h
   refine Of (B.length+4) (by first | rfl | (simp only [EZ,D3,HH,F5];rfl)) aa ?_;simp +decide only [go_sem,Nat.reduceAdd]
   show F3 _ _ _ _ _ _ _ _ [(2,true,.clo fa2 ca2),(3,true,.box B.length 0),(6,true,.box (B.length+2) 0),(7,true,.box (B.length+3) 0),(11,true,.box (B.length+4) 0),(54,true,.list (a1.fields.map BV) .none),(55,true,Ak (a1.fields.length:Int)),(56,true,Ak g)] ⟨B++([a0.cs,a1.cs,AX,[Ak a1.kind,Ak a1.int,Ak a1.scale,.val (.string a1.text),.list (a1.list.map Bv) .none,Ly i a.length],.val (.string b.1)::(b.2.cs)]++Xk24),Rk24,L⟩
   have y:=k.underV
   simp only [List.mem_cons,List.not_mem_nil,or_false,forall_eq_or_imp,forall_eq] at y
   refine AY hN G E rfl t k (Kq l k) (Kq l k) ?_ (vu @KN)
   obtain ⟨K,h⟩:=Au h
   obtain ⟨ab,F,k,D⟩:=k.appendV (P:=Tryz.prog) (n:=a.length) (m:=1) Nb (by rw [IB];rfl) (by decide) ((CZ (f:=BV) (sz:=7) (fun _=>by simp +decide only [go_sem]) _)) (by decide) K.1 K.2 [BV b] rfl ((a++[b]).flatMap fun x=>(BV x).cells) (by simp only [List.flatMap_append,List.flatMap_cons,List.flatMap_nil,List.append_nil,List.nil_append,X6])
   simp only [List.mem_singleton,forall_eq,Hg,G6,He,Hz,Ha,GK,Fh,Fa,G2,Eg,Eh,Fp,Fq,E9] at D
   have hs:=Ad D hs
   refine rl [2,3,6,7,54,55,56] hs N ?_
   clear N
   obtain ⟨ah,h⟩:=Au h
   refine rl [2,3,6,7,54,55,56] hs (fun e s=>Vl15 ml15 e s (Nat.lt_succ_self _)) ?_
   exact ⟨(g+1),(a++[b]),ab,([.val (.string b.1)::(b.2.cs)]),F,ef hs,ef hs,Owns.eqV (k) V5,h⟩
 ·clear h;rintro e st ⟨j,o,Xk7,Rk7,rfl,rfl,k,h⟩
  rw [Oe] at h
  have y:=k.underV
  simp only [List.mem_cons,List.not_mem_nil,or_false,forall_eq_or_imp,forall_eq] at y
  refine AY hN G E rfl t k (Kq l k) (Kq l k) ?_ (vu @KN)
  refine rg [6] hs ?_
  apply Df;simp +decide only [go_sem,Nat.reduceAdd,z,C]
  have hgt:=Option.some.inj h;subst hgt
  have y:=k.underV
  simp only [List.mem_cons,List.not_mem_nil,or_false,forall_eq_or_imp,forall_eq] at y
  refine Zai k t rfl (by (simp +decide only [go_sem,Nat.reduceAdd,z,C])<;>(try (repeat' apply Ad))<;>first | omega | assumption) (vu @KN) ⟨_,_,?_,rfl,k.sub (List.nil_sublist _)⟩
  first | rfl | (simp +decide only [go_sem,Nat.reduceAdd,z,C];done) | (simp +decide only [go_sem,Nat.reduceAdd,Vl.cs,Ty.cs,z,C];done)
def Dq (n:Nat) (q:List (ByteArray × Vl)) (y:ByteArray) (a2:(ByteArray × Vl)→ByteArray→Option Int) (b:Int):Option (Int × Bool) :=
 if decide (b<(q.length:Int)) then
  (B1 q b).bind fun g =>
  (a2 g y).bind fun h =>
  some ((b,decide (h=0)))
 else
  some ((b,false))
def Bt (n:Nat) (y:List (ByteArray × Vl)) (h:ByteArray) (q:(ByteArray × Vl)→ByteArray→Option Int):Nat→Int→Int→Option (Int × Bool)
 | 0,_,_=>none
 | m+1,g,b =>
  if decide (g<b) then
   if BM (g+b) then
    if 0≤(g+b)∧(g+b)≤18446744073709551615 then
     if 0≤(g+b) then
      if BM ((g+b) / 2) then
       (B1 y ((g+b) / 2)).bind fun x18 =>
       (q x18 h).bind fun y21 =>
       if decide (y21<0) then
        if BM (((g+b) / 2)+1) then
         (Bt n y h q m) (((g+b) / 2)+1) b
        else none
       else
        (Bt n y h q m) g ((g+b) / 2)
      else none
     else none
    else none
   else none
  else
   Dq n y h q g
def DJ (n:Nat) (b:List (ByteArray × Vl)) (g:ByteArray) (h:(ByteArray × Vl)→ByteArray→Option Int):Option (Int × Bool) :=
 Bt n b g h n 0 (b.length:Int)
theorem LE (w0:World) (n:Nat) (B:Am) (Rw:Aq) (L:Ar) (oa0:VO) (a0:List (ByteArray × Vl)) (hVa0:VP Rw oa0 7 (a0.flatMap fun x=>(BV x).cells)) (a1:ByteArray) (fa2:FuncId) (ca2:List AV) (a2:(ByteArray × Vl)→ByteArray→Option Int) (ha2:∀ (x0:ByteArray × Vl) (x1:ByteArray) r,a2 x0 x1=some r→∀ B' rows,B <+: B'→Rw <+: rows→ACalls Tryz.prog w0 fa2 ([.agg (.val (.string x0.1)::(x0.2.cs)),.val (.string x1)]++ca2) ⟨B',rows,L⟩ fun v s=>v=Ak r∧s=⟨B',rows,L⟩) (r:Int × Bool) (h:DJ n a0 a1 a2=some r) :
  ACalls Tryz.prog w0 138 [Ly oa0 a0.length,.val (.string a1),.clo fa2 ca2] ⟨B,Rw,L⟩ fun x st=>x = .tup [Ak r.1,.val (.bool r.2)]∧st=⟨B,Rw,L⟩:=by
 rw [DJ] at h
 refine hd [.tmp 6,.tmp 7] Tryz.func138 Tryz.ntmps138 fun M0 W0 G E q b hu k hs=>?_
 simp only [AG]
 have i:=CV (hu (.clo fa2 ca2) (by simp))
 refine rg [0,1,2] hs ?_
 apply An;intro K2 K
 have H:=(hVa0.up k).lenV (by decide:0<7) (CZ (f:=BV) (sz:=7) (fun _=>by simp +decide only [go_sem]) a0) Tryz.prog 32
 simp +decide only [go_sem] at H
 have hs:=Ad H hs
 refine rl [0,1,2,8] hs K ?_
 clear K
 refine rg [0,1,2,8,9,10] hs ?_
 refine AA (fun e st=>∃ (j:Int),Ck e st B Rw L [(0,true,Ly oa0 a0.length),(1,true,.val (.string a1)),(2,true,.clo fa2 ca2),(8,true,Ak (a0.length:Int)),(9,true,Ak j)] [] [] (Dq n a0 a1 a2 j=some r)) ?_ ?_
 ·intro K7 ad
  apply Ao
  refine AL (fun m e st=>∃ (d:Int) (g:Int),Ck e st B Rw L [(0,true,Ly oa0 a0.length),(1,true,.val (.string a1)),(2,true,.clo fa2 ca2),(8,true,Ak (a0.length:Int)),(9,true,Ak d),(10,true,Ak g)] [] [] (Bt n a0 a1 a2 m d g=some r)) n ⟨0,(a0.length:Int),([]),Rw,ef hs,ef hs,k,h⟩ ?_
  rintro ml8 e st ⟨d,g,Xl8,Rl8,rfl,rfl,k,h⟩ Ul8 Vl8
  cases ml8 with
  | zero=>cases h
  | succ ml8 =>
  rw [Bt] at h
  have c:=(hVa0.up k).under;(try simp only [L6] at c)
  refine AY G E q rfl b k (Kq i k) (Kq i k) ?_
  apply An;intro K9 J
  refine rg [0,1,2,8,9,10,17] hs ?_
  refine BN h hs ?_ ?_<;>intro hs h
  rotate_left
  ·refine sx [0,1,2,8,9] hs ad ?_
   exact ⟨d,([]),Rl8,ef hs,ef hs,k,h⟩
  refine sk [0,1,2,8,9,10] hs J ?_
  clear J
  apply Ao
  obtain ⟨am,h⟩:=Au h
  obtain ⟨ak,h⟩:=Au h
  obtain ⟨ap,h⟩:=Au h
  obtain ⟨ao,h⟩:=Au h
  refine rg [0,1,2,8,9,10,11] hs ?_
  apply An;intro K17 Q
  obtain ⟨au,O,h⟩:=bind_some h
  obtain ⟨af,aa,t⟩:=B9 O
  obtain ⟨aj,Y,hqx18,Z,y⟩:=(hVa0.up k).row (by rw [(CZ (f:=BV) (sz:=7) (fun _=>by simp +decide only [go_sem]) _)];exact Nat.mul_pos (by omega) (by decide))
  subst hqx18
  have p:=QE (f:=BV) (sz:=7) (fun _=>by simp +decide only [go_sem]) t
  have l:=Fo (f:=fun x=>(BV x).cells) 7 (fun _=>by simp +decide only [go_sem]) t
  have o:=CZ (f:=BV) (sz:=7) (fun _=>by simp +decide only [go_sem]) a0
  simp only [Hg,G6,He,Hz,Ha,GK,Fh,Fa,G2,Eg,Eh,Fp,Fq,E9,Ep] at p l y o
  obtain ⟨av,ai,h⟩:=bind_some h
  have hs:=Ad p hs
  have hs:=Ad l hs
  have hs:=Ad y hs
  have hs:=Ad o hs
  exact go (tg (a:=([0,1,2,8,9,10,11,31],([0,1,2,8,9,10],()),[0,1,2,8,9,10],()))) h hs G E q b k (q1 ha2) (q2 Q (fun e s=>Vl8 ml8 e s (Nat.lt_succ_self _)))
 ·clear h;rintro e st ⟨j,Xk6,Rk6,rfl,rfl,k,h⟩
  rw [Dq] at h
  have c:=(hVa0.up k).under;(try simp only [L6] at c)
  refine AY G E q rfl b k (Kq i k) (Kq i k) ?_
  apply An;intro K24 F
  rcases Bool.eq_false_or_eq_true (decide (j<(a0.length:Int))) with hf25 | hf25
  ·replace h:=CP h hf25
   obtain ⟨aq,N,h⟩:=bind_some h
   obtain ⟨V,ab,u⟩:=B9 N
   obtain ⟨ah,ae,hqx26,U,D⟩:=(hVa0.up k).row (by rw [(CZ (f:=BV) (sz:=7) (fun _=>by simp +decide only [go_sem]) _)];exact Nat.mul_pos (by omega) (by decide))
   subst hqx26
   have z:=QE (f:=BV) (sz:=7) (fun _=>by simp +decide only [go_sem]) u
   have C:=Fo (f:=fun x=>(BV x).cells) 7 (fun _=>by simp +decide only [go_sem]) u
   have w:=CZ (f:=BV) (sz:=7) (fun _=>by simp +decide only [go_sem]) a0
   simp only [Hg,G6,He,Hz,Ha,GK,Fh,Fa,G2,Eg,Eh,Fp,Fq,E9,Ep] at z C D w
   obtain ⟨ar,ag,h⟩:=bind_some h
   have hs:=Ad hf25 hs
   have hs:=Ad z hs
   have hs:=Ad C hs
   have hs:=Ad D hs
   have hs:=Ad w hs
   exact go (tg (a:=([6,7],()))) h hs G E q b k (q1 ha2) (q1 F)
  ·replace h:=CO h hf25
   exact go (tg (a:=([6,7],()))) h (Ad hf25 hs) G E q b k trivial (q1 F)
def EC (rec:Ty→Vl→Option Vl) (n:Nat) (g:Int→(List (ByteArray × Vl))→Option Vl) (b:Int) (b3_k28_5:List (ByteArray × Vl)):Option Vl :=
 if BM (b+1) then
  g (b+1) b3_k28_5
 else none
def KG (rec:Ty→Vl→Option Vl) (n:Nat) (b:Vl) (b3_k20_5:List (ByteArray × Vl)):Option Vl :=
 some (Vl.mk b.kind b.int b.scale b.text b.list b3_k20_5)
def BU (rec:Ty→Vl→Option Vl) (n:Nat) (y:Ty) (h:Vl):Nat→Int→(List (ByteArray × Vl))→Option Vl
 | 0,_,_=>none
 | m+1,b,b3_l23_5 =>
  if decide (b<(y.fields.length:Int)) then
   (B1 y.fields b).bind fun g =>
   if (!(decide (g.2.2.1=3)))||(!(decide ((g.2.2.2.2.length:Int)=1))) then
    EC rec n (BU rec n y h m) b b3_l23_5
   else
    (DJ n b3_l23_5 g.2.1 (fun (x0:ByteArray × Vl) (x1:ByteArray)=>some (GM x0 x1))).bind fun q =>
    if !q.2 then
     (B1 g.2.2.2.2 0).bind fun x39 =>
     if (0≤q.1∧q.1≤(b3_l23_5.length:Int))∧(b3_l23_5.length+1)*104≤140737488355328∧b3_l23_5.length+1≤4611686018427387904 then
      EC rec n (BU rec n y h m) b (N8 b3_l23_5 q.1 ((g.2.1,x39)))
     else none
    else
     EC rec n (BU rec n y h m) b b3_l23_5
  else
   KG rec n h b3_l23_5
def J9 (rec:Ty→Vl→Option Vl) (n:Nat) (h:Ty) (b:Vl):Option Vl :=
 if !(decide (b.kind=h.kind)) then
  some (b)
 else
  (IU n b).bind fun y7 =>
  if !y7 then
   some (b)
  else
   if decide (h.kind=9) then
    (MB n h b (fun (y:Ty) (q:Vl)=>rec y q)).bind fun g =>
    BU rec n h g n 0 g.fields
   else
    (N3 n h b (fun (y:Ty) (q:Vl)=>rec y q)).bind fun y48 =>
    some (y48)
def Dz:Nat→Ty→Vl→Option Vl
 | 0,_,_=>none
 | n+1,g,b=>J9 (Dz n) n g b
def Nj (w0:World) (F:Ty→Vl→Option Vl):Prop:=∀ (B:Am) (Rw:Aq) (L:Ar) (g:Ty) (b:Vl) (r:Vl),F g b=some r→ACalls Tryz.prog w0 55 [.agg (g.cs),.agg (b.cs)] ⟨B,Rw,L⟩ fun x st=>x = .agg (r.cs)∧st=⟨B,Rw,L⟩
theorem Tz (w0:World) (hT:Lib.Utf8Tabs 2 3 w0) (rec:Ty→Vl→Option Vl) (ih:Nj w0 rec) (n:Nat):Nj w0 (J9 rec n):=by
 intro B Rw L a0 a1 r h
 rw [J9] at h
 refine hd [.cell 4 34] Tryz.func55 Tryz.ntmps55 fun M0 W0 hN C u o hu q hs=>?_
 simp only [AG]
 refine rg [2,3,4] hs ?_
 apply An;intro K2 aj
 apply An;intro K3 O
 rcases Bool.eq_false_or_eq_true (!(decide (a1.kind=a0.kind))) with hf4 | hf4
 ·replace h:=CP h hf4
  exact go (tg (a:=([2,3,4,19],[4],()))) h (Ad hf4 hs) hN C u o q trivial (q1 O)
 ·replace h:=CO h hf4
  obtain ⟨y7,av,h⟩:=bind_some h
  have hs:=Ad hf4 hs
  refine rk 2 [2,3,4,19] hs ?_
  refine As _ (RP w0 hT n _ _ _ a1 _ av) (hv hs) ?_
  refine ne hs O ?_
  clear O
  refine BN h hs ?_ ?_<;>intro hs h
  ·have ab:=hs.1
   refine rg [4] hs ?_
   exact rt h hs o q
  have ab:=hs.1
  refine sk [2,3,4] hs aj ?_
  clear aj
  apply An;intro K10 w
  rcases Bool.eq_false_or_eq_true (decide (a0.kind=9)) with hf11 | hf11
  ·replace h:=CP h hf11
   obtain ⟨i,Z,h⟩:=bind_some h
   have hs:=Ad hf11 hs
   refine rk 2 [2,4,5] hs ?_
   refine BF _ (Yn w0 n _ _ _ a0 a1 55 [] (fun (x0:Ty) (x1:Vl)=>rec x0 x1) (fun x0 x1 r hx B' z ae af=>by exact ih _ _ _ x0 x1 _ hx) _ Z) (hv hs) ?_;rintro _ _ ⟨ap,Rv15,rfl,rfl,D⟩
   have q:=q.callV D
   refine ne hs w ?_
   clear w
   apply An;intro K16 H
   refine rg [2,4,5,26] hs ?_
   refine Di false ev (ef hs) (fun hb18=>by cases hb18) (fun hb18=>?_)
   refine sk [2,4,5] hs H ?_
   clear H
   refine AA (fun e st=>∃ (l:List (ByteArray × Vl)) (p:VO) (Xk20:Am) (Rk20:Aq),e=[(4,true,.box (B.length+2) 0),(5,true,.box (B.length+3) 0)]∧st=⟨B++([a0.cs,a1.cs,AX,[Ak i.kind,Ak i.int,Ak i.scale,.val (.string i.text),.list (i.list.map Bv) .none,Ly p l.length]]++Xk20),Rk20,L⟩∧Owns Rw Rk20 [] .none [(p,7,l.flatMap fun x=>(BV x).cells)]∧KG rec n i l=some r) ?_ ?_
   ·intro K21 ah
    refine rg [4,5,29,30,31] hs ?_
    apply Ao
    refine AL (fun m e st=>∃ (d:Int) (b:List (ByteArray × Vl)) (c:VO) (Xl23:Am) (Rl23:Aq),e=[(4,true,.box (B.length+2) 0),(5,true,.box (B.length+3) 0),(29,true,.list (a0.fields.map ET) .none),(30,true,Ak (a0.fields.length:Int)),(31,true,Ak d)]∧st=⟨B++([a0.cs,a1.cs,AX,[Ak i.kind,Ak i.int,Ak i.scale,.val (.string i.text),.list (i.list.map Bv) .none,Ly c b.length]]++Xl23),Rl23,L⟩∧Owns Rw Rl23 [] .none [(c,7,b.flatMap fun x=>(BV x).cells)]∧BU rec n a0 i m d b=some r) n ⟨0,i.fields,ap,([]),Rv15,ef hs,ef hs,Owns.eqV (q) V5,h⟩ ?_
    rintro ml23 e st ⟨d,b,c,Xl23,Rl23,rfl,rfl,q,h⟩ Ul23 Vl23
    cases ml23 with
    | zero=>cases h
    | succ ml23 =>
    rw [BU] at h
    have t:=q.underV
    simp only [List.mem_cons,List.not_mem_nil,or_false,forall_eq_or_imp,forall_eq] at t
    refine AY hN C u rfl o q ow ow ?_ (vu @KN)
    refine rg [4,5,29,30,31,32] hs ?_
    apply An;intro K25 G
    refine BN h hs ?_ ?_<;>intro hs h
    rotate_left
    ·refine sx [4,5] hs ah ?_
     exact ⟨b,c,([]),Rl23,ef hs,ef hs,Owns.eqV (q) V5,h⟩
    refine sk [4,5,29,30,31] hs G ?_
    clear G
    refine AA (fun e st=>∃ (g:List (ByteArray × Vl)) (k:VO) (Xk28:Am) (Rk28:Aq),e=[(4,true,.box (B.length+2) 0),(5,true,.box (B.length+3) 0),(29,true,.list (a0.fields.map ET) .none),(30,true,Ak (a0.fields.length:Int)),(31,true,Ak d)]∧st=⟨B++([a0.cs,a1.cs,AX,[Ak i.kind,Ak i.int,Ak i.scale,.val (.string i.text),.list (i.list.map Bv) .none,Ly k g.length]]++Xk28),Rk28,L⟩∧Owns Rw Rk28 [] .none [(k,7,g.flatMap fun x=>(BV x).cells)]∧EC rec n (BU rec n a0 i ml23) d g=some r) ?_ ?_
    ·intro K29 y
     apply Ao
     obtain ⟨j,ad,h⟩:=bind_some h
     obtain ⟨ar,ao,Q⟩:=B9 ad
     have K:=C5 (f:=ET) Q
     have hs:=Ad K hs
     refine rg [4,5,7,29,30,31] hs ?_
     apply An;intro K32 J
     refine rg [4,5,7,29,30,31,43] hs ?_
     refine BN h hs ?_ ?_<;>intro hs h
     ·refine sx [4,5,29,30,31] hs y ?_
      exact ⟨b,c,([Ak j.1::(.val (.string j.2.1)::(Ak j.2.2.1::((j.2.2.2.1.cs)++([.list (j.2.2.2.2.map Bv) .none]))))]),Rl23,ef hs,ef hs,Owns.eqV (q) V5,h⟩
     refine sk [4,5,7,29,30,31] hs J ?_
     clear J
     apply An;intro K35 F
     obtain ⟨aa,hy36,h⟩:=bind_some h
     refine T9 0 (by decide) ?_
     refine rk 2 [4,5,7,8,9,29,30,31] hs ?_
     refine ZaU [false,true,true] _ (LE w0 n _ _ _ c b q.vp j.2.1 139 [] (fun (x0:ByteArray × Vl) (x1:ByteArray)=>some (GM x0 x1)) (fun x0 x1 r hx B' z ae af=>by cases hx;exact RY w0 _ _ _ x0 x1) _ hy36) (hv hs) ?_
     refine ne hs F ?_
     clear F
     refine rg [4,5,7,8,29,30,31,53] hs ?_
     refine BN h hs ?_ ?_<;>intro hs h
     ·obtain ⟨ai,au,aq,v,h⟩:=ix Bv h
      have V:(j.2.2.2.2.map Bv).getD 0 .junk=_:=v
      obtain ⟨Y,h⟩:=Au h
      obtain ⟨ak,N,E,q,U⟩:=Wm w0 q aa.1 Y ((j.2.1,ai))
      refine T9 0 (by decide) ?_
      have hs:=Ad v hs
      have hs:=Ad V hs
      refine dj 11 1 2 [4,5,29,30,31] hs Oo ?_
      refine YC [false,true,true] _ (U _ _ _) (hv hs) ?_;rintro _ _ ⟨rfl,rfl⟩
      refine ne hs y ?_
      exact ⟨(N8 b aa.1 ((j.2.1,ai))),((.row ak N)),([Ak j.1::(.val (.string j.2.1)::(Ak j.2.2.1::((j.2.2.2.1.cs)++([.list (j.2.2.2.2.map Bv) .none]))))]),E,ef hs,ef hs,Owns.eqV (q) V5,h⟩
     refine sk [4,5,29,30,31] hs y ?_
     exact ⟨b,c,([Ak j.1::(.val (.string j.2.1)::(Ak j.2.2.1::((j.2.2.2.1.cs)++([.list (j.2.2.2.2.map Bv) .none]))))]),Rl23,ef hs,ef hs,Owns.eqV (q) V5,h⟩
    ·clear h;rintro e st ⟨g,k,Xk28,Rk28,rfl,rfl,q,h⟩
     rw [EC] at h
     have t:=q.underV
     simp only [List.mem_cons,List.not_mem_nil,or_false,forall_eq_or_imp,forall_eq] at t
     refine AY hN C u rfl o q ow ow ?_ (vu @KN)
     obtain ⟨aw,h⟩:=Au h
     refine rl [4,5,29,30,31] hs (fun e s=>Vl23 ml23 e s (Nat.lt_succ_self _)) ?_
     exact ⟨(d+1),g,k,([]),Rk28,ef hs,ef hs,Owns.eqV (q) V5,h⟩
   ·clear h;rintro e st ⟨l,p,Xk20,Rk20,rfl,rfl,q,h⟩
    rw [KG] at h
    have t:=q.underV
    simp only [List.mem_cons,List.not_mem_nil,or_false,forall_eq_or_imp,forall_eq] at t
    refine AY hN C u rfl o q ow ow ?_ (vu @KN)
    refine rg [4] hs ?_
    refine JQ (B.length+2) 5 (by first | rfl | (simp only [EZ,D3];rfl) | (simp +decide only [go_sem,Nat.reduceAdd,hf4,ab,hf11])) (by first | rfl | (simp only [Q4,List.length_set];rfl)) q true (.inl rfl) (by decide) ((CZ (f:=BV) (sz:=7) (fun _=>by simp +decide only [go_sem]) _)) (Q7 (f:=BV) 7 (fun _=>rfl) (fun _=>by simp +decide only [go_sem]) _) (fun am q=>?_)
    simp +decide only [go_sem,Nat.reduceAdd,List.set_cons_zero,List.set_cons_succ]
    exact rt h hs o q
  ·replace h:=CO h hf11
   obtain ⟨ax,ag,h⟩:=bind_some h
   have hs:=Ad hf11 hs
   refine rk 2 [2,4,5] hs ?_
   refine As _ (Zar w0 n _ _ _ a0 a1 55 [] (fun (x0:Ty) (x1:Vl)=>rec x0 x1) (fun x0 x1 r hx B' z ae af=>by exact ih _ _ _ x0 x1 _ hx) _ ag) (hv hs) ?_
   exact go (tg (a:=([2,4,5,26],[4],()))) h hs hN C u o q trivial (q1 w)
theorem P2 (w0:World) (hT:Lib.Utf8Tabs 2 3 w0):∀ n:Nat,Nj w0 (Dz n)
 | 0=>fun _ _ _ _ _ _ h=>(nomatch h)
 | n+1=>Tz w0 hT (Dz n) (P2 w0 hT n) n
end Go.Proofs.YtmcnjijeocmkgaaGreatDoor
namespace Go.Ev
open Go Go.RowKit
theorem TW {i j:Nat} (h:i≠j):∀ (B:Am) (a b:List AV),(B.set i a).set j b=(B.set j b).set i a:=fun B a b=>List.set_comm _ _ h
theorem Ls (i:Nat):∀ (B:Am) (a b:List AV),(B.set i a).set i b=B.set i b:=fun B a b=>List.set_set a
theorem NJ {B:List (List AV)} {l:Nat} {cs:List AV} (h:B[l]? = some cs) (i j:Nat):∀ (X:Am) (a b c:List AV),((B.set i a).set j b++X).set l c=((B.set i a).set j b).set l c++X:=fun X a b c=>List.set_append_left _ _ (by rw [List.length_set,List.length_set];exact (Aj.1 h).1)
theorem ZG {B:List (List AV)} {l j:Nat} {cs:List AV} (h:B[l]? = some cs) (hne:j≠l) :
  (∀ a b X R L o,Et ⟨(B.set l a).set j b++X,R,L⟩ (.box l o)=true)∧(∀ a b R L o,Et ⟨(B.set l a).set j b,R,L⟩ (.box l o)=true)∧(∀ a b X R L o,BK ⟨(B.set l a).set j b++X,R,L⟩ (.box l o)=a)∧(∀ a b R L o,BK ⟨(B.set l a).set j b,R,L⟩ (.box l o)=a) ∧
  (∀ a b X,((B.set l a).set j b++X)[l]? = some a)∧(∀ a b,((B.set l a).set j b)[l]? = some a)∧(∀ a b X,((B.set l a).set j b++X).getD l []=a)∧(∀ a b,((B.set l a).set j b).getD l []=a):=by
 have c:∀ a,(B.set l a)[l]? = some a:=fun a=>List.getElem?_set_self (Aj.1 h).1
 exact ⟨fun a b X R L o=>(DL (c a) hne).1 X R L o b,fun a b R L o=>(DL (c a) hne).2.1 R L o b,fun a b X R L o=>(DL (c a) hne).2.2.1 X R L o b,fun a b R L o=>(DL (c a) hne).2.2.2.1 R L o b,
  fun a b X=>(DL (c a) hne).2.2.2.2.1 X b,fun a b=>(DL (c a) hne).2.2.2.2.2.1 b,fun a b X=>(DL (c a) hne).2.2.2.2.2.2.1 X b,fun a b=>(DL (c a) hne).2.2.2.2.2.2.2 b⟩
theorem V8 {B:List (List AV)} {l i:Nat} {cs:List AV} (h:B[l]? = some cs) (hne:i≠l) :
  (∀ a b X R L o,Et ⟨(B.set i a).set l b++X,R,L⟩ (.box l o)=true)∧(∀ a b R L o,Et ⟨(B.set i a).set l b,R,L⟩ (.box l o)=true)∧(∀ a b X R L o,BK ⟨(B.set i a).set l b++X,R,L⟩ (.box l o)=b)∧(∀ a b R L o,BK ⟨(B.set i a).set l b,R,L⟩ (.box l o)=b) ∧
  (∀ a b X,((B.set i a).set l b++X)[l]? = some b)∧(∀ a b,((B.set i a).set l b)[l]? = some b)∧(∀ a b X,((B.set i a).set l b++X).getD l []=b)∧(∀ a b,((B.set i a).set l b).getD l []=b):=by
 have c:∀ a b,((B.set i a).set l b)[l]? = some b:=fun a b=>List.getElem?_set_self (by rw [List.length_set];exact (Aj.1 h).1)
 exact ⟨fun a b X R L o=>(Aw (c a b)).1 X R L o,fun a b R L o=>(Aw (c a b)).2.1 R L o,fun a b X R L o=>(Aw (c a b)).2.2.1 X R L o,fun a b R L o=>(Aw (c a b)).2.2.2.1 R L o,
  fun a b X=>(Aw (c a b)).2.2.2.2.1 X,c,fun a b X=>(Aw (c a b)).2.2.2.2.2.2.1 X,fun a b=>(Aw (c a b)).2.2.2.2.2.2.2.1⟩
theorem ZbD (B:Am) (i j:Nat) (c d:List AV):((B.set i c).set j d).length=B.length:=by simp only [List.length_set]
@[go_sem] theorem ZkD (B X:Am) (R:Aq) (L:Ar) (i j k o:Nat) (c d:List AV):Et ⟨(B.set i c).set j d++X,R,L⟩ (.box (B.length+k) o)=decide (k<X.length):=by have h:=Zev ((B.set i c).set j d) X R L k o;rwa [ZbD] at h
@[go_sem] theorem Zkc (B X:Am) (R:Aq) (L:Ar) (i j o:Nat) (c d:List AV):Et ⟨(B.set i c).set j d++X,R,L⟩ (.box B.length o)=decide (0<X.length):=by have h:=Zc0 ((B.set i c).set j d) X R L o;rwa [ZbD] at h
@[go_sem] theorem ZgZ (B X:Am) (i j k:Nat) (c d:List AV):((B.set i c).set j d++X).getD (B.length+k) []=X.getD k []:=by have h:=Y6 (B.set i c) X j k d;rwa [List.length_set] at h
@[go_sem] theorem ZeY (B X:Am) (i j:Nat) (c d:List AV):((B.set i c).set j d++X).getD B.length []=X.getD 0 []:=by have h:=Wq (B.set i c) X j d;rwa [List.length_set] at h
@[go_sem] theorem ZjG (B X:Am) (R:Aq) (L:Ar) (i j k o:Nat) (c d:List AV):BK ⟨(B.set i c).set j d++X,R,L⟩ (.box (B.length+k) o)=X.getD k []:=ZgZ B X i j k c d
@[go_sem] theorem Zi4 (B X:Am) (R:Aq) (L:Ar) (i j o:Nat) (c d:List AV):BK ⟨(B.set i c).set j d++X,R,L⟩ (.box B.length o)=X.getD 0 []:=ZeY B X i j c d
@[go_sem] theorem ZlC (B X:Am) (i j k:Nat) (c d x:List AV):((B.set i c).set j d++X).set (B.length+k) x=(B.set i c).set j d++X.set k x:=by have h:=ZfO (B.set i c) X j k d x;rwa [List.length_set] at h
theorem ZhX {P:Program} {w0:World} {n:Nat} {M0:Mem} {W0:World} {ro:Option Nat} {c:Code} {Q:AQ} {e:Env} {B B' X:List (List AV)} {R:List RowA} {L:List LoopA} (h:B'=B) (k:F3 P w0 n M0 W0 ro c Q e ⟨B'++X,R,L⟩):F3 P w0 n M0 W0 ro c Q e ⟨B++X,R,L⟩:=h▸k
theorem JE {P:Program} {w0:World} {st:St} {d:Bool} {fv:AV} {args:List AV} {k:AV→St→Prop} (h:k (.val (.bool false)) st):LH P w0 false d fv args st k := .inl ⟨.val (.bool false),fun q=>(nomatch q),h⟩
end Go.Ev
namespace Go.Proofs.YtmcnjijeocmkgaaGreatDoor
open Go Go.RowKit Go.Ev
def O5 (g:ByteArray × Int) (b:Bool):Option (Bool × Bool) :=
 some ((false,false))
theorem Ys (w0:World) (B:Am) (Rw:Aq) (L:Ar) (a0:ByteArray × Int) (la1:Nat) (a1:Bool) (hla1:B[la1]? = some ([.val (.bool a1)])) (r:Bool × Bool) (h:O5 a0 a1=some r) :
  ACalls Tryz.prog w0 53 [.agg (.val (.string a0.1)::([Ak a0.2])),.box la1 0] ⟨B,Rw,L⟩ fun x st=>x = .val (.bool r.1)∧st=⟨(B.set la1 [.val (.bool r.2)]),Rw,L⟩:=by
 rw [O5] at h
 refine hd [.tmp 3] Tryz.func53 Tryz.ntmps53 fun M0 W0 f e d b i g hs=>?_
 simp only [AG]
 have c:=(Aj.1 hla1).1
 have hs:=Ad (Aw hla1) hs
 exact go (tg (a:=([1],[],[3],()))) h hs f e d b g trivial trivial
def BI (a0_done:Bool) (x0_ok:Bool) (g:ByteArray) (h:Int):Option (Bool × Bool) :=
 if !a0_done then
  (O5 ((g,h)) x0_ok).bind fun b =>
  if !b.1 then
   some ((true,b.2))
  else
   some ((a0_done,b.2))
 else
  some ((a0_done,x0_ok))
theorem C0 (w0:World) (B:Am) (Rw:Aq) (L:Ar) (lx0_ok:Nat) (la0:Nat) (a0_done:Bool) (hla0:B[la0]? = some ([.clo 53 [.box lx0_ok 0],.val (.bool a0_done)])) (x0_ok:Bool) (hlx0_ok:B[lx0_ok]? = some ([.val (.bool x0_ok)])) (hne_lx0_ok_la0:lx0_ok≠la0) (a1:ByteArray) (a2:Int) (r:Bool × Bool) (h:BI a0_done x0_ok a1 a2=some r) :
  ACalls Tryz.prog w0 130 [.box la0 0,.val (.string a1),Ak a2] ⟨B,Rw,L⟩ fun x st=>x = .tup []∧st=⟨((B.set la0 ([.clo 53 [.box lx0_ok 0],.val (.bool r.1)])).set lx0_ok [.val (.bool r.2)]),Rw,L⟩:=by
 rw [BI] at h
 refine hd [] Tryz.func130 Tryz.ntmps130 fun M0 W0 m k j a n f hs=>?_
 simp only [AG]
 have g:=(Aj.1 hla0).1
 have e:=(Aj.1 hlx0_ok).1
 have b:=Ad (Aw hla0) (Ad (Aw hlx0_ok) (Ad (DL hla0 hne_lx0_ok_la0) (Ad (DL hlx0_ok (Ne.symm hne_lx0_ok_la0)) (Ad (TW hne_lx0_ok_la0) (Ad (NC hla0 lx0_ok) (Ad (NC hlx0_ok la0) (Ad (NJ hla0 la0 lx0_ok) (Ad (NJ hlx0_ok la0 lx0_ok) (Ad (Ls lx0_ok) (Ad (Ls la0) (Ad (ZG hla0 hne_lx0_ok_la0) (V8 hlx0_ok (Ne.symm hne_lx0_ok_la0)))))))))))))
 apply An;intro K1 d
 rcases Bool.eq_false_or_eq_true (!a0_done) with hf2 | hf2
 ·replace h:=CP h hf2
  obtain ⟨l,i,h⟩:=bind_some h
  have hs:=Ad b hs
  have hs:=Ad hf2 hs
  refine rk 2 [0,21] hs ?_
  refine BF _ (Ys w0 _ _ _ ((a1,a2)) lx0_ok x0_ok (ef hs) _ i) (hv hs) ?_;rintro _ _ ⟨rfl,rfl⟩
  refine ne hs d ?_
  clear d
  refine BN h hs ?_ ?_<;>intro hs h
  ·have c:=hs.1
   apply Ax 1 []
   rw [Ap];simp +decide only [go_sem,Nat.reduceAdd,b,hf2,c]
   (repeat' with_reducible apply Ad)<;>first | exact cl | skip
   have hgt:=Option.some.inj h;subst hgt
   first | refine E8 (Az (Az a ow) ow) Lj f.pre ev ⟨?_,by first | rfl | (simp only [AB hla0,AB hlx0_ok];done)⟩ | refine HD (Az (Az a ow) ow) Lj f.pre ev ⟨?_,by first | rfl | (simp only [AB hla0,AB hlx0_ok];done)⟩
   first | rfl | (simp +decide only [go_sem,Nat.reduceAdd,b,hf2,c];done) | (simp +decide only [go_sem,Nat.reduceAdd,Vl.cs,Ty.cs,b,hf2,c];done)
  have c:=hs.1
  refine Jf (EY [] _) ?_ (Dx _ _)
  apply Dj;simp +decide only [go_sem,Nat.reduceAdd]
  (repeat' with_reducible apply Ad)<;>first | exact cl | skip
  have hgt:=Option.some.inj h;subst hgt
  first | refine E8 (Az a ow) Lj f.pre ev ⟨?_,by first | rfl | (simp only [AB hla0,AB hlx0_ok];done)⟩ | refine HD (Az a ow) Lj f.pre ev ⟨?_,by first | rfl | (simp only [AB hla0,AB hlx0_ok];done)⟩
  first | rfl | (simp +decide only [go_sem,Nat.reduceAdd,b,hf2,c];done) | (simp +decide only [go_sem,Nat.reduceAdd,Vl.cs,Ty.cs,b,hf2,c];done)
 ·replace h:=CO h hf2
  have hs:=Ad b hs
  have hs:=Ad hf2 hs
  refine rk 2 [0,21] hs ?_
  refine Xr ?_
  refine ne hs d ?_
  clear d
  refine Di false ev (ef hs) (fun hb5=>by cases hb5) (fun hb5=>?_)
  refine Jf (EY [] _) ?_ (Dx _ _)
  apply Dj;simp +decide only [go_sem,Nat.reduceAdd]
  (repeat' with_reducible apply Ad)<;>first | exact cl | skip
  have hgt:=Option.some.inj h;subst hgt
  first | refine E8 a rfl f.pre ev ⟨?_,by first | rfl | (simp only [AB hla0,AB hlx0_ok];done)⟩ | refine HD a rfl f.pre ev ⟨?_,by first | rfl | (simp only [AB hla0,AB hlx0_ok];done)⟩
  first | rfl | (simp +decide only [go_sem,Nat.reduceAdd,b,hf2];done) | (simp +decide only [go_sem,Nat.reduceAdd,Vl.cs,Ty.cs,b,hf2];done)
def B5 (a0_done:Bool) (x0_ok:Bool) (b:Ty) (q:ByteArray) (h:Int):Option (Bool × Bool) :=
 if (decide (h<b.min))||(decide (b.max<h)) then
  (BI a0_done x0_ok q 2).bind fun g =>
  some ((g.1,g.2))
 else
  some ((a0_done,x0_ok))
theorem FU (w0:World) (B:Am) (Rw:Aq) (L:Ar) (lx0_ok:Nat) (la0:Nat) (a0_done:Bool) (hla0:B[la0]? = some ([.clo 53 [.box lx0_ok 0],.val (.bool a0_done)])) (x0_ok:Bool) (hlx0_ok:B[lx0_ok]? = some ([.val (.bool x0_ok)])) (hne_lx0_ok_la0:lx0_ok≠la0) (a1:Ty) (a2:ByteArray) (a3:Int) (r:Bool × Bool) (h:B5 a0_done x0_ok a1 a2 a3=some r) :
  ACalls Tryz.prog w0 132 [.box la0 0,.agg (a1.cs),.val (.string a2),Ak a3] ⟨B,Rw,L⟩ fun x st=>x = .tup []∧st=⟨((B.set la0 ([.clo 53 [.box lx0_ok 0],.val (.bool r.1)])).set lx0_ok [.val (.bool r.2)]),Rw,L⟩:=by
 rw [B5] at h
 refine hd [] Tryz.func132 Tryz.ntmps132 fun M0 W0 l j i a m f hs=>?_
 simp only [AG]
 have e:=(Aj.1 hla0).1
 have d:=(Aj.1 hlx0_ok).1
 have c:=Ad (Aw hla0) (Ad (Aw hlx0_ok) (Ad (DL hla0 hne_lx0_ok_la0) (Ad (DL hlx0_ok (Ne.symm hne_lx0_ok_la0)) (Ad (TW hne_lx0_ok_la0) (Ad (NC hla0 lx0_ok) (Ad (NC hlx0_ok la0) (Ad (NJ hla0 la0 lx0_ok) (Ad (NJ hlx0_ok la0 lx0_ok) (Ad (Ls lx0_ok) (Ad (Ls la0) (Ad (ZG hla0 hne_lx0_ok_la0) (V8 hlx0_ok (Ne.symm hne_lx0_ok_la0)))))))))))))
 have hs:=Ad c hs
 refine rg [0,2,3,5] hs ?_
 refine rg [0,2,17] hs ?_
 refine BN h hs ?_ ?_<;>intro hs h
 ·have b:=hs.1
  obtain ⟨k,g,h⟩:=bind_some h
  apply Ax 2 []
  rw [Ap];simp +decide only [go_sem,Nat.reduceAdd,c,b]
  (repeat' apply Ad)<;>first | (refine BF _ (C0 w0 _ _ _ lx0_ok la0 a0_done (ef hs) x0_ok (ef hs) nq a2 2 _ g) (hv hs) ?_;rintro _ _ ⟨rfl,rfl⟩) | exact cl
  rw [Ap];simp +decide only [go_sem,Nat.reduceAdd,c,b]
  (repeat' with_reducible apply Ad)<;>first | exact cl | skip
  have hgt:=Option.some.inj h;subst hgt
  first | refine E8 (Az (Az a ow) ow) Lj f.pre ev ⟨?_,by first | rfl | (simp only [AB hla0,AB hlx0_ok];done)⟩ | refine HD (Az (Az a ow) ow) Lj f.pre ev ⟨?_,by first | rfl | (simp only [AB hla0,AB hlx0_ok];done)⟩
  first | rfl | (simp +decide only [go_sem,Nat.reduceAdd,c,b];done) | (simp +decide only [go_sem,Nat.reduceAdd,Vl.cs,Ty.cs,c,b];done)
 have b:=hs.1
 refine Jf (EY [] _) ?_ (Dx _ _)
 apply Dj;simp +decide only [go_sem,Nat.reduceAdd]
 (repeat' with_reducible apply Ad)<;>first | exact cl | skip
 have hgt:=Option.some.inj h;subst hgt
 first | refine E8 a rfl f.pre ev ⟨?_,by first | rfl | (simp only [AB hla0,AB hlx0_ok];done)⟩ | refine HD a rfl f.pre ev ⟨?_,by first | rfl | (simp only [AB hla0,AB hlx0_ok];done)⟩
 first | rfl | (simp +decide only [go_sem,Nat.reduceAdd,c,b];done) | (simp +decide only [go_sem,Nat.reduceAdd,Vl.cs,Ty.cs,c,b];done)
def Ib (b:ByteArray) (g:ByteArray):Option ByteArray :=
 if Eb b (⟨#[]⟩:ByteArray) then
  some (g)
 else
  if b.size+((⟨#[46]⟩:ByteArray)).size≤9223372036854775807 then
   if (b++((⟨#[46]⟩:ByteArray))).size+g.size≤9223372036854775807 then
    some ((b++((⟨#[46]⟩:ByteArray)))++g)
   else none
  else none
theorem O6 (w0:World) (B:Am) (Rw:Aq) (L:Ar) (a0:ByteArray) (a1:ByteArray) (r:ByteArray) (h:Ib a0 a1=some r) :
  ACalls Tryz.prog w0 208 [.val (.string a0),.val (.string a1)] ⟨B,Rw,L⟩ fun x st=>x = .val (.string r)∧st=⟨B,Rw,L⟩:=by
 rw [Ib] at h
 refine hd [.tmp 4] Tryz.func208 Tryz.ntmps208 fun M0 W0 k j i a l g hs=>?_
 simp only [AG]
 refine rg [0,1] hs ?_
 apply An;intro K2 d
 refine rg [0,1,6] hs ?_
 refine BN h hs ?_ ?_<;>intro hs h
 ·refine rg [4] hs ?_
  exact rt h hs a g
 refine sk [0,1] hs d ?_
 clear d
 obtain ⟨f,h⟩:=Au h
 have b:=f
 try simp +decide only [go_sem] at b
 obtain ⟨e,h⟩:=Au h
 have c:=e
 try simp +decide only [go_sem] at c
 refine rg [4] hs ?_
 exact rt h hs a g
end Go.Proofs.YtmcnjijeocmkgaaGreatDoor
