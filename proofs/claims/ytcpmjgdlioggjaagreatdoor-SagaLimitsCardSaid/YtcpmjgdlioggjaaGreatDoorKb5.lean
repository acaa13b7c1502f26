/-
  Part 5 of the proof: rules and walks that the claim's last text uses.
-/
import Derived.Deep.LoopGhost
import Derived.Deep.RegionLaw
import Derived.Lib.RowBridge
import Derived.Lib.SliceRun
import Derived.Lib.Walk
import Derived.Shelf.RegionOpenPlain
import Derived.Shelf.SlBodiesN
import Derived.Shelf.Slices.CompactS
import Derived.Shelf.Slices.In.SortNone
import Derived.Shelf.Sort.Plain
import Derived.WalkKit
import Derived.Test.YtcpmjgdlioggjaaGreatDoorKb1
import Derived.Test.YtcpmjgdlioggjaaGreatDoorKb2
import Derived.Test.YtcpmjgdlioggjaaGreatDoorKb3
import Derived.Test.YtcpmjgdlioggjaaGreatDoorKb4
set_option linter.unusedSimpArgs false
set_option linter.unusedVariables false
set_option maxRecDepth 100000
set_option maxHeartbeats 4000000
namespace Go.Ev
open Go Go.RowKit Go.Shelf Go.Lib Go.Proofs
structure DelLay (P:Program) (ρ:Ren) (nm:String) (sz bytes:Nat) (z:Value):Prop where
 mixed:P.follows .mixedOrders=true
 nmo:(nm == "runtime.NumGoroutine")=false
 f45:P.funcs[ρ.f 45]? = some { SlBodyN.n45 ρ with name:=nm }
 t0:P.underlying (ρ.t 0)=some (TypeDesc.tuple #[])
 a0:∀ w,(isAgg (ρ.t 0)).run P w = .ok false w
 z0:∀ w,(Go.sizeOf (ρ.t 0)).run P w = .ok 1 w
 v0:∀ w,(zeroValue (ρ.t 0)).run P w = .ok (Value.tuple #[]) w
 t3:P.underlying (ρ.t 3)=some (TypeDesc.int IntKind.i64)
 a3:∀ w,(isAgg (ρ.t 3)).run P w = .ok false w
 z3:∀ w,(Go.sizeOf (ρ.t 3)).run P w = .ok 1 w
 v3:∀ w,(zeroValue (ρ.t 3)).run P w = .ok (Value.int IntKind.i64 0) w
 t4:P.underlying (ρ.t 4)=some (TypeDesc.bool)
 a4:∀ w,(isAgg (ρ.t 4)).run P w = .ok false w
 z4:∀ w,(Go.sizeOf (ρ.t 4)).run P w = .ok 1 w
 v4:∀ w,(zeroValue (ρ.t 4)).run P w = .ok (Value.bool false) w
 t22:P.underlying (ρ.t 22)=some (TypeDesc.slice (ρ.t 23))
 a22:∀ w,(isAgg (ρ.t 22)).run P w = .ok false w
 z22:∀ w,(Go.sizeOf (ρ.t 22)).run P w = .ok 1 w
 v22:∀ w,(zeroValue (ρ.t 22)).run P w = .ok (Value.slice none 0 0) w
 z23:∀ w,(Go.sizeOf (ρ.t 23)).run P w = .ok sz w
 v23:∀ w,(zeroValue (ρ.t 23)).run P w = .ok z w
 i23:(P.info? (ρ.t 23)).map (fun i=>(i.zero,i.size,i.bytes))=some (some z,sz,bytes)
section
variable {P:Program} {ρ:Ren} {nm:String} {sz bytes:Nat} {z:Value}
theorem VT (w:World) (t e ty:TypeId) (ht:P.underlying t=some (.slice e)) (hv:∀ w,(zeroValue e).run P w = .ok z w) (b o n c:Nat) (zs:List Value) (hzs:(Builtin.zeroCells z.cells n).toList=zs) (h1:∀ v∈zs,v.oneCell'=true) (hn:0<n)
  (hc:∀ j,j<zs.length->(w.cell? ⟨b,o+j,none⟩).isSome=true) (hf:∀ j,j<zs.length->w.frozen? ⟨b,o+j,none⟩=false) :
  (Builtin.clear_ #[t] ty #[.slice (some ⟨b,o,none⟩) n c]).run P w = .ok (.tuple #[]) (w.setCells b o zs):=by
 have a:=run_storeCells_cells (P:=P) b o zs 0 w (by simpa using hc) (by simpa using hf) h1
 simp only [Nat.add_zero] at a
 obtain ⟨m,rfl⟩:∃ m,n=m+1:=⟨n-1,by omega⟩
 simp [Builtin.clear_,run_underlying ht,hv,hzs,a]
set_option maxRecDepth 1000000 in
theorem Zv (L:DelLay P ρ nm sz bytes z) (b off n c i j:Nat) (cs zs:List Value) (w:World) (hij:i<j) (hj:j<=n) (hnc:n<=c) (hc63:c<=9223372036854775807)
  (hcl:cs.length=n*sz) (hcs:∀ k v,cs[k]? = some v->w.cell? ⟨b,off+k,none⟩=some v) (hfz:∀ k,w.frozen? ⟨b,k,none⟩=false) (h1c:∀ v∈cs,v.oneCell'=true)
  (hzs:(Builtin.zeroCells z.cells (n-(i+(n-j)))).toList=zs) (hzl:zs.length=(j-i)*sz) (h1z:∀ v∈zs,v.oneCell'=true) :
  Calls P (ρ.f 45) #[.slice (some ⟨b,off,none⟩) n c,.int .i64 i,.int .i64 j] w fun e w' =>
   e = .returned (.slice (some ⟨b,off,none⟩) (i+(n-j)) c)/\w'=(w.drew.setCells b (off+i*sz) (cs.drop (j*sz))).setCells b (off+(i+(n-j))*sz) zs:=by
 have t0:=L.t0;have a0:=L.a0;have z0:=L.z0;have v0:=L.v0;have t3:=L.t3;have a3:=L.a3;have z3:=L.z3;have v3:=L.v3;have t4:=L.t4;have a4:=L.a4;have z4:=L.z4;have v4:=L.v4;have t22:=L.t22;have a22:=L.a22;have z22:=L.z22;have v22:=L.v22;have z23:=L.z23;have v23:=L.v23
 have u0:=run_underlying L.t0;have u3:=run_underlying L.t3;have u4:=run_underlying L.t4;have u22:=run_underlying L.t22
 have mixed:=L.mixed
 obtain ⟨i0,hi0,hz0,hz1,hz2⟩:=info_parts L.i23
 have e1:j*sz+(n-j)*sz=n*sz:=by rw [<-Nat.add_mul];congr 1;omega
 have e2:i*sz+(j-i)*sz=j*sz:=by rw [<-Nat.add_mul];congr 1;omega
 have e3:(i+(n-j))*sz=i*sz+(n-j)*sz:=Nat.add_mul ..
 have e4:n-(i+(n-j))=j-i:=by omega
 obtain ⟨news,hnews⟩:∃ news,news=cs.drop (j*sz):=⟨_,rfl⟩
 have hlen:news.length=(n-j)*sz:=by rw [hnews,List.length_drop,hcl];omega
 obtain ⟨A,hA,hsrc⟩:∃ A:Addr,(if c=j then some (⟨b,off,none⟩:Addr) else some ⟨b,off+j*sz,none⟩)=some A/\Hid (∀ t u,news[t]? = some u->w.drew.cell? (A.add t)=some u):=by
  by_cases h:c=j
  ·refine ⟨⟨b,off,none⟩,by simp [h],fun t u hu=>?_⟩
   have h0:news.length=0:=by rw [hlen,show n-j=0 by omega,Nat.zero_mul]
   rw [List.length_eq_zero_iff.1 h0] at hu
   simp at hu
  ·refine ⟨⟨b,off+j*sz,none⟩,by simp [h],fun t u hu=>?_⟩
   rw [hnews,List.getElem?_drop] at hu
   rw [Addr.add_lit,Nat.add_assoc]
   exact hcs _ _ hu
 have some_:∀ k,k<n*sz->(w.cell? ⟨b,off+k,none⟩).isSome=true:=fun k hk=>by
  rw [hcs k _ (List.getElem?_eq_getElem (by omega))];rfl
 have s1:Hid (news.length=(n-j)*sz):=hlen
 have s2:Hid (∀ u∈news,u.oneCell'=true):=fun u hu=>h1c u (by rw [hnews] at hu;exact List.mem_of_mem_drop hu)
 have s3:Hid (∀ t,t<news.length->(w.drew.cell? ⟨b,off+i*sz+t,none⟩).isSome=true/\w.drew.frozen? ⟨b,off+i*sz+t,none⟩=false):=by
  intro t ht
  rw [hlen] at ht
  rw [Nat.add_assoc]
  exact ⟨some_ _ (by omega),hfz _⟩
 obtain ⟨W1,hW1⟩:∃ W1,W1=w.drew.setCells b (off+i*sz) news:=⟨_,rfl⟩
 have some1:∀ k,k<n*sz->(W1.cell? ⟨b,off+k,none⟩).isSome=true:=fun k hk=>by
  rw [hW1]
  exact isSome_setCells b _ _ _ (fun t ht=>by rw [Nat.add_assoc];exact some_ _ (by omega)) _ (some_ k hk)
 have hcl:∀ ty,(Builtin.clear_ #[ρ.t 22] ty #[.slice (some ⟨b,off+(i+(n-j))*sz,none⟩) (n-(i+(n-j))) (c-(i+(n-j)))]).run P W1 = .ok (.tuple #[]) (W1.setCells b (off+(i+(n-j))*sz) zs) :=
  fun ty=>VT W1 _ _ ty t22 v23 b _ _ _ zs hzs h1z (by omega) (fun t ht=>by rw [Nat.add_assoc];exact some1 _ (by omega)) (fun t ht=>by rw [hW1,World.frozen?_setCells];exact hfz _)
 have hW:Hid (W1=w.drew.setCells b (off+i*sz) news):=hW1
 have hN:Aside (news=cs.drop (j*sz)):=hnews
 have hic:i<=c:=by omega
 have hjc:j<=c:=by omega
 have hijn:i<=n:=by omega
 clear hW1 hcs hnews hlen some_ some1 e1 e2 e3 e4 hzs hzl h1z h1c hfz
 have FG:=L.f45
 go_enter FG,SlBodyN.n45_ntmps ρ
 go_wp2_with fail
 go_region_law_o (refine step_append_room rfl (.tmp 22) (.tmp 25) (ρ.t 22) rfl (ρ.t 23) i0 sz t22 hi0 hz1 b off i c (by simp [Act.eval,Act.put]) A (n-j) (c-j) news (by simp [Act.eval,Act.put]) s1.out hsrc.out s2.out (by omega) s3.out ?_;rw [<-hW.out])
 go_wp2
 go_ret
 refine ⟨rfl,?_⟩
 rw [hW.out,hN.out]
end
theorem Zi1 {T rest:List Value} {cs:List AV} {a b N:Nat} {Rl:Value->AV->Prop} (hab:a<=b) (hbN:b<=N) (hN:N<=T.length) (hc:cs.length=N) (h:∀ (j:Nat) (v:Value) (x:AV),T[j]? = some v->cs[j]? = some x->Rl v x) (k:Nat) (v:Value) (x:AV)
  (h1:(T.take a++(T.take N).drop b++rest)[k]? = some v) (h2:(cs.take a++cs.drop b)[k]? = some x):Rl v x:=by
 have e:(T.take a).length=a:=by simp;omega
 have g:((T.take N).drop b).length=N-b:=by simp;omega
 have f:(cs.take a).length=a:=by simp;omega
 rw [List.append_assoc] at h1
 by_cases c:k<a
 ·rw [List.getElem?_append_left (by omega),List.getElem?_take,Ad c] at h1 h2
  exact h k v x h1 h2
 ·rw [List.getElem?_append_right (by omega),f,List.getElem?_drop] at h2
  have d:=(Af.1 h2).1
  rw [List.getElem?_append_right (by omega),e,List.getElem?_append_left (by omega),List.getElem?_drop,List.getElem?_take,Ab] at h1
  exact h _ v x h1 h2
theorem Za1 {z:Value} (h:∀ v∈z.cells.toList,v.oneCell'=true) (n:Nat):∀ v∈(Builtin.zeroCells z.cells n).toList,v.oneCell'=true:=by
 intro v hv
 rw [Builtin.zeroCells,Array.toList_map,List.mem_map] at hv
 obtain ⟨k,b,rfl⟩:=hv
 by_cases c:z.cells.size=0
 ·simp [c] at b
 ·have a:k % z.cells.size<z.cells.size:=Nat.mod_lt _ (by omega)
  rw [getElem!_pos z.cells _ a]
  exact h _ (by simp)
section
variable {P:Program} {w0:World} {ρ:Ren} {nm:String} {sz bytes:Nat} {z:Value} {st:St} {M:Mem} {w:World}
theorem XV (L:DelLay P ρ nm sz bytes z) (hzc:z.cells.size=sz) (hz1:∀ v∈z.cells.toList,v.oneCell'=true) (h0:0<sz) {id ver n i j:Nat} {cs:List AV} (hrow:st.rows[id]? = some (.vec ver sz cs)) (hcs:cs.length=n*sz) (hij:i<j) (hj:j<=n)
  {v0:Value} (hst:RelSt w0 M st w) (hv0:R w0 M w v0 (.vec id ver 0 n)) :
  Calls P (ρ.f 45) #[v0,.int .i64 i,.int .i64 j] w (Comes' w0 M w fun r s=>r = .vec id (ver+1) 0 (i+(n-j))/\s={ st with rows:=st.rows.set id (.vec (ver+1) sz (cs.take (i*sz)++cs.drop (j*sz))) }):=by
 have d:id<M.NR:=by rw [hst.NR];exact (Af.1 hrow).1
 obtain ⟨f1,f2,f3,f4,f5,f6,f7,cur,te,f8,f9,ag,F,U⟩:=hst.row id _ hrow
 cases hv0 with
 | @vec _ _ _ _ p cap hid' hver hh =>
 obtain ⟨rfl,hcap,Q⟩:=hh f1.symm
 simp only [Nat.add_zero,Nat.zero_mul] at hcap ⊢
 subst hcap
 have e1:j*sz+(n-j)*sz=n*sz:=by rw [<-Nat.add_mul];congr 1;omega
 have e2:i*sz+(j-i)*sz=j*sz:=by rw [<-Nat.add_mul];congr 1;omega
 have e3:(i+(n-j))*sz=i*sz+(n-j)*sz:=Nat.add_mul ..
 have e4:n-(i+(n-j))=j-i:=by omega
 have D:n*sz<=cur.size:=by rw [f9];exact Nat.mul_le_mul_right _ Q
 have e:(cur.toList.take (n*sz)).length=n*sz:=by simp;omega
 have o:∀ v∈cur.toList.take (n*sz),v.oneCell'=true:=by
  intro v hv
  obtain ⟨k,hk,rfl⟩:=List.mem_iff_getElem.1 hv
  rw [e] at hk
  rw [List.getElem_take,Array.getElem_toList]
  exact (U k (by omega) (by omega)).oneCell (F _ (List.getElem_mem _))
 have E:∀ k v,(cur.toList.take (n*sz))[k]? = some v->w.cell? ⟨M.blk id,0+k,none⟩=some v:=by
  intro k u hk
  rw [List.getElem?_take] at hk
  split at hk
  ·rw [Nat.zero_add,cell_of_row w _ k cur te _ f8,<-Array.getElem?_toList];exact hk
  ·cases hk
 have O:∀ x∈cs.take (i*sz)++cs.drop (j*sz),x.one=true:=by
  intro x hx
  rcases List.mem_append.1 hx with hx | hx
  ·exact F x (List.mem_of_mem_take hx)
  ·exact F x (List.mem_of_mem_drop hx)
 have aa:(cs.take (i*sz)++cs.drop (j*sz)).length=(i+(n-j))*sz:=by
  rw [List.length_append,List.length_take,List.length_drop,e3];omega
 have y:∀ (cells:Array Value) (rest:List Value),cells.toList=cur.toList.take (i*sz)++(cur.toList.take (n*sz)).drop (j*sz)++rest->∀ (k:Nat) (v:Value) (x:AV),cells[k]? = some v->(cs.take (i*sz)++cs.drop (j*sz))[k]? = some x->R w0 M w v x:=by
  intro cells rest K k v x V ad
  rw [<-Array.getElem?_toList,K] at V
  refine Zi1 (T:=cur.toList) (rest:=rest) (N:=n*sz) (by omega) (by omega) (by simpa using D) hcs (fun j v x h1 h2=>?_) k v x V ad
  rw [Array.getElem?_toList] at h1
  obtain ⟨q1,rfl⟩:=Array.getElem?_eq_some_iff.1 h1
  obtain ⟨q2,rfl⟩:=Af.1 h2
  exact U j q1 q2
 obtain ⟨d1,d2⟩:=hst.drew
 obtain ⟨zs,hzs⟩:∃ zs,(Builtin.zeroCells z.cells (n-(i+(n-j)))).toList=zs:=⟨_,rfl⟩
 have Y:zs.length=(j-i)*sz:=by rw [<-hzs,Array.length_toList,size_zeroCells,hzc,e4]
 have Z:∀ v∈zs,v.oneCell'=true:=by rw [<-hzs];exact Za1 hz1 _
 refine (Zv L (M.blk id) 0 n (M.cap id) i j (cur.toList.take (n*sz)) zs w hij hj Q (by unfold maxLen at f6;omega) e E (fun k=>by simp [World.frozen?,f8]) o hzs Y Z).mono ?_
 rintro en w' ⟨rfl,rfl⟩
 have t:w.drew.heap[M.blk id]? = some (.cells cur te (0,0)):=f8
 have H:((cur.toList.take (n*sz)).drop (j*sz)).length=(n-j)*sz:=by rw [List.length_drop,e];omega
 rw [F3 P t _ _ (by rw [H];omega) (fun v hv=>o v (List.mem_of_mem_drop hv))]
 have ae:=setRow_heap w.drew (M.blk id) cur (cur.toList.take (0+i*sz)++(cur.toList.take (n*sz)).drop (j*sz)++cur.toList.drop (0+i*sz+((cur.toList.take (n*sz)).drop (j*sz)).length)).toArray te _ t
 rw [F3 P ae _ _ (by simp only [List.size_toArray,List.length_append,List.length_take,List.length_drop,Array.length_toList];omega) Z,setRow_setRow]
 simp only [Nat.zero_add]
 generalize hc':((cur.toList.take (i*sz)++(cur.toList.take (n*sz)).drop (j*sz)++cur.toList.drop (i*sz+((cur.toList.take (n*sz)).drop (j*sz)).length)).take ((i+(n-j))*sz)++zs++(cur.toList.take (i*sz)++(cur.toList.take (n*sz)).drop (j*sz)++cur.toList.drop (i*sz+((cur.toList.take (n*sz)).drop (j*sz)).length)).drop ((i+(n-j))*sz+zs.length)).toArray=cur'
 have af:(cur.toList.take (i*sz)++(cur.toList.take (n*sz)).drop (j*sz)).length=(i+(n-j))*sz:=by
  rw [List.length_append,H,List.length_take,Array.length_toList,e3];omega
 have m:cur'.toList=cur.toList.take (i*sz)++(cur.toList.take (n*sz)).drop (j*sz)++(zs++(cur.toList.take (i*sz)++(cur.toList.take (n*sz)).drop (j*sz)++cur.toList.drop (i*sz+((cur.toList.take (n*sz)).drop (j*sz)).length)).drop ((i+(n-j))*sz+zs.length)):=by
  rw [<-hc',List.take_append_of_le_length (by omega),List.take_of_length_le (by omega)]
  simp only [List.append_assoc]
 have C:cur'.size=cur.size:=by
  rw [<-Array.length_toList,m]
  simp only [List.length_append,List.length_take,List.length_drop,Array.length_toList,Y]
  omega
 have h:Ext w0 M w.drew (M.growRow id (M.blk id) (M.cap id) (ver+1) 0) (w.drew.setRow (M.blk id) cur'):=by
  refine GA (M:=M) (M.growRow id (M.blk id) (M.cap id) (ver+1) 0) rfl (fun _ _=>rfl) rfl (fun i hi=>?_) (fun b=>?_) t f3 (fun j hj=>by rw [f4] at hj;omega) (Mem.own_row d) (fun b=>I6 d)
  ·by_cases c:i=id
   ·subst c
    simp only [Mem.growRow,if_true,f1]
    exact ⟨by omega,fun q=>absurd q (by omega)⟩
   ·simp only [Mem.growRow,Ae c]
    exact ⟨Nat.le_refl _,fun _=>⟨trivial,trivial,trivial⟩⟩
  ·simp only [Mem.growRow]
   split
   ·rename_i c
    rw [c,f4]
    exact Nat.le_refl _
   ·exact Nat.le_refl _
 have G:=hst.row_lt d
 have q:(M.growRow id (M.blk id) (M.cap id) (ver+1) 0).fr id=ver+1/\(M.growRow id (M.blk id) (M.cap id) (ver+1) 0).blk id=M.blk id/\(M.growRow id (M.blk id) (M.cap id) (ver+1) 0).cap id=M.cap id/\(M.growRow id (M.blk id) (M.cap id) (ver+1) 0).rsz id=M.rsz id/\(M.growRow id (M.blk id) (M.cap id) (ver+1) 0).top (M.blk id)=0:=by simp [Mem.growRow]
 obtain ⟨q1,q2,q3,q4,q5⟩:=q
 have g:i+(n-j)<=M.cap id:=by omega
 have J:=d1.growRow' hrow (x := .vec (ver+1) sz (cs.take (i*sz)++cs.drop (j*sz))) (w':=w.drew.setRow (M.blk id) cur') (b:=M.blk id) (cap:=M.cap id) (k:=ver+1) (tp:=0) (Below.setRow (Below.refl _ _) f3 _) (by simp) (by simpa using G)
  (fun l hl=>⟨f5 l hl,setRow_other w.drew _ _ _ (f5 l hl)⟩) (fun i hi ab=>by
   have:M.blk i≠M.blk id:=fun q=>ab (hst.rowinj i id hi d q)
   exact ⟨this,setRow_other w.drew _ _ _ this⟩) (by
   simp only [RowOk,q1,q2,q3,q4,q5]
   exact ⟨trivial,f2,f3,trivial,f5,f6,h0,cur',te,setRow_heap w.drew _ cur cur' te _ t,C.trans f9,by rw [aa,C,f9];exact Nat.mul_le_mul_right _ g,O,
    fun i a b=>((y cur' _ m i _ _ (Array.getElem?_eq_getElem a) (List.getElem?_eq_getElem b)).mono d2).mono h⟩) h (KeepsObj.setRow t _)
 exact ⟨_,_,_,_,rfl,⟨rfl,rfl⟩,d2.trans h,J,.vec d (by rw [q1];exact Nat.le_refl _) fun _=>⟨by rw [q2];simp,by rw [q3];rfl,g⟩⟩
theorem Yz (L:DelLay P ρ nm sz bytes z) (hen:HW P (ρ.f 45)) (hzc:z.cells.size=sz) (hz1:∀ v∈z.cells.toList,v.oneCell'=true) (h0:0<sz) {id ver n i j:Nat} {cs:List AV} (hrow:st.rows[id]? = some (.vec ver sz cs)) (hcs:cs.length=n*sz) (hij:i<j) (hj:j<=n) :
  ACalls P w0 (ρ.f 45) [.vec id ver 0 n,Ag i,Ag j] st fun r s=>r = .vec id (ver+1) 0 (i+(n-j))/\s={ st with rows:=st.rows.set id (.vec (ver+1) sz (cs.take (i*sz)++cs.drop (j*sz))) }:=by
 refine ⟨hen,fun M w e h d=>?_⟩
 obtain ⟨v0,v1,v2,rfl⟩:∃ v0 v1 v2,e = #[v0,v1,v2]:=by
  have:=d.1
  simp only [List.length_cons,List.length_nil] at this
  obtain ⟨l⟩:=e
  match l,this with
  | [a,b,c],_=>exact ⟨a,b,c,rfl⟩
 have m:R w0 M w v0 (.vec id ver 0 n):=d.2 0 (by simp) (by simp)
 have k:R w0 M w v1 (Ag i):=d.2 1 (by simp) (by simp)
 have g:R w0 M w v2 (Ag j):=d.2 2 (by simp) (by simp)
 obtain ⟨rfl,_⟩:=k.val_inv
 obtain ⟨rfl,_⟩:=g.val_inv
 exact XV L hzc hz1 h0 hrow hcs hij hj h m
end
end Go.Ev
namespace Go.Proofs.YtcpmjgdlioggjaaGreatDoor
open Go Go.RowKit Go.Ev
@[go_sem] theorem Zkp (n:Nat):Gk .nil n = .list [] .seed:=rfl
def Iw {α:Type} (l:List α) (i:Int) (y:α):List α:=l.take i.toNat++y::l.drop i.toNat
theorem N4 {α:Type} {g:α->List AV} {sz:Nat} (hg:∀ x,(g x).length=sz):∀ (xs:List α) (k:Nat),(xs.flatMap g).take (k*sz)=(xs.take k).flatMap g
 | [],k=>by simp
 | x::xs,0=>by simp
 | x::xs,k+1=>by
  have a:=hg x
  rw [List.flatMap_cons,List.take_succ_cons,List.flatMap_cons,<-N4 hg xs k,Nat.succ_mul,Nat.add_comm,List.take_append,List.take_of_length_le (by omega)]
  congr 2
  omega
theorem N9 {α:Type} {g:α->List AV} {sz:Nat} (hg:∀ x,(g x).length=sz):∀ (xs:List α) (k:Nat),(xs.flatMap g).drop (k*sz)=(xs.drop k).flatMap g
 | [],k=>by simp
 | x::xs,0=>by simp
 | x::xs,k+1=>by
  have a:=hg x
  rw [List.flatMap_cons,List.drop_succ_cons,<-N9 hg xs k,Nat.succ_mul,Nat.add_comm,List.drop_append,List.drop_of_length_le (by omega),List.nil_append]
  congr 1
  omega
def insR:Go.Shelf.Ren:=⟨fun x=>if x=22 then 195 else if x=29 then 246 else if x=30 then 247 else x,
 fun x=>if x=9 then 96 else if x=24 then 58 else if x=3 then 3 else if x=4 then 4 else if x=0 then 0 else x,fun x=>x⟩
theorem ZkR:∃ z,InsLay Tryz.prog insR Tryz.f195.name 7 104 z/\z.cells.size=7:=by
 obtain ⟨j,z,g,a,d,c,b⟩:=MH (by kernel_rfl:UJ Tryz.prog 96 7 104=true)
 exact ⟨z,{
  mixed:=by kernel_rfl
  nmo:=by decide
  f22:=Tryz.func195.trans (congrArg some (by kernel_rfl))
  ov:=fun w x y h=>by
   show (callFunc 246 #[x,y]).run Tryz.prog w=_
   rw [run_callFunc_extern Tryz.func246 (by kernel_rfl) (by kernel_rfl) (by kernel_rfl) (e:=Extern.SlicesOverlaps.overlaps #[58,58] #[4]) (by kernel_rfl)]
   have f:(Extern.SlicesOverlaps.overlaps #[58,58] #[4] #[x,y]).run Tryz.prog w = .ok (.bool false) w:=h
   first | (rw [f];rfl) | simp [f]
  t0:=Tryz.underlying0
  a0:=Tryz.isAgg0
  z0:=Tryz.sizeOf0
  v0:=Tryz.zeroValue0
  t3:=Tryz.underlying3
  a3:=Tryz.isAgg3
  z3:=Tryz.sizeOf3
  v3:=Tryz.zeroValue3
  t4:=Tryz.underlying4
  a4:=Tryz.isAgg4
  z4:=Tryz.sizeOf4
  v4:=Tryz.zeroValue4
  z9:=Tryz.sizeOf96
  t24:=Tryz.underlying58
  a24:=Tryz.isAgg58
  z24:=Tryz.sizeOf58
  v24:=Tryz.zeroValue58
  i9:=by
   show (Tryz.prog.info? 96).map (fun i=>(i.zero,i.size,i.bytes))=_
   rw [g];simp [a,d,c] },b⟩
theorem Yk (w0:World) {Rw rows:List RowA} {l:List (Nat × Nat × Ev.Own)} {ho:Ev.Own} {o:VO} {v:List VE} {xs:List (ByteArray × Vl)} (hO:Owns Rw rows l ho ((o,7,xs.flatMap fun x=>(B7 x).cells)::v)) (i:Int)
  (hg:(0<=i/\i<=(xs.length:Int))/\(xs.length+1)*104<=140737488355328/\xs.length+1<=4611686018427387904) (y:ByteArray × Vl) :
  ∃ id' ver' rows',Owns Rw rows' l ho ((.row id' ver',7,(Iw xs i y).flatMap fun x=>(B7 x).cells)::v)/\∀ (B:Aj) (L:An) (ow:Ev.Own),ACalls Tryz.prog w0 195 [Gk o xs.length,Ag i,.list [B7 y] ow] ⟨B,rows,L⟩ fun r s=>r = .vec id' ver' 0 (Iw xs i y).length/\s=⟨B,rows',L⟩:=by
 obtain ⟨⟨p,n⟩,e,m⟩:=hg
 obtain ⟨k,rfl⟩:∃ k:Nat,i=(k:Int):=⟨i.toNat,by omega⟩
 obtain ⟨z,d,g⟩:=ZkR
 have a:∀ x:ByteArray × Vl,((fun x=>(B7 x).cells) x).length=7:=fun x=>by simp +decide only [go_sem]
 have j:(xs.flatMap fun x=>(B7 x).cells).length=xs.length*7:=CJ (f:=B7) (fun _=>by simp +decide only [go_sem]) xs
 have c:(Iw xs (k:Int) y).length=xs.length+1:=by
  unfold Iw
  rw [List.length_append,List.length_cons,List.length_take,List.length_drop]
  simp only [Int.toNat_natCast]
  omega
 have b:(xs.flatMap fun x=>(B7 x).cells).take (k*7)++[B7 y].flatMap (fun y=>y.pub.cells)++(xs.flatMap fun x=>(B7 x).cells).drop (k*7)=(Iw xs (k:Int) y).flatMap fun x=>(B7 x).cells:=by
  unfold Iw
  rw [N4 a,N9 a,List.flatMap_append,List.flatMap_cons,List.flatMap_cons,List.flatMap_nil,List.append_nil,Tf,Int.toNat_natCast,List.append_assoc]
 obtain ⟨id',ver',hrow⟩:∃ id' ver',Nj o rows = .row id' ver':=by
  cases o with
  | nil=>exact ⟨_,_,rfl⟩
  | row id ver=>exact ⟨_,_,rfl⟩
 refine ⟨id',ver',_,hrow▸hO.bump ((Iw xs (k:Int) y).flatMap fun x=>(B7 x).cells),fun B L ow=>?_⟩
 have:=SA (P:=Tryz.prog) (w0:=w0) (st:=⟨B,rows,L⟩) (ow:=ow) (ys:=[B7 y]) (ag:=true) (i:=k) d (AU Tryz.func195 rfl (by decide)) O7 (by rw [show insR.t 9=96 from rfl,Jo];rfl) g (by decide) hO.vp j (by omega) (by simp)
  (fun q h=>by rw [List.mem_singleton.1 h];exact ⟨by simp +decide only [go_sem],by simp +decide only [go_sem]⟩) e m
 rw [b] at this
 exact this.mono fun r s ⟨q1,q2⟩=>⟨by rw [q1,c,hrow];rfl,q2⟩
def Q5 {α:Type} (l:List α) (i:Int):List α:=l.take i.toNat++l.drop (i.toNat+1)
theorem Yb {B B':List (List AV)} {R0 rows:List RowA} {L:List LoopA} {Post:AV->St->Prop} {v:AV} {ow:List (Nat × Nat × Ev.Own)} {oh:Ev.Own} {ve:List VE} (ho:Owns R0 rows ow oh ve) (hc:Go.Ev.Calm B.length rows.length L.length ⟨B',R0,L⟩) (hB:B'.length=B.length) (hu:Go.Ev.Under B.length rows.length L.length v.pubA) (hp:Post v.pubA ⟨B',rows,L⟩) (hv:∀ x∈ve,∀ y∈x.2.2,Go.Ev.Under B.length rows.length L.length y:=by intro x hx;cases hx) :
  Go.Ev.finG ⟨B,R0,L⟩ Post v ⟨B',rows,L⟩:=by
 have:=ZaP (X:=[]) ho hc hB hu hp hv
 rwa [List.append_nil] at this
theorem Kz {B:List (List AV)} {l:Nat} {cs:List AV} (h:B[l]? = some cs) (i:Nat):∀ (X:Aj) (c c':List AV),(B.set i c++X).set l c'=(B.set i c).set l c'++X:=fun X c c'=>List.set_append_left _ _ (by rw [List.length_set];exact (Af.1 h).1)
theorem Bc {B:List (List AV)} {l:Nat} {c:List AV} (h:B[l]? = some c):B.set l c=B:=by
 apply List.ext_getElem?
 intro i
 by_cases q:l=i
 ·subst q
  rw [List.getElem?_set_self (Af.1 h).1,h]
 ·rw [List.getElem?_set_ne q]
@[go_sem] theorem Zjs:B9 Tryz.prog 100=none/\B9 Tryz.prog 280=none/\B9 Tryz.prog 67=none/\B9 Tryz.prog 75=none/\HG Tryz.prog 246=false/\Bn Tryz.prog 162 0=some (0,1,false)/\Bn Tryz.prog 162 1=some (1,1,false)/\Bn Tryz.prog 270 0=some (0,6,true)/\Bn Tryz.prog 283 0=some (0,1,false)/\Bn Tryz.prog 283 1=some (1,1,false)/\Bn Tryz.prog 36 0=some (0,1,false)/\Bn Tryz.prog 36 5=some (5,1,false):=by (repeat' apply Ac)<;>kernel_rfl
@[go_sem] theorem Zh6:Bn Tryz.prog 36 6=some (6,1,false)/\Bn Tryz.prog 64 4=some (14,1,false)/\Bn Tryz.prog 64 5=some (15,1,false)/\Bn Tryz.prog 81 1=some (1,1,true)/\Bn Tryz.prog 93 0=some (0,20,true)/\Bn Tryz.prog 93 1=some (20,1,false)/\Bn Tryz.prog 93 3=some (23,1,false)/\LV Tryz.prog 246=some .u64/\BF Tryz.prog 100=some [(0,6),(6,1),(7,1),(8,1),(9,1)]/\BF Tryz.prog 280=some [(0,1),(1,1)]/\BF Tryz.prog 67=some [(0,2),(2,1),(3,1),(4,1),(5,6)]/\BF Tryz.prog 75=some [(0,1),(1,10)]:=by (repeat' apply Ac)<;>kernel_rfl
@[go_sem] theorem ZaC:Bv Tryz.prog 75=some [Ag 0,Ag 0,.list [] .full,Ag 0,.list [] .full,Ag 0,Ag 0,Ag 0,.val (.string ⟨#[]⟩),.list [] .full,.list [] .full]:=by kernel_rfl
@[go_sem] theorem Ziz:CL Tryz.prog 246=false/\Fv Tryz.prog 246=some (1,false)/\Fv Tryz.prog 281=some (1,false)/\Bv Tryz.prog 246=some [.val (.int .u64 0)]/\Bv Tryz.prog 280=some [.val (.string ⟨#[]⟩),Ag 0]:=by (repeat' apply Ac)<;>kernel_rfl
set_option maxRecDepth 100000
end Go.Proofs.YtcpmjgdlioggjaaGreatDoor
namespace Go.Ev
open Go Go.RowKit
section
variable {Rw rows R1 R2:List RowA} {l:List (Nat × Nat × Ev.Own)} {ho o1 o2 p1 p2:Ev.Own} {v:List VE} {s1 s2 n1 n2 m1 m2:Nat}
theorem Owns.enter2a (h:Owns Rw rows ((s1,n1,o1)::(s2,n2,o2)::l) ho v):Owns rows rows [(s1,n1,o1)] o1:=h.enter
theorem Owns.enter2b (h:Owns Rw rows ((s1,n1,o1)::(s2,n2,o2)::l) ho v):Owns rows rows [(s2,n2,o2)] o2:=(h.swap (List.Perm.swap _ _ _)).enter
theorem Owns.apart2 (h:Owns Rw rows ((s1,n1,o1)::(s2,n2,o2)::l) ho v):∀ id,o1 = .row id->o2 ≠ .row id:=(List.pairwise_cons.1 h.apart).1 _ (List.mem_cons_self ..)
theorem Owns.call2 (h:Owns Rw rows ((s1,n1,o1)::(s2,n2,o2)::l) ho v) (ha:Owns rows R1 [(s1,m1,p1)] o1) (hb:Owns R1 R2 [(s2,m2,p2)] o2):Owns Rw R2 ((s1,m1,p1)::(s2,m2,p2)::l) ho v :=
 (((h.call ha).swap (List.Perm.swap _ _ _)).call hb).swap (List.Perm.swap _ _ _)
end
end Go.Ev
namespace Go.Proofs.YtcpmjgdlioggjaaGreatDoor
open Go Go.RowKit Go.Ev
section
variable {P:Program} {w0:World} {n:Nat} {M0:Mem} {W0:World} {ro:Option Nat} {Q:AQ} {e:Env} {st:St}
theorem Ar {B:List (List AV)} {l:Nat} {cs:List AV} (h:B[l]? = some cs) :
  (∀ X R L o c,Cm ⟨B.set l c++X,R,L⟩ (.box l o)=true)/\(∀ R L o c,Cm ⟨B.set l c,R,L⟩ (.box l o)=true)/\(∀ X R L o c,Bt ⟨B.set l c++X,R,L⟩ (.box l o)=c)/\(∀ R L o c,Bt ⟨B.set l c,R,L⟩ (.box l o)=c) /\
  (∀ X c,(B.set l c++X)[l]? = some c)/\(∀ c,(B.set l c)[l]? = some c)/\(∀ X c,(B.set l c++X).getD l []=c)/\(∀ c,(B.set l c).getD l []=c)/\(∀ X c d,(B.set l c++X).set l d=B.set l d++X)/\∀ c d,(B.set l c).set l d=B.set l d:=by
 obtain ⟨_,_,_,_,_,_,_,_,_,m,b,g,j,n,e,i,f,k,a,_⟩:=AD h
 exact ⟨m,b,g,j,n,e,i,f,k,a⟩
theorem Ho {B B':List (List AV)} {R:List RowA} {L:List LoopA} {c:Code} (h:B'=B) (k:CW P w0 n M0 W0 ro c Q e ⟨B',R,L⟩):CW P w0 n M0 W0 ro c Q e ⟨B,R,L⟩:=h▸k
theorem alp:ALp:=⟨fun _ _ _=>rfl,fun _ _ _ _=>rfl,fun _ _=>rfl⟩
theorem mpn:∀ (α β:Type) (f:α->β),List.map f []=[]:=fun _ _ _=>rfl
theorem mpc:(∀ (α β:Type) (f:α->β) (a:α) (l:List α),List.map f (a::l)=f a::List.map f l)/\∀ (α β:Type) (f:α->β) (l m:List α),List.map f (l++m)=List.map f l++List.map f m:=⟨fun _ _ _ _ _=>rfl,fun _ _ _ _ _=>List.map_append⟩
def Cv (w0:World) (n:Nat) (M0:Mem) (W0:World) (e:Env) (s s':St):Prop:=∀ M a w,At w0 n M0 W0 e s a w M->At w0 n M0 W0 e s' a w M
theorem V4 (l:Nat) {cs cs':List AV} (hl:st.boxes[l]? = some cs) (he:cs.map AV.pubCell=cs'):Cv w0 n M0 W0 e st { st with boxes:=st.boxes.set l cs' }:=by
 subst he
 exact fun M a w h=>⟨⟨h.rel.st.pubBox hl,h.rel.size,h.rel.env⟩,h.ext,h.marks⟩
theorem Za7 {c:Code} {s':St} (hc:Cv w0 n M0 W0 e st s') (h:CW P w0 n M0 W0 ro c Q e s'):CW P w0 n M0 W0 ro c Q e st:=fun m M a w b=>h m M a w (hc M a w b)
theorem GW {x:Code} (h:∀ K:Env->St->Prop,(∀ e s s',Cv w0 n M0 W0 e s s'->Q .normal e s'->K e s)->CW P w0 n M0 W0 ro x (OK K Q) e st):CW P w0 n M0 W0 ro x Q e st:=by
 intro m M a w g
 refine wpIn_mono (h (fun e s=>∃ s',Cv w0 n M0 W0 e s s'/\Q .normal e s') (fun _ _ _ q h=>⟨_,q,h⟩) m M a w g) ?_
 rintro ex i j ⟨M',b,s',d,c⟩
 cases ex with
 | normal=>obtain ⟨s2,q,f⟩:=c;exact ⟨M',b,s2,q _ _ _ d,f⟩
 | _=>exact ⟨M',b,s',d,c⟩
end
theorem Stt.eta (s:Stt):Stt.mk s.number s.time s.slots=s:=rfl
theorem WS {P:Program} {w0:World} {n:Nat} {M0:Mem} {W0:World} {ro:Option Nat} {Q:AQ} {e:Env} {st:St} {c:Code} (h:∀ K:Env->St->Prop,(∀ e' s',CW P w0 n M0 W0 ro c (OK (fun _ _=>False) Q) e' s'->K e' s')->CW P w0 n M0 W0 ro c (OK K Q) e st):CW P w0 n M0 W0 ro (.loop c) Q e st:=by
 refine AB (fun k e' s'=>(k=1/\e'=e/\s'=st)\/(k=0/\CW P w0 n M0 W0 ro c (OK (fun _ _=>False) Q) e' s')) 1 (.inl ⟨rfl,rfl,rfl⟩) ?_
 rintro k e' s' (⟨rfl,rfl,rfl⟩ | ⟨rfl,hk⟩) K hK
 ·exact h K fun b s2 a=>hK 0 b s2 (by omega) (.inr ⟨rfl,a⟩)
 ·refine Xs hk fun x b s2 a=>?_
  cases x with
  | normal=>exact a.elim
  | _=>exact a
def Bd (n:Nod) (w:Int) (u:Int × List Int) (k:Int) (s:Stt) (a b c d:AV):List AV:=(.val (.string n.name)::(Ag n.kind::(Ag n.schema::(Ag n.result::(Ag n.number::(Ag n.time::(Ag n.limit::(.val (.string n.text)::((n.type.cs)++(.list (n.types.map JX) .none::(.list (n.exprs.map TW) .none::(.list (n.mapping.map Do) .none::(.list (n.calls.map KJ) .none::([.list (n.next.map CE) .none]))))))))))))))++([Ag w,Ag u.1,.list (u.2.map CE) .none,Ag k]++((Ag s.number::(Ag s.time::([.list (s.slots.map Br) .none])))++[a,b,c,d]))
theorem ZaO (n:Nod) (w:Int) (u:Int × List Int) (k:Int) (s:Stt) (a b c d:AV):(Bd n w u k s a b c d).length=31:=by
 obtain ⟨_,_,_,_,_,_,_,_,nt,_,_,_,_,_⟩:=n;cases nt
 rfl
theorem Zbb (n:Nod) (w:Int) (u:Int × List Int) (k:Int) (s:Stt) (a b c d:AV) (q:AV):(Bd n w u k s a b c d).getD 0 q = .val (.string n.name)/\(Bd n w u k s a b c d).getD 1 q=Ag n.kind/\(Bd n w u k s a b c d).getD 2 q=Ag n.schema/\(Bd n w u k s a b c d).getD 3 q=Ag n.result/\(Bd n w u k s a b c d).getD 4 q=Ag n.number/\(Bd n w u k s a b c d).getD 5 q=Ag n.time/\(Bd n w u k s a b c d).getD 6 q=Ag n.limit/\(Bd n w u k s a b c d).getD 7 q = .val (.string n.text)/\(Bd n w u k s a b c d).getD 8 q=Ag n.type.kind/\(Bd n w u k s a b c d).getD 9 q=Ag n.type.min/\(Bd n w u k s a b c d).getD 10 q=Ag n.type.max/\(Bd n w u k s a b c d).getD 11 q=Ag n.type.scale/\(Bd n w u k s a b c d).getD 15 q = .list (n.types.map JX) .none/\(Bd n w u k s a b c d).getD 16 q = .list (n.exprs.map TW) .none/\(Bd n w u k s a b c d).getD 17 q = .list (n.mapping.map Do) .none/\(Bd n w u k s a b c d).getD 18 q = .list (n.calls.map KJ) .none/\(Bd n w u k s a b c d).getD 19 q = .list (n.next.map CE) .none/\(Bd n w u k s a b c d).getD 24 q=Ag s.number/\(Bd n w u k s a b c d).getD 25 q=Ag s.time/\(Bd n w u k s a b c d).getD 26 q = .list (s.slots.map Br) .none/\(Bd n w u k s a b c d).getD 20 q=Ag w/\(Bd n w u k s a b c d).getD 21 q=Ag u.1/\(Bd n w u k s a b c d).getD 22 q = .list (u.2.map CE) .none/\(Bd n w u k s a b c d).getD 23 q=Ag k/\(Bd n w u k s a b c d).getD 27 q=a/\(Bd n w u k s a b c d).getD 28 q=b/\(Bd n w u k s a b c d).getD 29 q=c/\(Bd n w u k s a b c d).getD 30 q=d:=by
 obtain ⟨_,_,_,_,_,_,_,_,nt,_,_,_,_,_⟩:=n;cases nt
 (repeat' apply Ac)<;>rfl
theorem Zag (n:Nod) (w:Int) (u:Int × List Int) (k:Int) (s:Stt) (a b c d:AV):((Bd n w u k s a b c d).drop 0).take 20 = .val (.string n.name)::(Ag n.kind::(Ag n.schema::(Ag n.result::(Ag n.number::(Ag n.time::(Ag n.limit::(.val (.string n.text)::((n.type.cs)++(.list (n.types.map JX) .none::(.list (n.exprs.map TW) .none::(.list (n.mapping.map Do) .none::(.list (n.calls.map KJ) .none::([.list (n.next.map CE) .none])))))))))))))/\((Bd n w u k s a b c d).drop 8).take 7=n.type.cs/\((Bd n w u k s a b c d).drop 17).take 1=[.list (n.mapping.map Do) .none]/\((Bd n w u k s a b c d).drop 24).take 3=Ag s.number::(Ag s.time::([.list (s.slots.map Br) .none]))/\((Bd n w u k s a b c d).drop 21).take 2=[Ag u.1,.list (u.2.map CE) .none]/\((Bd n w u k s a b c d).drop 24).take 7=(Ag s.number::(Ag s.time::([.list (s.slots.map Br) .none])))++[a,b,c,d]/\(Bd n w u k s a b c d).take 20 = .val (.string n.name)::(Ag n.kind::(Ag n.schema::(Ag n.result::(Ag n.number::(Ag n.time::(Ag n.limit::(.val (.string n.text)::((n.type.cs)++(.list (n.types.map JX) .none::(.list (n.exprs.map TW) .none::(.list (n.mapping.map Do) .none::(.list (n.calls.map KJ) .none::([.list (n.next.map CE) .none]))))))))))))):=by
 obtain ⟨_,_,_,_,_,_,_,_,nt,_,_,_,_,_⟩:=n;cases nt
 (repeat' apply Ac)<;>rfl
theorem Zbe (n:Nod) (w:Int) (u:Int × List Int) (k:Int) (s:Stt) (a b c d:AV) (x:AV):BH (Bd n w u k s a b c d) 27 [x]=Bd n w u k s x b c d/\BH (Bd n w u k s a b c d) 28 [x]=Bd n w u k s a x c d/\BH (Bd n w u k s a b c d) 29 [x]=Bd n w u k s a b x d/\BH (Bd n w u k s a b c d) 30 [x]=Bd n w u k s a b c x:=by
 obtain ⟨_,_,_,_,_,_,_,_,nt,_,_,_,_,_⟩:=n;cases nt
 (repeat' apply Ac)<;>rfl
theorem Zai (n:Nod) (w:Int) (u:Int × List Int) (k:Int) (s:Stt) (a b c d:AV) (p v:Int) (x:List Slt):BH (Bd n w u k s a b c d) 24 [Ag p,Ag v,.list (x.map Br) .none]=Bd n w u k (Stt.mk p v x) a b c d:=by
 obtain ⟨_,_,_,_,_,_,_,_,nt,_,_,_,_,_⟩:=n;cases nt
 rfl
theorem Z3 (n:Nod) (w:Int) (u:Int × List Int) (k:Int) (s:Stt) (a b c d:AV) (p:Int):BH (Bd n w u k s a b c d) 24 [Ag p]=Bd n w u k (Stt.mk p s.time s.slots) a b c d/\BH (Bd n w u k s a b c d) 23 [Ag p]=Bd n w u p s a b c d:=by
 obtain ⟨_,_,_,_,_,_,_,_,nt,_,_,_,_,_⟩:=n;cases nt
 (repeat' apply Ac)<;>rfl
theorem JA (n:Nod) (w:Int) (u:Int × List Int) (k:Int) (s:Stt) (a b c d:AV) (nb nr nl:Nat):(∀ x∈Bd n w u k s a b c d,Under nb nr nl x)<->Under nb nr nl a/\Under nb nr nl b/\Under nb nr nl c/\Under nb nr nl d:=by
 have h1:=(Yd nb nr nl [n]).2 trivial _ (List.mem_singleton.2 rfl)
 have h3:=(Yg nb nr nl [s]).2 trivial _ (List.mem_singleton.2 rfl)
 have f:∀ x∈([Ag w,Ag u.1,.list (u.2.map CE) .none,Ag k]:List AV),Under nb nr nl x:=by simp +decide only [go_sem]
 cases h1 with
 | agg h1 =>
 cases h3 with
 | agg h3 =>
 unfold Bd
 simp only [List.forall_mem_append]
 refine ⟨fun h=>?_,fun h=>⟨fun x e=>h1 x e,fun x e=>f x e,fun x e=>h3 x e,?_⟩⟩
 ·obtain ⟨_,_,_,h⟩:=h
  exact ⟨h a (by simp),h b (by simp),h c (by simp),h d (by simp)⟩
 ·obtain ⟨q1,q2,q3,g⟩:=h
  intro x e
  simp only [List.mem_cons,List.not_mem_nil,or_false] at e
  rcases e with rfl | rfl | rfl | rfl<;>assumption
theorem Zay {n:Nod} {w:Int} {u:Int × List Int} {k:Int} {s:Stt} {a b c d:AV}:(Bd n w u k s a b c d)[27]? = some a:=by
 obtain ⟨_,_,_,_,_,_,_,_,nt,_,_,_,_,_⟩:=n;cases nt
 rfl
theorem ZaU (n:Nod) (w:Int) (u:Int × List Int) (k:Int) (s:Stt) (a b c d:AV) (x:AV):(Bd n w u k s a b c d).set 27 x=Bd n w u k s x b c d:=by
 obtain ⟨_,_,_,_,_,_,_,_,nt,_,_,_,_,_⟩:=n;cases nt
 rfl
theorem ZbJ {n:Nod} {w:Int} {u:Int × List Int} {k:Int} {s:Stt} {a b c d:AV}:(Bd n w u k s a b c d)[28]? = some b:=by
 obtain ⟨_,_,_,_,_,_,_,_,nt,_,_,_,_,_⟩:=n;cases nt
 rfl
theorem Zcj (n:Nod) (w:Int) (u:Int × List Int) (k:Int) (s:Stt) (a b c d:AV) (x:AV):(Bd n w u k s a b c d).set 28 x=Bd n w u k s a x c d:=by
 obtain ⟨_,_,_,_,_,_,_,_,nt,_,_,_,_,_⟩:=n;cases nt
 rfl
theorem ZaS {n:Nod} {w:Int} {u:Int × List Int} {k:Int} {s:Stt} {a b c d:AV}:(Bd n w u k s a b c d)[29]? = some c:=by
 obtain ⟨_,_,_,_,_,_,_,_,nt,_,_,_,_,_⟩:=n;cases nt
 rfl
theorem Zci (n:Nod) (w:Int) (u:Int × List Int) (k:Int) (s:Stt) (a b c d:AV) (x:AV):(Bd n w u k s a b c d).set 29 x=Bd n w u k s a b x d:=by
 obtain ⟨_,_,_,_,_,_,_,_,nt,_,_,_,_,_⟩:=n;cases nt
 rfl
theorem Zbq {n:Nod} {w:Int} {u:Int × List Int} {k:Int} {s:Stt} {a b c d:AV}:(Bd n w u k s a b c d)[30]? = some d:=by
 obtain ⟨_,_,_,_,_,_,_,_,nt,_,_,_,_,_⟩:=n;cases nt
 rfl
theorem ZaJ (n:Nod) (w:Int) (u:Int × List Int) (k:Int) (s:Stt) (a b c d:AV) (x:AV):(Bd n w u k s a b c d).set 30 x=Bd n w u k s a b c x:=by
 obtain ⟨_,_,_,_,_,_,_,_,nt,_,_,_,_,_⟩:=n;cases nt
 rfl
attribute [go_sem] ZaU Zcj Zci ZaJ ZaO Zbb Zag Zbe Zai Z3 JA Stt.eta
theorem ZF (n:Nod) (w:Int) (u:Int × List Int) (k:Int) (s:Stt) (a b c d:AV):Bd n w u k s a b c d=[.val (.string n.name),Ag n.kind,Ag n.schema,Ag n.result,Ag n.number,Ag n.time,Ag n.limit,.val (.string n.text),Ag n.type.kind,Ag n.type.min,Ag n.type.max,Ag n.type.scale,.list (n.type.words.map RX) .none,.list (n.type.elem.map JX) .none,.list (n.type.fields.map Gl) .none,.list (n.types.map JX) .none,.list (n.exprs.map TW) .none,.list (n.mapping.map Do) .none,.list (n.calls.map KJ) .none,.list (n.next.map CE) .none,Ag w,Ag u.1,.list (u.2.map CE) .none,Ag k,Ag s.number,Ag s.time,.list (s.slots.map Br) .none,a,b,c,d]:=by
 unfold Bd
 rw [Ty.cs_eqs];rfl
def Hw (sm:Int × List Int) (k:Int) (nd:ByteArray) (a:AV) (tx:ByteArray):List AV:=[Ag sm.1,.list (sm.2.map CE) .none,Ag k,.val (.string nd),a,.val (.string tx)]
theorem Zbl (sm:Int × List Int) (k:Int) (nd:ByteArray) (a:AV) (tx:ByteArray):(Hw sm k nd a tx).length=6:=rfl
theorem Zbj (sm:Int × List Int) (k:Int) (nd:ByteArray) (a:AV) (tx:ByteArray) (q:AV):(Hw sm k nd a tx).getD 0 q=Ag sm.1/\(Hw sm k nd a tx).getD 1 q = .list (sm.2.map CE) .none/\(Hw sm k nd a tx).getD 2 q=Ag k/\(Hw sm k nd a tx).getD 3 q = .val (.string nd)/\(Hw sm k nd a tx).getD 4 q=a/\(Hw sm k nd a tx).getD 5 q = .val (.string tx):=⟨rfl,rfl,rfl,rfl,rfl,rfl⟩
theorem ZbM (sm:Int × List Int) (k:Int) (nd:ByteArray) (a:AV) (tx:ByteArray) (x:AV):BH (Hw sm k nd a tx) 4 [x]=Hw sm k nd x tx:=rfl
theorem Yn (sm:Int × List Int) (k:Int) (nd:ByteArray) (a:AV) (tx:ByteArray) (nb nr nl:Nat):(∀ x∈Hw sm k nd a tx,Under nb nr nl x)<->Under nb nr nl a:=by
 unfold Hw
 simp +decide only [go_sem]
attribute [go_sem] Zbl Zbj ZbM Yn
theorem Xq {n:Nod} {w:Int} {u:Int × List Int} {k:Int} {s:Stt} {a b c d:List AV} {oa ob oc od:Ev.Own}:(Bd n w u k s (.list a oa) (.list b ob) (.list c oc) (.list d od)).map AV.pubCell=Bd n w u k s (.list a .none) (.list b .none) (.list c .none) (.list d .none):=by
 obtain ⟨_,_,_,_,_,_,_,_,nt,_,_,_,_,_⟩:=n;cases nt;rfl
theorem F8 {w0:World} {N:Nat} {M0:Mem} {W0:World} {e:Env} {B bs:List (List AV)} {R:List RowA} {L:List LoopA} {la:Nat} {n:Nod} {w:Int} {u:Int × List Int} {k:Int} {s:Stt} {a b c d:List AV} {oa ob oc od:Ev.Own} (hl:la<B.length):Cv w0 N M0 W0 e ⟨B.set la (Bd n w u k s (.list a oa) (.list b ob) (.list c oc) (.list d od))++bs,R,L⟩ ⟨B.set la (Bd n w u k s (.list a .none) (.list b .none) (.list c .none) (.list d .none))++bs,R,L⟩:=by
 have:=V4 (w0:=w0) (n:=N) (M0:=M0) (W0:=W0) (e:=e) (st:=⟨B.set la (Bd n w u k s (.list a oa) (.list b ob) (.list c oc) (.list d od))++bs,R,L⟩) la (show _=some (Bd n w u k s (.list a oa) (.list b ob) (.list c oc) (.list d od)) from (by rw [List.getElem?_append_left (by simpa using hl),List.getElem?_set_self hl])) Xq
 dsimp only at this
 rw [List.set_append_left _ _ (show la<(B.set la _).length by rw [List.length_set];exact hl),List.set_set] at this
 exact this
theorem JV {P:Program} {w0:World} {N:Nat} {M0:Mem} {W0:World} {ro:Option Nat} {Q:AQ} {cd:Code} {e:Env} {B bs:List (List AV)} {R:List RowA} {L:List LoopA} {la:Nat} {n:Nod} {w:Int} {u:Int × List Int} {k:Int} {s:Stt} {a b c d:List AV} {oa ob oc od:Ev.Own} (hl:la<B.length) (h:CW P w0 N M0 W0 ro cd Q e ⟨B.set la (Bd n w u k s (.list a .none) (.list b .none) (.list c .none) (.list d .none))++bs,R,L⟩):CW P w0 N M0 W0 ro cd Q e ⟨B.set la (Bd n w u k s (.list a oa) (.list b ob) (.list c oc) (.list d od))++bs,R,L⟩:=Za7 (F8 hl) h
theorem Ew {w0:World} {N:Nat} {M0:Mem} {W0:World} {e:Env} {B:List (List AV)} {R:List RowA} {L:List LoopA} {la:Nat} {n:Nod} {w:Int} {u:Int × List Int} {k:Int} {s:Stt} {a b c d:List AV} {oa ob oc od:Ev.Own} (hl:la<B.length):Cv w0 N M0 W0 e ⟨B.set la (Bd n w u k s (.list a oa) (.list b ob) (.list c oc) (.list d od)),R,L⟩ ⟨B.set la (Bd n w u k s (.list a .none) (.list b .none) (.list c .none) (.list d .none)),R,L⟩:=by
 have:=V4 (w0:=w0) (n:=N) (M0:=M0) (W0:=W0) (e:=e) (st:=⟨B.set la (Bd n w u k s (.list a oa) (.list b ob) (.list c oc) (.list d od)),R,L⟩) la (show _=some (Bd n w u k s (.list a oa) (.list b ob) (.list c oc) (.list d od)) from (List.getElem?_set_self hl)) Xq
 dsimp only at this
 rw [List.set_set] at this
 exact this
theorem HS {P:Program} {w0:World} {N:Nat} {M0:Mem} {W0:World} {ro:Option Nat} {Q:AQ} {cd:Code} {e:Env} {B:List (List AV)} {R:List RowA} {L:List LoopA} {la:Nat} {n:Nod} {w:Int} {u:Int × List Int} {k:Int} {s:Stt} {a b c d:List AV} {oa ob oc od:Ev.Own} (hl:la<B.length) (h:CW P w0 N M0 W0 ro cd Q e ⟨B.set la (Bd n w u k s (.list a .none) (.list b .none) (.list c .none) (.list d .none)),R,L⟩):CW P w0 N M0 W0 ro cd Q e ⟨B.set la (Bd n w u k s (.list a oa) (.list b ob) (.list c oc) (.list d od)),R,L⟩:=Za7 (Ew hl) h
theorem WT {sm:Int × List Int} {k:Int} {nd tx:ByteArray} {a:List AV} {oa:Ev.Own}:(Hw sm k nd (.list a oa) tx).map AV.pubCell=Hw sm k nd (.list a .none) tx:=rfl
theorem ZeR {w0:World} {N:Nat} {M0:Mem} {W0:World} {e:Env} {B bs:List (List AV)} {R:List RowA} {L:List LoopA} {la:Nat} {sm:Int × List Int} {k:Int} {nd tx:ByteArray} {a:List AV} {oa:Ev.Own} (hl:la<B.length):Cv w0 N M0 W0 e ⟨B.set la (Hw sm k nd (.list a oa) tx)++bs,R,L⟩ ⟨B.set la (Hw sm k nd (.list a .none) tx)++bs,R,L⟩:=by
 have:=V4 (w0:=w0) (n:=N) (M0:=M0) (W0:=W0) (e:=e) (st:=⟨B.set la (Hw sm k nd (.list a oa) tx)++bs,R,L⟩) la (show _=some (Hw sm k nd (.list a oa) tx) from (by rw [List.getElem?_append_left (by simpa using hl),List.getElem?_set_self hl])) WT
 dsimp only at this
 rw [List.set_append_left _ _ (show la<(B.set la _).length by rw [List.length_set];exact hl),List.set_set] at this
 exact this
theorem Zco {w0:World} {N:Nat} {M0:Mem} {W0:World} {e:Env} {B:List (List AV)} {R:List RowA} {L:List LoopA} {la:Nat} {sm:Int × List Int} {k:Int} {nd tx:ByteArray} {a:List AV} {oa:Ev.Own} (hl:la<B.length):Cv w0 N M0 W0 e ⟨B.set la (Hw sm k nd (.list a oa) tx),R,L⟩ ⟨B.set la (Hw sm k nd (.list a .none) tx),R,L⟩:=by
 have:=V4 (w0:=w0) (n:=N) (M0:=M0) (W0:=W0) (e:=e) (st:=⟨B.set la (Hw sm k nd (.list a oa) tx),R,L⟩) la (show _=some (Hw sm k nd (.list a oa) tx) from (List.getElem?_set_self hl)) WT
 dsimp only at this
 rw [List.set_set] at this
 exact this
def BU (b:Int):Vl :=
 Vl.mk 2 b 0 (⟨#[]⟩:ByteArray) ([]) ([])
theorem Zcd (w0:World) (B:Aj) (Rw:Am) (L:An) (a0:Int) (r:Vl) (h:BU a0=r) :
  ACalls Tryz.prog w0 18 [Ag a0] ⟨B,Rw,L⟩ fun x st=>x = .agg (r.cs)/\st=⟨B,Rw,L⟩:=by
 rw [BU] at h
 refine hd [.cell 2 60] Tryz.func18 Tryz.ntmps18 fun M0 W0 e c d a f b hs=>?_
 simp only [As]
 refine rg [0,2] hs ?_
 refine rg [2] hs ?_
 exact rT h hs a b
theorem QT (w0:World) (B:Aj) (Rw:Am) (L:An) (a0:Int) :
  ACalls Tryz.prog w0 18 [Ag a0] ⟨B,Rw,L⟩ fun x st=>x = .agg ((BU a0).cs)/\st=⟨B,Rw,L⟩:=Zcd w0 B Rw L a0 _ rfl
def Fq (n:Nat)  : Option Int :=
 some ((-1))
def DI (n:Nat) (q:List (ByteArray × Vl)) (y:(ByteArray × Vl)->Option Bool):Nat->Int->Option Int
 | 0,_=>none
 | m+1,b =>
  if decide (b<(q.length:Int)) then
   (D1 q b).bind fun g =>
   (y g).bind fun h =>
   if h then
    some (b)
   else
    if B1 (b+1) then
     (DI n q y m) (b+1)
    else none
  else
   Fq n 
def C5 (n:Nat) (g:List (ByteArray × Vl)) (b:(ByteArray × Vl)->Option Bool):Option Int :=
 DI n g b n 0
theorem Fg (w0:World) (n:Nat) (B:Aj) (Rw:Am) (L:An) (a0:List (ByteArray × Vl)) (fa1:FuncId) (ca1:List AV) (a1:(ByteArray × Vl)->Option Bool) (ha1:∀ (x0:ByteArray × Vl) r,a1 x0=some r->∀ B' rows,B <+: B'->Rw <+: rows->ACalls Tryz.prog w0 fa1 ([.agg (.val (.string x0.1)::(x0.2.cs))]++ca1) ⟨B',rows,L⟩ fun v s=>v = .val (.bool r)/\s=⟨B',rows,L⟩) (r:Int) (h:C5 n a0 a1=some r) :
  ACalls Tryz.prog w0 77 [.list (a0.map B7) .none,.clo fa1 ca1] ⟨B,Rw,L⟩ fun x st=>x=Ag r/\st=⟨B,Rw,L⟩:=by
 rw [C5] at h
 refine hd [.tmp 4] Tryz.func77 Tryz.ntmps77 fun M0 W0 k g i c l f hs=>?_
 simp only [As]
 have b:=BJ (l (.clo fa1 ca1) (by simp))
 refine rg [0,1] hs ?_
 refine AO (fun e st=>Ck e st B Rw L [] [] [] (Fq n  = some r)) ?_ ?_
 ·intro K4 j
  refine rg [0,1,7,8] hs ?_
  apply Ao
  refine AB (fun m e st=>∃ (d:Int),Ck e st B Rw L [(0,true,.list (a0.map B7) .none),(1,true,.clo fa1 ca1),(7,true,Ag (a0.length:Int)),(8,true,Ag d)] [] [] (DI n a0 a1 m d=some r)) n ⟨0,([]),Rw,ef hs,ef hs,f,h⟩ ?_
  rintro ml6 e st ⟨d,Xl6,Rl6,rfl,rfl,f,h⟩ Ul6 Vl6
  cases ml6 with
  | zero=>cases h
  | succ ml6 =>
  rw [DI] at h
  refine A8 k g i rfl c f (Hv b f) (Hv b f) ?_
  exact go (tg (a:=([0,1,7,8,9],([0,1,7,8],[0,1,5,7,8],[0,1,5,7,8,16],([4],()),[0,1,7,8],[0,1,7,8],()),[],()))) h hs k g i c f (q1 ha1) (q2 j (fun e s=>Vl6 ml6 e s (Nat.lt_succ_self _)))
 ·clear h;rintro e st ⟨Xk3,Rk3,rfl,rfl,f,h⟩
  rw [Fq] at h
  refine A8 k g i rfl c f (Hv b f) (Hv b f) ?_
  refine rg [4] hs ?_
  exact rt h hs c f
def EC (n:Nat) (g:List (ByteArray × Vl)) (b:(ByteArray × Vl)->Option Bool):Option Bool :=
 (C5 n g b).bind fun h =>
 some (decide (0<=h))
theorem Lc (w0:World) (n:Nat) (B:Aj) (Rw:Am) (L:An) (a0:List (ByteArray × Vl)) (fa1:FuncId) (ca1:List AV) (a1:(ByteArray × Vl)->Option Bool) (ha1:∀ (x0:ByteArray × Vl) r,a1 x0=some r->∀ B' rows,B <+: B'->Rw <+: rows->ACalls Tryz.prog w0 fa1 ([.agg (.val (.string x0.1)::(x0.2.cs))]++ca1) ⟨B',rows,L⟩ fun v s=>v = .val (.bool r)/\s=⟨B',rows,L⟩) (r:Bool) (h:EC n a0 a1=some r) :
  ACalls Tryz.prog w0 43 [.list (a0.map B7) .none,.clo fa1 ca1] ⟨B,Rw,L⟩ fun x st=>x = .val (.bool r)/\st=⟨B,Rw,L⟩:=by
 rw [EC] at h
 refine hd [.tmp 4] Tryz.func43 Tryz.ntmps43 fun M0 W0 m i k b j g hs=>?_
 simp only [As]
 have f:=BJ (j (.clo fa1 ca1) (by simp))
 refine rg [0,1] hs ?_
 obtain ⟨o,e,h⟩:=bind_some h
 refine rc 2 [4] hs ?_;intro K2 c
 refine Aq _ (Fg w0 n _ _ _ a0 fa1 ca1 a1 (fun x0 r l d a q1 q2=>ha1 x0 r l d a (List.IsPrefix.trans px q1) (g.pre.trans q2)) _ e) (hv hs) ?_
 refine ne hs c ?_
 clear c
 exact rt h hs b g
def Na (rec:Vl->Option Vl) (n:Nat) (b:Vl) (b2_k13_5:List (ByteArray × Vl)):Option Vl :=
 some (Vl.mk b.kind b.int b.scale b.text ([]) b2_k13_5)
def Kp (rec:Vl->Option Vl) (n:Nat) (h:Vl):Nat->Int->(List (ByteArray × Vl))->Option Vl
 | 0,_,_=>none
 | m+1,b,b2_l16_5 =>
  if decide (b<(h.fields.length:Int)) then
   (D1 h.fields b).bind fun g =>
   (rec g.2).bind fun q =>
   if (b2_l16_5.length+1)*104<=140737488355328/\b2_l16_5.length+1<=4611686018427387904 then
    if B1 (b+1) then
     (Kp rec n h m) (b+1) (b2_l16_5++([(g.1,q)]))
    else none
   else none
  else
   Na rec n h b2_l16_5
def O1 (rec:Vl->Option Vl) (n:Nat) (b:Vl):Option Vl :=
 Kp rec n b n 0 ([])
def Pv (rec:Vl->Option Vl) (n:Nat) (b:Vl):Nat->Option Vl
 | 0=>none
 | m+1 =>
  if decide (0<(b.list.length:Int)) then
   Av
  else
   O1 rec n b 
def QJ (rec:Vl->Option Vl) (n:Nat) (b:Vl):Option Vl :=
 Pv rec n b n 
def Ce:Nat->Vl->Option Vl
 | 0,_=>none
 | n+1,b=>QJ (Ce n) n b
def Qk (w0:World) (F:Vl->Option Vl):Prop:=∀ (B:Aj) (Rw:Am) (L:An) (b:Vl) (r:Vl),F b=some r->ACalls Tryz.prog w0 49 [.agg (b.cs)] ⟨B,Rw,L⟩ fun x st=>x = .agg (r.cs)/\st=⟨B,Rw,L⟩
theorem Vs (w0:World) (rec:Vl->Option Vl) (ih:Qk w0 rec) (n:Nat):Qk w0 (QJ rec n):=by
 intro B Rw L a0 r h
 rw [QJ] at h
 refine hd [.cell 2 60] Tryz.func49 Tryz.ntmps49 fun M0 W0 p k l i t j hs=>?_
 simp only [As]
 refine rg [1,2] hs ?_
 refine rg [1,2,3] hs ?_
 have hs:=Ac (Vl.cs_eqs a0) hs
 refine rg [1,2,3] hs ?_
 refine AO (fun e st=>Ck e st B Rw L [(1,true,.box B.length 0),(2,true,.box (B.length+1) 0),(3,true,.box (B.length+2) 0)] [a0.cs,BS,[Ag a0.kind,Ag a0.int,Ag a0.scale,.val (.string a0.text),.list ([]) .full,.list ([]) .full]] [] (O1 rec n a0  = some r)) ?_ ?_
 ·intro K6 q
  refine rg [1,2,3,12,13,14] hs ?_
  apply Ao
  refine AB (fun m e st=>Ck e st B Rw L [(1,true,.box B.length 0),(2,true,.box (B.length+1) 0),(3,true,.box (B.length+2) 0),(12,true,.list (a0.list.map B6) .none),(13,true,Ag (a0.list.length:Int)),(14,true,Ag 0)] [a0.cs,BS,[Ag a0.kind,Ag a0.int,Ag a0.scale,.val (.string a0.text),.list ([]) .full,.list ([]) .full]] [] (Pv rec n a0 m  = some r)) n ⟨([]),Rw,ef hs,ef hs,j,h⟩ ?_
  rintro ml8 e st ⟨Xl8,Rl8,rfl,rfl,j,h⟩ Ul8 Vl8
  cases ml8 with
  | zero=>cases h
  | succ ml8 =>
  rw [Pv] at h
  exact go (tg (a:=([1,2,3,12,13,14,15],((),()),[1,2,3],()))) h hs p k l i j trivial (q1 q)
 ·clear h;rintro e st ⟨Xk5,Rk5,rfl,rfl,j,h⟩
  rw [O1] at h
  refine td p k l i j ?_
  refine AO (fun e st=>∃ (c:List (ByteArray × Vl)) (f:Ev.Own),Ck e st B Rw L [(2,true,.box (B.length+1) 0),(3,true,.box (B.length+2) 0)] [a0.cs,BS,[Ag a0.kind,Ag a0.int,Ag a0.scale,.val (.string a0.text),.list ([]) .full,.list (c.map B7) f]] [(7,c.length,f)] (Na rec n a0 c=some r)) ?_ ?_
  ·intro K14 o
   refine rg [2,3,27,28,29] hs ?_
   apply Ao
   refine AB (fun m e st=>∃ (g:Int) (b:List (ByteArray × Vl)) (d:Ev.Own),Ck e st B Rw L [(2,true,.box (B.length+1) 0),(3,true,.box (B.length+2) 0),(27,true,.list (a0.fields.map B7) .none),(28,true,Ag (a0.fields.length:Int)),(29,true,Ag g)] [a0.cs,BS,[Ag a0.kind,Ag a0.int,Ag a0.scale,.val (.string a0.text),.list ([]) .full,.list (b.map B7) d]] [(7,b.length,d)] (Kp rec n a0 m g b=some r)) n ⟨0,([]),.full,([]),Rk5,ef hs,ef hs,Owns.of_eq ((j).full 7 0) Fe,h⟩ ?_
   rintro ml16 e st ⟨g,b,d,Xl16,Rl16,rfl,rfl,j,h⟩ Ul16 Vl16
   cases ml16 with
   | zero=>cases h
   | succ ml16 =>
   rw [Kp] at h
   exact go (tg (a:=([2,3,27,28,29,30],([2,3,27,28,29],[2,3,7,27,28,29],[9,2,3,27,28,29],[2,3,27,28,29],()),[2,3],()))) h hs p k l i j (q2 (ae O7 Jo) ih) (q2 o (fun e s=>Vl16 ml16 e s (Nat.lt_succ_self _)))
  ·clear h;rintro e st ⟨c,f,Xk13,Rk13,rfl,rfl,j,h⟩
   rw [Na] at h
   exact go (tg (a:=([2],()))) h hs p k l i j trivial trivial
theorem BX (w0:World):∀ n:Nat,Qk w0 (Ce n)
 | 0=>fun _ _ _ _ _ h=>(nomatch h)
 | n+1=>Vs w0 (Ce n) (BX w0 n) n
def CS (b:Vl):Bool :=
 (((((decide (b.kind=0))&&(decide (b.int=0)))&&(decide (b.scale=0)))&&(OA b.text (⟨#[]⟩:ByteArray)))&&(decide ((b.list.length:Int)=0)))&&(decide ((b.fields.length:Int)=0))
theorem W4 (w0:World) (B:Aj) (Rw:Am) (L:An) (a0:Vl) (r:Bool) (h:CS a0=r) :
  ACalls Tryz.prog w0 45 [.agg (a0.cs)] ⟨B,Rw,L⟩ fun x st=>x = .val (.bool r)/\st=⟨B,Rw,L⟩:=by
 rw [CS] at h
 refine hd [.tmp 2] Tryz.func45 Tryz.ntmps45 fun M0 W0 e c d a f b hs=>?_
 simp only [As]
 refine rg [1] hs ?_
 refine rg [2] hs ?_
 exact rT h hs a b
theorem Dj (w0:World) (B:Aj) (Rw:Am) (L:An) (a0:Vl) :
  ACalls Tryz.prog w0 45 [.agg (a0.cs)] ⟨B,Rw,L⟩ fun x st=>x = .val (.bool (CS a0))/\st=⟨B,Rw,L⟩:=W4 w0 B Rw L a0 _ rfl
def Hg (b:ByteArray × Vl) (g:ByteArray × Vl):Bool :=
 (OA b.1 g.1)&&(!(CS b.2))
theorem Uo (w0:World) (B:Aj) (Rw:Am) (L:An) (a0:ByteArray × Vl) (la1:Nat) (a1:ByteArray × Vl) (hla1:B[la1]? = some (.val (.string a1.1)::(a1.2.cs))) (r:Bool) (h:Hg a0 a1=r) :
  ACalls Tryz.prog w0 44 [.agg (.val (.string a0.1)::(a0.2.cs)),.box la1 0] ⟨B,Rw,L⟩ fun x st=>x = .val (.bool r)/\st=⟨B,Rw,L⟩:=by
 rw [Hg] at h
 refine hd [.tmp 3] Tryz.func44 Tryz.ntmps44 fun M0 W0 g e f a i d hs=>?_
 simp only [As]
 have c:=(Af.1 hla1).1
 have hs:=Ac (AD hla1) hs
 refine rg [1,2] hs ?_
 refine rc 2 [3] hs ?_;intro K2 b
 refine GB _ (fun _=>Dj w0 _ _ _ a0.2) (hv hs) ?_
 refine ne hs b ?_
 clear b
 exact rT h hs a d
theorem Td (w0:World) (B:Aj) (Rw:Am) (L:An) (a0:ByteArray × Vl) (la1:Nat) (a1:ByteArray × Vl) (hla1:B[la1]? = some (.val (.string a1.1)::(a1.2.cs))) :
  ACalls Tryz.prog w0 44 [.agg (.val (.string a0.1)::(a0.2.cs)),.box la1 0] ⟨B,Rw,L⟩ fun x st=>x = .val (.bool (Hg a0 a1))/\st=⟨B,Rw,L⟩:=Uo w0 B Rw L a0 la1 a1 hla1 _ rfl
structure VPre (Rw rows:Am):Prop where
 pre:Rw <+: rows
def Zjz:ByteArray × Vl:=(⟨#[]⟩,Vl.mk 0 0 0 ⟨#[]⟩ [] [])
def MS (l:List (ByteArray × Vl)):List (ByteArray × Vl):=Nv Prod.fst Zjz l
theorem PV (l:List (ByteArray × Vl)):(MS l).length=l.length:=by simp only [MS,Nv,List.length_map];exact Go.Ev.F6 _ _
theorem Je (x:ByteArray × Vl):(B7 x).cells.length=7/\A9 (B7 x)=true:=by simp +decide only [go_sem,and_self]
theorem Yy (x:ByteArray × Vl):(B7 x).pub=B7 x:=by simp +decide only [go_sem]
theorem VK (x:ByteArray × Vl):∀ c∈(B7 x).cells,∀ a b d,Under a b d c:=by
 intro c hc a b d
 simp only [B7,AV.cells,List.mem_cons] at hc
 rcases hc with rfl | hc
 ·exact .val _
 ·exact x.2.under a b d c hc
theorem Zq (w0:World) (st:St):ACalls Tryz.prog w0 46 [.list [] .none,.clo 47 []] st fun r s=>r = .tup []/\s=st:=by
 refine ⟨AU Tryz.func46 rfl (by decide),fun M w d e c=>?_⟩
 obtain ⟨v0,v1,rfl⟩:∃ v0 v1,d = #[v0,v1]:=by
  have hs:=c.1
  simp only [List.length_cons,List.length_nil] at hs
  match d,hs with
  | ⟨[a,b]⟩,_=>exact ⟨a,b,rfl⟩
 have h0:R w0 M w v0 (.list [] .none):=c.2 0 (by simp) (by simp)
 obtain ⟨p,cap,rfl⟩:∃ p cap,v0 = .slice p 0 cap:=by
  generalize hx:AV.list [] Ev.Own.none=x at h0
  cases h0 with
  | nil ho=>exact ⟨_,_,rfl⟩
  | emp ho=>exact ⟨_,_,rfl⟩
  | list sz us hc hm hcell hu ho=>cases hx;exact ⟨_,_,rfl⟩
  | _=>cases hx
 have h:=AnyF.slices_SortFunc_none (P:=Tryz.prog) (ρ:=Tryz.laysSort_ren) Tryz.laysSort p cap v1 w
 refine h.mono ?_
 rintro en g ⟨rfl,rfl⟩
 exact ⟨.tuple #[],M,.tup [],st,rfl,⟨rfl,rfl⟩,.refl _ _ _,e,.tup rfl (fun i f _=>absurd f (by simp))⟩
theorem Zu (w0:World) {st:St} {id ver:Nat} (l:List (ByteArray × Vl)) (hid:st.rows[id]? = some (.vec ver 7 (l.flatMap fun x=>(B7 x).cells))) (hn:0<l.length) (hz:l.length<4611686018427387904) :
  ACalls Tryz.prog w0 46 [.vec id ver 0 l.length,.clo 47 []] st fun r s=>r = .tup []/\s={ st with rows:=st.rows.set id (.vec ver 7 ((MS l).flatMap fun x=>(B7 x).cells)) } :=
 Zm (ρ:=Tryz.laysSort_ren) Tryz.laysSort (AU Tryz.func46 rfl (by decide)) 6 Tryz.isAgg96 Tryz.sizeOf96 47 (AU Tryz.func47 rfl (by decide))
  (fun s e r c W f a b d=>Yp s e r c W f a b d) B7 Prod.fst Zjz l (fun x=>⟨x.2.cs,rfl,Vl.cs_length _⟩) hid hn hz
def I4 (n:Nat) (g:Int->(List (ByteArray × Vl))->Option Vl) (b:Int) (b1_k12_5:List (ByteArray × Vl)):Option Vl :=
 if B1 (b+1) then
  g (b+1) b1_k12_5
 else none
def NP (n:Nat)  (b1_k4_5:List (ByteArray × Vl)):Option Vl :=
 if b1_k4_5.length<4611686018427387904 then
  (Ce n (Vl.mk 9 0 0 (⟨#[]⟩:ByteArray) ([]) (MS b1_k4_5))).bind fun b =>
  some (b)
 else none
def GO (n:Nat) (g:List (ByteArray × Vl)):Nat->Int->(List (ByteArray × Vl))->Option Vl
 | 0,_,_=>none
 | m+1,b,b1_l7_5 =>
  if decide (b<(g.length:Int)) then
   (D1 g b).bind fun h =>
   if B1 (b+1) then
    if 0<=b+1/\b+1<=(g.length:Int)/\(g.length:Int)<=(g.length:Int) then
     (EC n (g.drop (b+1).toNat) (fun (y:ByteArray × Vl)=>some (Hg y h))).bind fun q =>
     if (!(CS h.2))&&(!q) then
      if (b1_l7_5.length+1)*104<=140737488355328/\b1_l7_5.length+1<=4611686018427387904 then
       I4 n (GO n g m) b (b1_l7_5++([h]))
      else none
     else
      I4 n (GO n g m) b b1_l7_5
    else none
   else none
  else
   NP n b1_l7_5
def HH (n:Nat) (b:List (ByteArray × Vl)):Option Vl :=
 GO n b n 0 ([])
theorem J6 (w0:World) (n:Nat) (B:Aj) (Rw:Am) (L:An) (a0:List (ByteArray × Vl)) (r:Vl) (h:HH n a0=some r) :
  ACalls Tryz.prog w0 25 [.list (a0.map B7) .none] ⟨B,Rw,L⟩ fun x st=>x = .agg (r.cs)/\st=⟨B,Rw,L⟩:=by
 rw [HH] at h
 refine hd [.cell 2 60] Tryz.func25 Tryz.ntmps25 fun M0 W0 Q t u l hu o hs=>?_
 simp only [As]
 refine rg [0,2] hs ?_
 apply Ah;intro K2 K
 apply Ap 1 [0,2,3]
 rw [Ai];simp +decide only [go_sem,Nat.reduceAdd,EE,C0,Ci]
 (repeat' apply Ac)<;>first | refine K _ _ ?_ | exact cl
 clear K
 refine AO (fun e st=>∃ (b:List (ByteArray × Vl)) (k:AV) (Xk4:Aj) (Rk4:Am),e=[(2,true,.box B.length 0),(3,true,.box (B.length+1) 0)]/\st=⟨B++([BS,[Ag 9,Ag 0,Ag 0,.val (.string (⟨#[]⟩:ByteArray)),.list ([]) .full,k]]++Xk4),Rk4,L⟩/\VOne Rw Rk4 7 (b.map B7) k/\NP n b=some r) ?_ ?_
 ·intro K5 aa
  refine LW (B.length+1) 5 (by first | rfl | (simp only [C6,Cd];rfl)) rfl ?_;simp +decide only [go_sem,Nat.reduceAdd,List.set_cons_succ,List.set_cons_zero]
  refine rg [0,2,3,8,9,10] hs ?_
  apply Ao
  refine AB (fun m e st=>∃ (i:Int) (c:List (ByteArray × Vl)) (d:AV) (Xl7:Aj) (Rl7:Am),e=[(0,true,.list (a0.map B7) .none),(2,true,.box B.length 0),(3,true,.box (B.length+1) 0),(8,true,.list (a0.map B7) .none),(9,true,Ag (a0.length:Int)),(10,true,Ag i)]/\st=⟨B++([BS,[Ag 9,Ag 0,Ag 0,.val (.string (⟨#[]⟩:ByteArray)),.list ([]) .full,d]]++Xl7),Rl7,L⟩/\VOne Rw Rl7 7 (c.map B7) d/\GO n a0 m i c=some r) n ⟨0,[],.list [] .seed,[],Rw,ef hs,ef hs,VOne.none Rw 7,h⟩ ?_
  rintro ml7 e st ⟨i,c,d,Xl7,Rl7,rfl,rfl,o,h⟩ Ul7 Vl7
  cases ml7 with
  | zero=>cases h
  | succ ml7 =>
  rw [GO] at h
  have hU:=o.under (B.length+2) L.length
  refine tdV Q t u l o ?_
  refine rg [0,2,3,8,9,10,11] hs ?_
  apply Ah;intro K9 O
  refine BA h hs ?_ ?_<;>intro hs h
  rotate_left
  ·refine sx [2,3] hs aa ?_
   exact ⟨c,d,([]),Rl7,ef hs,ef hs,VOne.of_eq o (by simp only [List.map_append,List.map_cons,List.map_nil]),h⟩
  refine sk [0,2,3,8,9,10] hs O ?_
  clear O
  refine AO (fun e st=>∃ (j:List (ByteArray × Vl)) (g:AV) (Xk12:Aj) (Rk12:Am),e=[(0,true,.list (a0.map B7) .none),(2,true,.box B.length 0),(3,true,.box (B.length+1) 0),(8,true,.list (a0.map B7) .none),(9,true,Ag (a0.length:Int)),(10,true,Ag i)]/\st=⟨B++([BS,[Ag 9,Ag 0,Ag 0,.val (.string (⟨#[]⟩:ByteArray)),.list ([]) .full,g]]++Xk12),Rk12,L⟩/\VOne Rw Rk12 7 (j.map B7) g/\I4 n (GO n a0 ml7) i j=some r) ?_ ?_
  ·intro K13 w
   apply Ao
   obtain ⟨x15,J,h⟩:=bind_some h
   obtain ⟨Y,Z,H⟩:=Bo J
   have G:=Bq (f:=B7) H
   have hs:=Ac G hs
   refine rg [0,2,3,4,5,8,9,10] hs ?_
   obtain ⟨ag,h⟩:=Ak h
   obtain ⟨ah,h⟩:=Ak h
   obtain ⟨ak,hy19,h⟩:=bind_some h
   refine rc 2 [0,2,3,5,6,8,9,10] hs ?_;intro K16 F
   refine Aq _ (Lc w0 n _ _ _ (a0.drop (i+1).toNat) 44 [.box (B.length+2) 0] (fun (x0:ByteArray × Vl)=>some (Hg x0 x15)) (fun x0 r hx B' rows' hB' aj=>by cases hx;exact Td w0 _ _ _ x0 _ x15 (Ej hB' (ef hs))) _ hy19) (hv hs) ?_
   refine ne hs F ?_
   clear F
   refine rc 2 [0,2,3,5,8,9,10,28] hs ?_;intro K20 C
   refine Aq _ (Dj w0 _ _ _ x15.2) (hv hs) ?_
   refine ne hs C ?_
   clear C
   refine BA h hs ?_ ?_<;>intro hs h
   ·obtain ⟨D,h⟩:=Ak h
    obtain ⟨V,v,o,p⟩:=o.append (P:=Tryz.prog) (y:=B7 x15) O7 (by rw [Jo];rfl) (by decide) (by rw [List.length_map];exact D.1) (by rw [List.length_map];exact D.2) (Je x15) (Yy x15) (VK x15) (fun z hz=>by obtain ⟨y,_,rfl⟩:=List.mem_map.1 hz;exact (Je y).1)
    simp only [AX] at p
    replace p:=Ac p o.cell
    have hs:=Ac p hs
    refine rl [0,2,3,8,9,10] hs w ?_
    exact ⟨(c++([x15])),V,([.val (.string x15.1)::(x15.2.cs)]),v,ef hs,ef hs,VOne.of_eq o (by simp only [List.map_append,List.map_cons,List.map_nil]),h⟩
   refine sk [0,2,3,8,9,10] hs w ?_
   exact ⟨c,d,([.val (.string x15.1)::(x15.2.cs)]),Rl7,ef hs,ef hs,VOne.of_eq o (by simp only [List.map_append,List.map_cons,List.map_nil]),h⟩
  ·clear h;rintro e st ⟨j,g,Xk12,Rk12,rfl,rfl,o,h⟩
   rw [I4] at h
   have hU:=o.under (B.length+2) L.length
   refine tdV Q t u l o ?_
   obtain ⟨ai,h⟩:=Ak h
   refine rl [0,2,3,8,9,10] hs (fun e s=>Vl7 ml7 e s (Nat.lt_succ_self _)) ?_
   exact ⟨(i+1),j,g,([]),Rk12,ef hs,ef hs,VOne.of_eq o (by simp only [List.map_append,List.map_cons,List.map_nil]),h⟩
 ·clear h;rintro e st ⟨b,k,Xk4,Rk4,rfl,rfl,o,h⟩
  rw [NP] at h
  have hU:=o.under (B.length+2) L.length
  refine tdV Q t u l o ?_
  obtain ⟨ad,h⟩:=Ak h
  rcases o.at_ with ⟨hnil,rfl⟩ | ⟨id,ver,rfl,hpos,hid,hrow⟩
  ·have hb0:b=[]:=List.map_eq_nil_iff.1 hnil
   subst hb0
   refine rc 2 [2,3] hs ?_;intro K27 q
   refine Aq _ (Zq w0 _) (hv hs) ?_
   refine ne hs q ?_
   clear q
   obtain ⟨ab,E,h⟩:=bind_some h
   rw [show MS []=[] from List.eq_nil_of_length_eq_zero (PV [])] at E
   exact go (tg (a:=([2],()))) h hs Q t u l o (q1 (BX w0 n)) trivial
  ·rw [List.length_map] at hpos
   rw [List.length_map]
   rw [show ((b.map B7).flatMap AV.cells)=b.flatMap fun x=>(B7 x).cells from List.flatMap_map ..] at hrow
   refine rc 2 [2,3] hs ?_;intro K27 q
   refine Bm _ (Zu w0 (st:=⟨_,_,_⟩) b hrow hpos ad) (hv hs) ?_;rintro _ _ ⟨rfl,rfl⟩
   refine ne hs q ?_
   clear q
   have af:=(Af.1 hrow).1
   have U:Df (Rk4.set id (.vec ver 7 ((MS b).flatMap fun x=>(B7 x).cells))) id ver=some (7,(MS b).flatMap fun x=>(B7 x).cells):=by simp [Df,af]
   have N:(MS b).length=b.length:=PV _
   refine NX (B.length+1) 5 true (by first | rfl | (simp only [C6,Cd];rfl)) rfl U (.inl rfl) (by rw [Nat.zero_add,Qg (fun x _=>(Je x).1),N];exact Nat.le_refl _) ?_
   have ae:M5 7 true ((MS b).flatMap fun x=>(B7 x).cells) 0 b.length=(MS b).map B7:=by
    have:=ZW (ys:=(MS b).map B7) (sz:=7) (fun y hy=>by obtain ⟨x,_,rfl⟩:=List.mem_map.1 hy;exact ⟨_,rfl,(Je x).1⟩)
    rw [List.length_map,N,List.flatMap_map] at this
    exact this
   rw [ae]
   simp +decide only [go_sem,Nat.reduceAdd,List.set_cons_succ,List.set_cons_zero]
   obtain ⟨ab,E,h⟩:=bind_some h
   have o:VPre Rw ((Rk4.set id (.vec ver 7 ((MS b).flatMap fun x=>(B7 x).cells))).set id (.dead (ver+1))):=⟨L1 (L1 o.pre hid _) hid _⟩
   exact go (tg (a:=([2],()))) h hs Q t u l o (q1 (BX w0 n)) trivial
def Ko (n:Nat) (b:Int) (g:Int):Option Inp :=
 (HH n ([((⟨#[110]⟩:ByteArray),(BU g))])).bind fun h =>
 some (Inp.mk 1 0 ((0,[])) (Msg.mk ((b,[1])) 1048576 ([b]) h) 0 false false (Vl.mk 0 0 0 (⟨#[]⟩:ByteArray) ([]) ([])))
theorem Qc (w0:World) (n:Nat) (B:Aj) (Rw:Am) (L:An) (a0:Int) (a1:Int) (r:Inp) (h:Ko n a0 a1=some r) :
  ACalls Tryz.prog w0 9 [Ag a0,Ag a1] ⟨B,Rw,L⟩ fun x st=>x = .agg (Xh r)/\st=⟨B,Rw,L⟩:=by
 rw [Ko] at h
 refine hd [.cell 4 64] Tryz.func9 Tryz.ntmps9 fun M0 W0 f c d b j e hs=>?_
 simp only [As]
 have hs:=Ac alp hs
 have hs:=Ac mpn hs
 refine rg [0,1,4] (cm hs) ?_
 obtain ⟨i,g,h⟩:=bind_some h
 have hs:=Ac (Vl.cs_eqs (BU a1)) hs
 have hs:=Ac (Vl.cs_eqs i) hs
 exact go (tg (a:=([4],()))) h (cm hs) f c d b e (q2 (QT w0) (J6 w0 n)) trivial
def Hk (n:Nat) (a0:Int) (h:Int) (g:Bool) (y:Bool) (b:Int):Option Inp :=
 (HH n ([((⟨#[111,107]⟩:ByteArray),(BU b))])).bind fun q =>
 some (Inp.mk 3 0 ((a0,[1])) (Msg.mk ((0,[])) 0 ([]) (Vl.mk 0 0 0 (⟨#[]⟩:ByteArray) ([]) ([]))) h g y q)
theorem KY (w0:World) (n:Nat) (B:Aj) (Rw:Am) (L:An) (a0:Int) (a1:Int) (a2:Bool) (a3:Bool) (a4:Int) (r:Inp) (h:Hk n a0 a1 a2 a3 a4=some r) :
  ACalls Tryz.prog w0 12 [Ag a0,Ag a1,.val (.bool a2),.val (.bool a3),Ag a4] ⟨B,Rw,L⟩ fun x st=>x = .agg (Xh r)/\st=⟨B,Rw,L⟩:=by
 rw [Hk] at h
 refine hd [.cell 10 64] Tryz.func12 Tryz.ntmps12 fun M0 W0 f c d b g e hs=>?_
 simp only [As]
 exact go (tg (a:=([0,1,2,3,4,10],[10],()))) h hs f c d b e (q2 (QT w0) (J6 w0 n)) trivial
instance (k:IntKind) (n:Int):Decidable (inK k n):=by cases k<;>exact inferInstanceAs (Decidable (_/\_))
def ZaA (n:Int):ByteArray:=⟨#[UInt8.ofNat n.toNat]⟩
@[go_sem] theorem Zfn (n:Int):E4 [.val (.int .u8 n)]=ZaA n:=rfl
@[go_sem] theorem ZM (n:Int):Tn (.val (.int .u8 n))=(0<=n/\n<=255):=rfl
@[go_sem] theorem Zhb (n:Int):(ZaA n).size=1:=rfl
@[go_sem] theorem ZfI:E4 []=(⟨#[]⟩:ByteArray):=rfl
@[go_sem] theorem ZeA (k:Nat):(∀ y∈List.replicate k (AV.val (.int .u8 0)),Tn y)<->True:=iff_true_intro fun y a=>by
 rw [List.eq_of_mem_replicate a,ZM];omega
def Ig (b:Int):Option ByteArray :=
 if B1 (48+(b.tmod 10)) then
  if 0<=48+(b.tmod 10)/\48+(b.tmod 10)<=255 then
   if decide (9<b) then
    Av
   else
    some (ZaA (48+(b.tmod 10)))
  else none
 else none
theorem NW (w0:World) (B:Aj) (Rw:Am) (L:An) (a0:Int) (r:ByteArray) (h:Ig a0=some r) :
  ACalls Tryz.prog w0 17 [Ag a0] ⟨B,Rw,L⟩ fun x st=>x = .val (.string r)/\st=⟨B,Rw,L⟩:=by
 rw [Ig] at h
 refine hd [.tmp 2] Tryz.func17 Tryz.ntmps17 fun M0 W0 f c d b g e hs=>?_
 simp only [As]
 exact go (tg (a:=([0],[0,3],[0,3,11],((),()),[3],[2],()))) h hs f c d b e trivial trivial
def AC (b:Int):Ty :=
 Ty.mk 2 0 b 0 ([]) ([]) ([])
theorem Un (w0:World) (B:Aj) (Rw:Am) (L:An) (a0:Int) (r:Ty) (h:AC a0=r) :
  ACalls Tryz.prog w0 16 [Ag a0] ⟨B,Rw,L⟩ fun x st=>x = .agg (r.cs)/\st=⟨B,Rw,L⟩:=by
 rw [AC] at h
 refine hd [.cell 2 28] Tryz.func16 Tryz.ntmps16 fun M0 W0 e c d a f b hs=>?_
 simp only [As]
 refine rg [0,2] hs ?_
 refine rg [2] hs ?_
 exact rT h hs a b
theorem He (w0:World) (B:Aj) (Rw:Am) (L:An) (a0:Int) :
  ACalls Tryz.prog w0 16 [Ag a0] ⟨B,Rw,L⟩ fun x st=>x = .agg ((AC a0).cs)/\st=⟨B,Rw,L⟩:=Un w0 B Rw L a0 _ rfl
def AW (g:ByteArray) (b:Ty):Ty :=
 Ty.mk 9 0 0 0 ([]) ([]) ([(1,g,1,b,[])])
theorem Uh (w0:World) (B:Aj) (Rw:Am) (L:An) (a0:ByteArray) (a1:Ty) (r:Ty) (h:AW a0 a1=r) :
  ACalls Tryz.prog w0 15 [.val (.string a0),.agg (a1.cs)] ⟨B,Rw,L⟩ fun x st=>x = .agg (r.cs)/\st=⟨B,Rw,L⟩:=by
 rw [AW] at h
 refine hd [.cell 4 28] Tryz.func15 Tryz.ntmps15 fun M0 W0 e c d a f b hs=>?_
 simp only [As]
 have hs:=Ac alp hs
 have hs:=Ac mpn hs
 have hs:=Ac mpc hs
 refine rg [0,3,4] (cm hs) ?_
 have hs:=Ac (Ty.cs_eqs a1) hs
 refine rg [4] (cm hs) ?_
 exact rT h (cm hs) a b
theorem Hm (w0:World) (B:Aj) (Rw:Am) (L:An) (a0:ByteArray) (a1:Ty) :
  ACalls Tryz.prog w0 15 [.val (.string a0),.agg (a1.cs)] ⟨B,Rw,L⟩ fun x st=>x = .agg ((AW a0 a1).cs)/\st=⟨B,Rw,L⟩:=Uh w0 B Rw L a0 a1 _ rfl
def FQ (g:ByteArray) (b:ByteArray):((List (ByteArray × Ex))) :=
 [(g,Ex.mk 2 0 b ([]) ([]))]
theorem Xc (w0:World) (B:Aj) (Rw:Am) (L:An) (a0:ByteArray) (a1:ByteArray) (r:(List (ByteArray × Ex))) (h:FQ a0 a1=r) :
  ACalls Tryz.prog w0 14 [.val (.string a0),.val (.string a1)] ⟨B,Rw,L⟩ fun x st=>x = .agg ([.list (r.map Do) .none])/\st=⟨B,Rw,L⟩:=by
 rw [FQ] at h
 refine hd [.cell 4 32] Tryz.func14 Tryz.ntmps14 fun M0 W0 e c d a f b hs=>?_
 simp only [As]
 refine rg [0,1,4] hs ?_
 refine rg [4] hs ?_
 exact rT h hs a b
theorem L8 (w0:World) (B:Aj) (Rw:Am) (L:An) (a0:ByteArray) (a1:ByteArray) :
  ACalls Tryz.prog w0 14 [.val (.string a0),.val (.string a1)] ⟨B,Rw,L⟩ fun x st=>x = .agg ([.list ((FQ a0 a1).map Do) .none])/\st=⟨B,Rw,L⟩:=Xc w0 B Rw L a0 a1 _ rfl
def NY (n:Nat) (y:Int) (h:Int) (g:Int) (q:Int) (b1_k4_15:List Ty) (b1_k4_18:List (ByteArray × List (ByteArray × Ex))):Option Nod :=
 (Ig y).bind fun b =>
 if ((⟨#[114,101,112,108,121]⟩:ByteArray)).size+b.size<=9223372036854775807 then
  if (((⟨#[114,101,112,108,121]⟩:ByteArray))++b).size+((⟨#[46,111,107]⟩:ByteArray)).size<=9223372036854775807 then
   some (Nod.mk ((⟨#[115,97,103,97]⟩:ByteArray)) 10 0 0 0 h g (⟨#[]⟩:ByteArray) ((AW ((⟨#[110]⟩:ByteArray)) (AC q))) b1_k4_15 ([]) ((FQ ((⟨#[110]⟩:ByteArray)) ((((⟨#[114,101,112,108,121]⟩:ByteArray))++b)++((⟨#[46,111,107]⟩:ByteArray))))) b1_k4_18 ([]))
  else none
 else none
def J4 (n:Nat) (h:Int) (y:Int) (q:Int) (a3:Int):Nat->Int->(List Ty)->(List (ByteArray × List (ByteArray × Ex)))->Option Nod
 | 0,_,_,_=>none
 | m+1,b,b1_l7_15,b1_l7_18 =>
  if decide (b<h) then
   (Ig b).bind fun g =>
   if ((⟨#[115]⟩:ByteArray)).size+g.size<=9223372036854775807 then
    if (b1_l7_18.length+1)*40<=140737488355328/\b1_l7_18.length+1<=4611686018427387904 then
     if (b1_l7_15.length+2)*104<=140737488355328/\b1_l7_15.length+2<=4611686018427387904 then
      if B1 (b+1) then
       (J4 n h y q a3 m) (b+1) (b1_l7_15++([AW ((⟨#[110]⟩:ByteArray)) (AC 99),AW ((⟨#[111,107]⟩:ByteArray)) (AC 9)])) (b1_l7_18++([(((⟨#[115]⟩:ByteArray))++g,(FQ ((⟨#[110]⟩:ByteArray)) ((⟨#[98,111,100,121,46,110]⟩:ByteArray))))]))
      else none
     else none
    else none
   else none
  else
   NY n h y q a3 b1_l7_15 b1_l7_18
def Jp (n:Nat) (h:Int) (g:Int) (q:Int) (b:Int):Option Nod :=
 J4 n h g q b n 0 ([]) ([])
theorem Q8 (w0:World) (n:Nat) (B:Aj) (Rw:Am) (L:An) (a0:Int) (a1:Int) (a2:Int) (a3:Int) (r:Nod) (h:Jp n a0 a1 a2 a3=some r) :
  ACalls Tryz.prog w0 6 [Ag a0,Ag a1,Ag a2,Ag a3] ⟨B,Rw,L⟩ fun x st=>x = .agg (Rf r)/\st=⟨B,Rw,L⟩:=by
 rw [Jp] at h
 refine hd [.cell 8 36] Tryz.func6 Tryz.ntmps6 fun M0 W0 hN U aa q hu p hs=>?_
 simp only [As]
 refine rg [0,1,2,3,8] hs ?_
 refine rc 4 [0,3,8,9] hs ?_;intro K2 N
 refine Aq _ (L8 w0 _ _ _ ((⟨#[110]⟩:ByteArray)) ((⟨#[98,111,100,121,46,110]⟩:ByteArray))) (hv hs) ?_
 refine nc hs ?_
 refine Aq _ (He w0 _ _ _ 99) (hv hs) ?_
 refine nc hs ?_
 refine Aq _ (Hm w0 _ _ _ ((⟨#[110]⟩:ByteArray)) (AC 99)) (hv hs) ?_
 refine ne hs N ?_
 clear N
 refine AO (fun e st=>∃ (f:List Ty) (g:List (ByteArray × List (ByteArray × Ex))) (j:Ev.Own) (i:Ev.Own),Ck e st B Rw L [(0,true,Ag a0),(3,true,Ag a3),(8,true,.box B.length 0),(9,true,.box (B.length+1) 0)] [[.val (.string (⟨#[]⟩:ByteArray)),Ag 0,Ag 0,Ag 0,Ag 0,Ag 0,Ag 0,.val (.string (⟨#[]⟩:ByteArray)),Ag 0,Ag 0,Ag 0,Ag 0,.list ([]) .full,.list ([]) .full,.list ([]) .full,.list ([]) .full,.list ([]) .full,.list ([]) .full,.list ([]) .full,.list ([]) .full],[.val (.string ((⟨#[115,97,103,97]⟩:ByteArray))),Ag 10,Ag 0,Ag 0,Ag 0,Ag a1,Ag a2,.val (.string (⟨#[]⟩:ByteArray)),Ag ((AW ((⟨#[110]⟩:ByteArray)) (AC 99)).kind),Ag ((AW ((⟨#[110]⟩:ByteArray)) (AC 99)).min),Ag ((AW ((⟨#[110]⟩:ByteArray)) (AC 99)).max),Ag ((AW ((⟨#[110]⟩:ByteArray)) (AC 99)).scale),.list (((AW ((⟨#[110]⟩:ByteArray)) (AC 99)).words).map RX) .none,.list (((AW ((⟨#[110]⟩:ByteArray)) (AC 99)).elem).map JX) .none,.list (((AW ((⟨#[110]⟩:ByteArray)) (AC 99)).fields).map Gl) .none,.list (f.map JX) j,.list ([]) .full,.list (((FQ ((⟨#[110]⟩:ByteArray)) ((⟨#[98,111,100,121,46,110]⟩:ByteArray)))).map Do) .none,.list (g.map KJ) i,.list ([]) .full]] [(7,f.length,j),(2,g.length,i)] (NY n a0 a1 a2 a3 f g=some r)) ?_ ?_
 ·intro K5 ag
  refine rg [0,3,8,9,10] hs ?_
  apply Ao
  refine AB (fun m e st=>∃ (k:Int) (b:List Ty) (a:List (ByteArray × List (ByteArray × Ex))) (d:Ev.Own) (c:Ev.Own),Ck e st B Rw L [(0,true,Ag a0),(3,true,Ag a3),(8,true,.box B.length 0),(9,true,.box (B.length+1) 0),(10,true,Ag k)] [[.val (.string (⟨#[]⟩:ByteArray)),Ag 0,Ag 0,Ag 0,Ag 0,Ag 0,Ag 0,.val (.string (⟨#[]⟩:ByteArray)),Ag 0,Ag 0,Ag 0,Ag 0,.list ([]) .full,.list ([]) .full,.list ([]) .full,.list ([]) .full,.list ([]) .full,.list ([]) .full,.list ([]) .full,.list ([]) .full],[.val (.string ((⟨#[115,97,103,97]⟩:ByteArray))),Ag 10,Ag 0,Ag 0,Ag 0,Ag a1,Ag a2,.val (.string (⟨#[]⟩:ByteArray)),Ag ((AW ((⟨#[110]⟩:ByteArray)) (AC 99)).kind),Ag ((AW ((⟨#[110]⟩:ByteArray)) (AC 99)).min),Ag ((AW ((⟨#[110]⟩:ByteArray)) (AC 99)).max),Ag ((AW ((⟨#[110]⟩:ByteArray)) (AC 99)).scale),.list (((AW ((⟨#[110]⟩:ByteArray)) (AC 99)).words).map RX) .none,.list (((AW ((⟨#[110]⟩:ByteArray)) (AC 99)).elem).map JX) .none,.list (((AW ((⟨#[110]⟩:ByteArray)) (AC 99)).fields).map Gl) .none,.list (b.map JX) d,.list ([]) .full,.list (((FQ ((⟨#[110]⟩:ByteArray)) ((⟨#[98,111,100,121,46,110]⟩:ByteArray)))).map Do) .none,.list (a.map KJ) c,.list ([]) .full]] [(7,b.length,d),(2,a.length,c)] (J4 n a0 a1 a2 a3 m k b a=some r)) n ⟨0,([]),([]),.full,.full,([]),Rw,ef hs,ef hs,Owns.of_eq (((p).full 2 0).full 7 0) Fe,h⟩ ?_
  rintro ml7 e st ⟨k,b,a,d,c,Xl7,Rl7,rfl,rfl,p,h⟩ Ul7 Vl7
  cases ml7 with
  | zero=>cases h
  | succ ml7 =>
  rw [J4] at h
  have K:=p.unders
  simp only [List.mem_cons,List.not_mem_nil,or_false,forall_eq_or_imp,forall_eq] at K
  obtain ⟨ad,aj⟩:=K
  refine td hN U aa q p ?_
  apply Ah;intro K8 Q
  refine rg [0,3,8,9,10,19] hs ?_
  refine BA h hs ?_ ?_<;>intro hs h
  rotate_left
  ·refine sx [0,3,8,9] hs ag ?_
   exact ⟨b,a,d,c,([]),Rl7,ef hs,ef hs,Owns.of_eq (((p).swap (List.Perm.swap _ _ _)).swap (List.Perm.swap _ _ _)) Fe,h⟩
  refine sk [0,3,8,9,10] hs Q ?_
  clear Q
  apply Ah;intro K11 D
  apply Ao
  obtain ⟨af,Z,h⟩:=bind_some h
  obtain ⟨J,h⟩:=Ak h
  have G:=J
  try simp +decide only [go_sem] at G
  obtain ⟨C,h⟩:=Ak h
  have p:=p.swap (List.Perm.swap _ _ _)
  obtain ⟨ah,ab,p,l⟩:=p.append (P:=Tryz.prog) ZgQ (by rw [Zcl];rfl) (by decide) 1 C.1 C.2
  replace l:=fun (ys:List AV) B L o2=>l (a.map KJ) ys B L o2 Fe
  replace l:=fun (y:AV) B L o2=>l [y] B L o2 Fe (by simp +decide only [go_sem,Nat.reduceAdd])
  try simp only [List.mem_singleton,List.mem_cons,List.not_mem_nil,or_false,forall_eq_or_imp,forall_eq,List.map_append,List.map_cons,List.map_nil,A2,A0,AY,A3,AZ,AX,AN,AG,A1,Ax,Az,AH,AM,AL,A5,AK,A6] at l
  have hs:=Ac l hs
  apply Ah;intro K12 w
  refine dk 8 3 1 [0,3,8,9,10] hs GP ?_
  refine Aq _ (NW w0 _ _ _ k _ Z) (hv hs) ?_
  refine nc hs ?_
  refine Aq _ (L8 w0 _ _ _ ((⟨#[110]⟩:ByteArray)) ((⟨#[98,111,100,121,46,110]⟩:ByteArray))) (hv hs) ?_
  refine dn hs w ?_
  clear w
  obtain ⟨z,h⟩:=Ak h
  have p:=p.swap (List.Perm.swap _ _ _)
  obtain ⟨ai,t,p,o⟩:=p.append (P:=Tryz.prog) ZaI (by rw [Xy];rfl) (by decide) 2 z.1 z.2
  replace o:=fun (ys:List AV) B L o2=>o (b.map JX) ys B L o2 Fe
  replace o:=fun B L o2=>o (([AW ((⟨#[110]⟩:ByteArray)) (AC 99),AW ((⟨#[111,107]⟩:ByteArray)) (AC 9)]).map JX) B L o2 Fe ev
  try simp only [List.mem_singleton,List.mem_cons,List.not_mem_nil,or_false,forall_eq_or_imp,forall_eq,List.map_append,List.map_cons,List.map_nil,A2,A0,AY,A3,AZ,AX,AN,AG,A1,Ax,Az,AH,AM,AL,A5,AK,A6] at o
  have hs:=Ac o hs
  refine dk 7 5 1 [0,3,8,9,10] hs GP ?_
  refine Aq _ (He w0 _ _ _ 99) (hv hs) ?_
  refine nc hs ?_
  refine Aq _ (Hm w0 _ _ _ ((⟨#[110]⟩:ByteArray)) (AC 99)) (hv hs) ?_
  refine nc hs ?_
  refine Aq _ (He w0 _ _ _ 9) (hv hs) ?_
  refine nc hs ?_
  refine Aq _ (Hm w0 _ _ _ ((⟨#[111,107]⟩:ByteArray)) (AC 9)) (hv hs) ?_
  refine dn hs D ?_
  clear D
  obtain ⟨ak,h⟩:=Ak h
  refine rl [0,3,8,9,10] hs (fun e s=>Vl7 ml7 e s (Nat.lt_succ_self _)) ?_
  exact ⟨(k+1),(b++([AW ((⟨#[110]⟩:ByteArray)) (AC 99),AW ((⟨#[111,107]⟩:ByteArray)) (AC 9)])),(a++([(((⟨#[115]⟩:ByteArray))++af,(FQ ((⟨#[110]⟩:ByteArray)) ((⟨#[98,111,100,121,46,110]⟩:ByteArray))))])),ai,ah,([]),t,ef hs,ef hs,Owns.of_eq (((p).swap (List.Perm.swap _ _ _)).swap (List.Perm.swap _ _ _)) Fe,h⟩
 ·clear h;rintro e st ⟨f,g,j,i,Xk4,Rk4,rfl,rfl,p,h⟩
  rw [NY] at h
  have K:=p.unders
  simp only [List.mem_cons,List.not_mem_nil,or_false,forall_eq_or_imp,forall_eq] at K
  obtain ⟨ad,aj⟩:=K
  refine td hN U aa q p ?_
  obtain ⟨ae,V,h⟩:=bind_some h
  obtain ⟨Y,h⟩:=Ak h
  have H:=Y
  try simp +decide only [go_sem] at H
  obtain ⟨O,h⟩:=Ak h
  have F:=O
  try simp +decide only [go_sem] at F
  refine rc 3 [3,8,9] hs ?_;intro K24 E
  refine Aq _ (NW w0 _ _ _ a0 _ V) (hv hs) ?_
  refine nc hs ?_
  refine Aq _ (L8 w0 _ _ _ ((⟨#[110]⟩:ByteArray)) ((((⟨#[114,101,112,108,121]⟩:ByteArray))++ae)++((⟨#[46,111,107]⟩:ByteArray)))) (hv hs) ?_
  refine ne hs E ?_
  clear E
  apply Ah;intro K28 u
  apply Ap 3 [8,9]
  rw [Ai];simp +decide only [go_sem,Nat.reduceAdd,Ty.cs_eqs (AW ((⟨#[110]⟩:ByteArray)) (AC a3))]
  (repeat' apply Ac)<;>first | refine Aq _ (He w0 _ _ _ a3) (by first | rfl | (simp +decide only [go_sem,Nat.reduceAdd,Ty.cs_eqs (AW ((⟨#[110]⟩:ByteArray)) (AC a3))];done) | (simp +decide only [go_sem,Nat.reduceAdd,Vl.cs,Ty.cs,Ty.cs_eqs (AW ((⟨#[110]⟩:ByteArray)) (AC a3))];done)) ?_ | exact cl
  rw [Ai];simp +decide only [go_sem,Nat.reduceAdd,Ty.cs_eqs (AW ((⟨#[110]⟩:ByteArray)) (AC a3))]
  (repeat' apply Ac)<;>first | refine Aq _ (Hm w0 _ _ _ ((⟨#[110]⟩:ByteArray)) (AC a3)) (by first | rfl | (simp +decide only [go_sem,Nat.reduceAdd,Ty.cs_eqs (AW ((⟨#[110]⟩:ByteArray)) (AC a3))];done) | (simp +decide only [go_sem,Nat.reduceAdd,Vl.cs,Ty.cs,Ty.cs_eqs (AW ((⟨#[110]⟩:ByteArray)) (AC a3))];done)) ?_ | exact cl
  rw [Ai];simp +decide only [go_sem,Nat.reduceAdd,Ty.cs_eqs (AW ((⟨#[110]⟩:ByteArray)) (AC a3))]
  (repeat' apply Ac)<;>first | refine u _ _ ?_ | exact cl
  clear u
  apply Ah;intro K29 v
  apply Ap 1 [8]
  rw [Ai];simp +decide only [go_sem,Nat.reduceAdd,Ty.cs_eqs (AW ((⟨#[110]⟩:ByteArray)) (AC a3))]
  (repeat' apply Ac)<;>first | refine v _ _ ?_ | exact cl
  clear v
  apply BC;simp +decide only [go_sem,Nat.reduceAdd,Ty.cs_eqs (AW ((⟨#[110]⟩:ByteArray)) (AC a3))]
  have hgt:=Option.some.inj h;subst hgt
  first | refine Cb q rfl p.pre ev ⟨?_,rfl⟩ | refine Dq q rfl p.pre ev ⟨?_,rfl⟩
  first | rfl | (simp +decide only [go_sem,Nat.reduceAdd,Ty.cs_eqs (AW ((⟨#[110]⟩:ByteArray)) (AC a3))];done) | (simp +decide only [go_sem,Nat.reduceAdd,Vl.cs,Ty.cs,Ty.cs_eqs (AW ((⟨#[110]⟩:ByteArray)) (AC a3))];done)
def BI (b:Int × List Int):Option ((Int × List Int)) :=
 if b.2.length*8<=140737488355328 then
  some (b)
 else none
theorem CZ (w0:World) (B:Aj) (Rw:Am) (L:An) (a0:Int × List Int) (r:(Int × List Int)) (h:BI a0=some r) :
  ACalls Tryz.prog w0 64 [.agg (Ag a0.1::([.list (a0.2.map CE) .none]))] ⟨B,Rw,L⟩ fun x st=>x = .agg (Ag r.1::([.list (r.2.map CE) .none]))/\st=⟨B,Rw,L⟩:=by
 rw [BI] at h
 refine hd [.cell 2 51] Tryz.func64 Tryz.ntmps64 fun M0 W0 f c d b g e hs=>?_
 simp only [As]
 exact go (tg (a:=([1,2],[6,2],()))) h hs f c d b e (q1 (MR w0)) trivial
def Dc (n:Nat) (b:Msg):Option Msg :=
 (BI b.stamp).bind fun h =>
 if b.origins.length*8<=140737488355328 then
  (Ce n b.body).bind fun g =>
  some (Msg.mk h b.mass b.origins g)
 else none
theorem Dt (w0:World) (n:Nat) (B:Aj) (Rw:Am) (L:An) (a0:Msg) (r:Msg) (h:Dc n a0=some r) :
  ACalls Tryz.prog w0 36 [.agg (T8 a0)] ⟨B,Rw,L⟩ fun x st=>x = .agg (T8 r)/\st=⟨B,Rw,L⟩:=by
 rw [Dc] at h
 refine hd [.cell 2 62] Tryz.func36 Tryz.ntmps36 fun M0 W0 f c d b g e hs=>?_
 simp only [As]
 exact go (tg (a:=([1,2],[12,2],()))) h hs f c d b e (q3 (CZ w0) (MR w0) (BX w0 n)) trivial
def Gg (n:Nat) (q:Slt) (g:List Msg) (b:List Vl):Option Slt :=
 (Ce n q.key).bind fun h =>
 some (Slt.mk h q.number q.time g b)
def Ep (n:Nat) (q:Slt):Nat->(List Msg)->(List Vl)->Int->Option Slt
 | 0,_,_,_=>none
 | m+1,h,g,b =>
  if decide (b<(q.values.length:Int)) then
   (D1 q.values b).bind fun x35 =>
   (Ce n x35).bind fun y =>
   if (g.length+1)*88<=140737488355328/\g.length+1<=4611686018427387904 then
    if B1 (b+1) then
     (Ep n q m) h (g++([y])) (b+1)
    else none
   else none
  else
   Gg n q h g
def GL (n:Nat) (g:Slt) (b:List Msg):Option Slt :=
 if 0<=(g.values.length:Int)/\(g.values.length:Int)*88<=140737488355328/\(g.values.length:Int)<=4611686018427387904 then
  Ep n g n b ([]) 0
 else none
def EW (n:Nat) (h:Slt):Nat->(List Msg)->Int->Option Slt
 | 0,_,_=>none
 | m+1,g,b =>
  if decide (b<(h.items.length:Int)) then
   (D1 h.items b).bind fun q =>
   (Dc n q).bind fun y =>
   if (g.length+1)*152<=140737488355328/\g.length+1<=4611686018427387904 then
    if B1 (b+1) then
     (EW n h m) (g++([y])) (b+1)
    else none
   else none
  else
   GL n h g
def CB (n:Nat) (b:Slt):Option Slt :=
 if 0<=(b.items.length:Int)/\(b.items.length:Int)*152<=140737488355328/\(b.items.length:Int)<=4611686018427387904 then
  EW n b n ([]) 0
 else none
theorem Dv (w0:World) (n:Nat) (B:Aj) (Rw:Am) (L:An) (a0:Slt) (r:Slt) (h:CB n a0=some r) :
  ACalls Tryz.prog w0 61 [.agg (Ll a0)] ⟨B,Rw,L⟩ fun x st=>x = .agg (Ll r)/\st=⟨B,Rw,L⟩:=by
 rw [CB] at h
 refine hd [.cell 2 100] Tryz.func61 Tryz.ntmps61 fun M0 W0 D y z g U t hs=>?_
 simp only [As]
 refine rg [1,2] hs ?_
 obtain ⟨Q,h⟩:=Ak h
 have t:=t.make 10 0
 refine rg [1,2,3] hs ?_
 refine AO (fun e st=>∃ (o:List Msg) (k:Ev.Own),Ck e st B Rw L [(1,true,.box B.length 0),(2,true,.box (B.length+1) 0),(3,true,.list (o.map Cj) k)] [Ll a0,[Ag 0,Ag 0,Ag 0,.val (.string (⟨#[]⟩:ByteArray)),.list ([]) .full,.list ([]) .full,Ag 0,Ag 0,.list ([]) .full,.list ([]) .full]] [(10,o.length,k)] (GL n a0 o=some r)) ?_ ?_
 ·intro K7 H
  refine rg [1,2,3,14,15,16] hs ?_
  apply Ao
  refine AB (fun m e st=>∃ (u:List Msg) (v:Int) (w:Ev.Own),Ck e st B Rw L [(1,true,.box B.length 0),(2,true,.box (B.length+1) 0),(3,true,.list (u.map Cj) w),(14,true,.list (a0.items.map Cj) .none),(15,true,Ag (a0.items.length:Int)),(16,true,Ag v)] [Ll a0,[Ag 0,Ag 0,Ag 0,.val (.string (⟨#[]⟩:ByteArray)),.list ([]) .full,.list ([]) .full,Ag 0,Ag 0,.list ([]) .full,.list ([]) .full]] [(10,u.length,w)] (EW n a0 m u v=some r)) n ⟨([]),0,((.row Rw.length)),([]),((Rw++[.grow 0 10])),ef hs,ef hs,Owns.of_eq (t) Fe,h⟩ ?_
  rintro ml9 e st ⟨u,v,w,Xl9,Rl9,rfl,rfl,t,h⟩ Ul9 Vl9
  cases ml9 with
  | zero=>cases h
  | succ ml9 =>
  rw [EW] at h
  exact go (tg (a:=([1,2,3,14,15,16,17],([1,2,3,14,15,16],[1,2,3,5,14,15,16],[1,2,3,14,15,16],[1,2,3,14,15,16],()),[1,2,3],()))) h hs D y z g t (q2 (ae XX TX) (Dt w0 n)) (q2 H (fun e s=>Vl9 ml9 e s (Nat.lt_succ_self _)))
 ·clear h;rintro e st ⟨o,k,Xk6,Rk6,rfl,rfl,t,h⟩
  rw [GL] at h
  have C:=t.unders
  simp only [List.mem_cons,List.not_mem_nil,or_false,forall_eq_or_imp,forall_eq] at C
  refine td D y z g t ?_
  obtain ⟨N,h⟩:=Ak h
  have t:=t.make 6 0
  refine rg [1,2,3,6] hs ?_
  refine AO (fun e st=>∃ (i:List Msg) (j:List Vl) (q:Ev.Own) (p:Ev.Own),Ck e st B Rw L [(1,true,.box B.length 0),(2,true,.box (B.length+1) 0),(3,true,.list (i.map Cj) q),(6,true,.list (j.map B6) p)] [Ll a0,[Ag 0,Ag 0,Ag 0,.val (.string (⟨#[]⟩:ByteArray)),.list ([]) .full,.list ([]) .full,Ag 0,Ag 0,.list ([]) .full,.list ([]) .full]] [(10,i.length,q),(6,j.length,p)] (Gg n a0 i j=some r)) ?_ ?_
  ·intro K27 F
   refine rg [1,2,3,6,31,32,33] hs ?_
   apply Ao
   refine AB (fun m e st=>∃ (f:List Msg) (b:List Vl) (l:Int) (c:Ev.Own) (d:Ev.Own),Ck e st B Rw L [(1,true,.box B.length 0),(2,true,.box (B.length+1) 0),(3,true,.list (f.map Cj) c),(6,true,.list (b.map B6) d),(31,true,.list (a0.values.map B6) .none),(32,true,Ag (a0.values.length:Int)),(33,true,Ag l)] [Ll a0,[Ag 0,Ag 0,Ag 0,.val (.string (⟨#[]⟩:ByteArray)),.list ([]) .full,.list ([]) .full,Ag 0,Ag 0,.list ([]) .full,.list ([]) .full]] [(10,f.length,c),(6,b.length,d)] (Ep n a0 m f b l=some r)) n ⟨o,([]),0,k,((.row Rk6.length)),([]),((Rk6++[.grow 0 6])),ef hs,ef hs,Owns.of_eq ((t).swap (List.Perm.swap _ _ _)) Fe,h⟩ ?_
   rintro ml29 e st ⟨f,b,l,c,d,Xl29,Rl29,rfl,rfl,t,h⟩ Ul29 Vl29
   cases ml29 with
   | zero=>cases h
   | succ ml29 =>
   rw [Ep] at h
   have C:=t.unders
   simp only [List.mem_cons,List.not_mem_nil,or_false,forall_eq_or_imp,forall_eq] at C
   obtain ⟨G,J⟩:=C
   refine td D y z g t ?_
   refine rg [1,2,3,6,31,32,33,34] hs ?_
   apply Ah;intro K31 E
   refine BA h hs ?_ ?_<;>intro hs h
   rotate_left
   ·refine sx [1,2,3,6] hs F ?_
    exact ⟨f,b,c,d,([]),Rl29,ef hs,ef hs,Owns.of_eq (((t).swap (List.Perm.swap _ _ _)).swap (List.Perm.swap _ _ _)) Fe,h⟩
   exact go (tg (a:=([1,2,3,6,31,32,33],[1,2,3,6,8,31,32,33],[1,2,3,6,31,32,33],[1,2,3,6,31,32,33],()))) h hs D y z g t (q2 (ae NQ IB) (BX w0 n)) (q2 E (fun e s=>Vl29 ml29 e s (Nat.lt_succ_self _)))
  ·clear h;rintro e st ⟨i,j,q,p,Xk26,Rk26,rfl,rfl,t,h⟩
   rw [Gg] at h
   have C:=t.unders
   simp only [List.mem_cons,List.not_mem_nil,or_false,forall_eq_or_imp,forall_eq] at C
   obtain ⟨G,J⟩:=C
   refine td D y z g t ?_
   obtain ⟨K,O,h⟩:=bind_some h
   have hs:=Ac (Vl.cs_eqs a0.key) hs
   have hs:=Ac (Vl.cs_eqs K) hs
   exact go (tg (a:=([1,2],[2],()))) h hs D y z g t (q1 (BX w0 n)) trivial
def JE (n:Nat) (g:Stt) (b:List Slt):Option Stt :=
 some (Stt.mk g.number g.time b)
def G2 (n:Nat) (h:Stt):Nat->(List Slt)->Int->Option Stt
 | 0,_,_=>none
 | m+1,g,b =>
  if decide (b<(h.slots.length:Int)) then
   (D1 h.slots b).bind fun q =>
   (CB n q).bind fun y =>
   if (g.length+1)*152<=140737488355328/\g.length+1<=4611686018427387904 then
    if B1 (b+1) then
     (G2 n h m) (g++([y])) (b+1)
    else none
   else none
  else
   JE n h g
def KX (n:Nat) (b:Stt):Option Stt :=
 if 0<=(b.slots.length:Int)/\(b.slots.length:Int)*152<=140737488355328/\(b.slots.length:Int)<=4611686018427387904 then
  G2 n b n ([]) 0
 else none
theorem Ue (w0:World) (n:Nat) (B:Aj) (Rw:Am) (L:An) (a0:Stt) (r:Stt) (h:KX n a0=some r) :
  ACalls Tryz.prog w0 33 [.agg (DR a0)] ⟨B,Rw,L⟩ fun x st=>x = .agg (DR r)/\st=⟨B,Rw,L⟩:=by
 rw [KX] at h
 refine hd [.cell 2 41] Tryz.func33 Tryz.ntmps33 fun M0 W0 p k l i t j hs=>?_
 simp only [As]
 refine rg [1,2] hs ?_
 obtain ⟨q,h⟩:=Ak h
 have j:=j.make 10 0
 refine rg [1,2,3] hs ?_
 refine AO (fun e st=>∃ (d:List Slt) (g:Ev.Own),Ck e st B Rw L [(1,true,.box B.length 0),(2,true,.box (B.length+1) 0),(3,true,.list (d.map Br) g)] [DR a0,[Ag 0,Ag 0,.list ([]) .full]] [(10,d.length,g)] (JE n a0 d=some r)) ?_ ?_
 ·intro K7 o
  refine rg [1,2,3,11,12,13] hs ?_
  apply Ao
  refine AB (fun m e st=>∃ (f:List Slt) (b:Int) (c:Ev.Own),Ck e st B Rw L [(1,true,.box B.length 0),(2,true,.box (B.length+1) 0),(3,true,.list (f.map Br) c),(11,true,.list (a0.slots.map Br) .none),(12,true,Ag (a0.slots.length:Int)),(13,true,Ag b)] [DR a0,[Ag 0,Ag 0,.list ([]) .full]] [(10,f.length,c)] (G2 n a0 m f b=some r)) n ⟨([]),0,((.row Rw.length)),([]),((Rw++[.grow 0 10])),ef hs,ef hs,Owns.of_eq (j) Fe,h⟩ ?_
  rintro ml9 e st ⟨f,b,c,Xl9,Rl9,rfl,rfl,j,h⟩ Ul9 Vl9
  cases ml9 with
  | zero=>cases h
  | succ ml9 =>
  rw [G2] at h
  exact go (tg (a:=([1,2,3,11,12,13,14],([1,2,3,11,12,13],[1,2,3,5,11,12,13],[1,2,3,11,12,13],[1,2,3,11,12,13],()),[1,2,3],()))) h hs p k l i j (q2 (ae Wq Oa) (Dv w0 n)) (q2 o (fun e s=>Vl9 ml9 e s (Nat.lt_succ_self _)))
 ·clear h;rintro e st ⟨d,g,Xk6,Rk6,rfl,rfl,j,h⟩
  rw [JE] at h
  exact go (tg (a:=([1,2],[2],()))) h hs p k l i j trivial trivial
def Ik (n:Nat) (h:Nod) (b:Stt) (q:Inp) (b3_k4_21:Int) (b3_k4_22:List Int):Option Bld :=
 (KX n b).bind fun g =>
 some (Bld.mk h q.time ((b3_k4_21,b3_k4_22)) 0 (Otc.mk g ([]) ([]) ([]) ([])))
def Me (n:Nat) (h:Nod) (g:Stt) (b:Inp):Option Bld :=
 if decide (b.kind=1) then
  Ik n h g b b.message.stamp.1 b.message.stamp.2
 else
  Ik n h g b b.stamp.1 b.stamp.2
theorem UE (w0:World) (n:Nat) (B:Aj) (Rw:Am) (L:An) (a0:Nod) (a1:Stt) (a2:Inp) (r:Bld) (h:Me n a0 a1 a2=some r) :
  ACalls Tryz.prog w0 21 [.agg (Rf a0),.agg (DR a1),.agg (Xh a2)] ⟨B,Rw,L⟩ fun x st=>x = .box (B.length+3) 0/\st=⟨B++[Rf a0,DR a1,Xh a2,Bd r.n r.now r.under r.sent r.out.state (.list ([]) .full) (.list ([]) .full) (.list ([]) .full) (.list ([]) .full)],Rw,L⟩:=by
 rw [Me] at h
 refine ACalls.finN 4 (BN (rs:=[.tmp 6]) Tryz.func21 rfl rfl Tryz.ntmps21 (AU Tryz.func21 rfl (by decide)) (Nat.le_of_ble_eq_true rfl) ?_)
 intro M0 W0 o g j d p
 dsimp only at o g j d p
 simp only [As]
 have i:=Owns.none Rw
 have hs:=Rr
 refine rg [3,4,5] hs ?_
 have hs:=Ac (Ty.cs_eqs a0.type) hs
 refine rg [4,5,7] hs ?_
 refine AO (fun e st=>∃ (a:Int) (b:List Int) (c:AV),Ck e st B Rw L [(4,true,.box (B.length+1) 0),(7,true,.box (B.length+3) 0)] [Rf a0,DR a1,Xh a2,[.val (.string a0.name),Ag a0.kind,Ag a0.schema,Ag a0.result,Ag a0.number,Ag a0.time,Ag a0.limit,.val (.string a0.text),Ag a0.type.kind,Ag a0.type.min,Ag a0.type.max,Ag a0.type.scale,.list (a0.type.words.map RX) .none,.list (a0.type.elem.map JX) .none,.list (a0.type.fields.map Gl) .none,.list (a0.types.map JX) .none,.list (a0.exprs.map TW) .none,.list (a0.mapping.map Do) .none,.list (a0.calls.map KJ) .none,.list (a0.next.map CE) .none,Ag a2.time,Ag a,c,Ag 0,Ag 0,Ag 0,.list ([]) .full,.list ([]) .full,.list ([]) .full,.list ([]) .full,.list ([]) .full]] [] (c.pub = .list (b.map CE) .none/\Ik n a0 a1 a2 a b=some r)) ?_ ?_
 ·intro K5 k
  refine rg [4,5,7,17] hs ?_
  refine BA h hs ?_ ?_<;>intro hs h
  ·refine rl [4,7] hs k ?_
   exact ⟨a2.message.stamp.1,a2.message.stamp.2,(.list (a2.message.stamp.2.map CE) .none),([]),Rw,ef hs,ef hs,i,ef hs,h⟩
  refine sk [4,7] hs k ?_
  exact ⟨a2.stamp.1,a2.stamp.2,(.list (a2.stamp.2.map CE) .none),([]),Rw,ef hs,ef hs,i,ef hs,h⟩
 ·clear h;rintro e st ⟨a,b,c,Xk4,Rk4,rfl,rfl,i,m,h⟩
  rw [Ik] at h
  refine Ef (B.length+3) 22 (by first | rfl | (simp only [C6,Cd,DC,CV];rfl)) rfl m ?_;simp +decide only [go_sem,Nat.reduceAdd]
  show CW _ _ _ _ _ _ _ _ [(4,true,.box (B.length+1) 0),(7,true,.box (B.length+3) 0)] ⟨B++([Rf a0,DR a1,Xh a2,[.val (.string a0.name),Ag a0.kind,Ag a0.schema,Ag a0.result,Ag a0.number,Ag a0.time,Ag a0.limit,.val (.string a0.text),Ag a0.type.kind,Ag a0.type.min,Ag a0.type.max,Ag a0.type.scale,.list (a0.type.words.map RX) .none,.list (a0.type.elem.map JX) .none,.list (a0.type.fields.map Gl) .none,.list (a0.types.map JX) .none,.list (a0.exprs.map TW) .none,.list (a0.mapping.map Do) .none,.list (a0.calls.map KJ) .none,.list (a0.next.map CE) .none,Ag a2.time,Ag a,.list (b.map CE) .none,Ag 0,Ag 0,Ag 0,.list ([]) .full,.list ([]) .full,.list ([]) .full,.list ([]) .full,.list ([]) .full]]++Xk4),Rk4,L⟩
  refine td o g j d i ?_
  obtain ⟨q,l,h⟩:=bind_some h
  refine rc 2 [7] hs ?_;intro K8 f
  refine Aq _ (Ue w0 n _ _ _ a1 _ l) (hv hs) ?_
  refine ne hs f ?_
  clear f
  refine rg [6] hs ?_
  apply BC;simp +decide only [go_sem,Nat.reduceAdd,Ty.cs_eqs a0.type]
  have hgt:=Option.some.inj h;subst hgt
  refine ZiU (by rfl) d i ?_ ?_ ?_
  ·(simp +decide only [go_sem,Nat.reduceAdd,Ty.cs_eqs a0.type])<;>(try (repeat' apply Ac))<;>first | omega | assumption
  ·simp +decide only [go_sem,Nat.reduceAdd];omega
  refine ⟨rfl,?_⟩
  (simp +decide only [go_sem,Nat.reduceAdd,ZF,Ty.cs_eqs a0.type])<;>rfl
theorem Zaf (w0:World) (B:Aj) (Rw:Am) (L:An) (lf lt:Nat) (e k:AV) (p i:AV) (nd tx0:AV) (tx:ByteArray) (h1:B[lf]? = some [e,p,k,nd,i,tx0]) (h2:B[lt]? = some [.val (.string tx)]) :
  ACalls Tryz.prog w0 90 [.box lf 0,.box lt 0] ⟨B,Rw,L⟩ fun x st=>st=⟨B.set lf [e,p,k,nd,i,.val (.string tx)],Rw,L⟩:=by
 refine BN (rs:=[]) Tryz.func90 rfl rfl Tryz.ntmps90 (AU Tryz.func90 rfl (by decide)) (Nat.le_of_ble_eq_true rfl) ?_
 intro M0 W0 d b c a f
 simp only [As]
 apply Ap 1 []
 rw [Ai];simp +decide only [go_sem,AD h1,AD h2]
theorem Y3 (w0:World) (B:Aj) (Rw:Am) (L:An) (m:Msg) (nm:ByteArray) (kd:Int) (c:FuncId) (caps:List AV) (cs cs':List AV) (y:Int × List Int) (hy:BI m.stamp=some y) (hl:cs.length=6) (hp:cs.map AV.pubCell=cs') (hp2:cs'.map AV.pubCell=cs') (hca:caps.map AV.pubA=caps)
  (hu1:∀ x∈cs',Under B.length Rw.length L.length x)
  (hc:∀ (X:Aj),X.length=2->ACalls Tryz.prog w0 c (.box (B.length+2) 0::caps) ⟨B++(X++[[Ag y.1,.list (y.2.map CE) .none,Ag kd,.val (.string nm),.list [] .full,.val (.string (⟨#[]⟩:ByteArray))]]),Rw,L⟩ fun x st=>st=⟨B++(X++[cs]),Rw,L⟩) :
  ACalls Tryz.prog w0 89 [.agg (Ag m.stamp.1 :: .list (m.stamp.2.map CE) .none::Ag m.mass :: .list (m.origins.map CE) .none::m.body.cs),.val (.string nm),Ag kd,.list [.clo c caps] .none] ⟨B,Rw,L⟩ fun x st=>x = .agg cs'/\st=⟨B,Rw,L⟩:=by
 refine hd [.cell 8 54] Tryz.func89 Tryz.ntmps89 fun M0 W0 q n o b r p hs=>?_
 simp only [As]
 refine rg [1,2,3,4,8] hs ?_
 apply Ah;intro K1 d
 apply Ap 2 [3,8,9]
 rw [Ai];simp +decide only [go_sem]
 refine Aq _ (CZ w0 _ _ _ m.stamp y hy) (hv hs) ?_
 rw [Ai];simp +decide only [go_sem]
 (repeat' apply Ac)<;>first | refine d _ _ ?_ | exact cl
 clear d
 apply Ah;intro K2 k
 refine rg [8,9,18,19,20] hs ?_
 apply Ao
 refine AB (fun l e st=>(l=1/\e=[(8,true,.box (B.length+1) 0),(9,true,.box (B.length+2) 0),(18,true,.list [.clo c caps] .none),(19,true,Ag 1),(20,true,Ag 0)]/\st=⟨B++[Ag m.stamp.1 :: .list (m.stamp.2.map CE) .none::Ag m.mass :: .list (m.origins.map CE) .none::m.body.cs,[Ag 0,.list [] .full,Ag 0,.val (.string ⟨#[]⟩),.list [] .full,.val (.string ⟨#[]⟩)],[Ag y.1,.list (y.2.map CE) .none,Ag kd,.val (.string nm),.list [] .full,.val (.string ⟨#[]⟩)]],Rw,L⟩)\/(l=0/\e=[(8,true,.box (B.length+1) 0),(9,true,.box (B.length+2) 0),(18,true,.list [.clo c caps] .none),(19,true,Ag 1),(20,true,Ag 1)]/\st=⟨B++[Ag m.stamp.1 :: .list (m.stamp.2.map CE) .none::Ag m.mass :: .list (m.origins.map CE) .none::m.body.cs,[Ag 0,.list [] .full,Ag 0,.val (.string ⟨#[]⟩),.list [] .full,.val (.string ⟨#[]⟩)],cs],Rw,L⟩)) 1 (.inl ⟨rfl,rfl,rfl⟩) ?_
 rintro l e st (⟨rfl,rfl,rfl⟩ | ⟨rfl,rfl,rfl⟩) KR hKR
 ·apply Ah;intro K3 a
  apply Ap 1 [8,9,18,19,20,21]
  rw [Ai];simp +decide only [go_sem]
  refine a _ _ ?_
  apply Ah;intro K4 f
  refine Bl true (by simp +decide only [go_sem]) (by simp +decide only [go_sem]) (fun hb=>?_) (fun hb=>by cases hb)
  apply BB;simp only [go_sem]
  refine f _ _ ?_
  apply Ah;intro K5 j
  apply Ao
  apply Ah;intro K6 h
  apply Ap 1 [8,9,11,18,19,20]
  rw [Ai];simp +decide only [go_sem]
  (repeat' apply Ac)<;>first | refine h _ _ ?_ | exact cl
  apply Ap 2 [8,9,18,19,20]
  rw [Ai];simp +decide only [go_sem]
  refine Bm _ (hc [_,_] rfl) (by simp +decide only [go_sem,hca]) ?_;rintro _ _ rfl
  rw [Ai];simp +decide only [go_sem]
  (repeat' apply Ac)<;>first | refine j _ _ ?_ | exact cl
  apply Ap 1 [8,9,18,19,20]
  rw [Ai];simp +decide only [go_sem]
  (repeat' apply Ac)<;>first | exact hKR 0 _ _ (by omega) (.inr ⟨rfl,rfl,rfl⟩) | exact cl
 ·apply Ah;intro K3 a
  apply Ap 1 [8,9,18,19,20,21]
  rw [Ai];simp +decide only [go_sem]
  refine a _ _ ?_
  apply Ah;intro K4 f
  refine Bl false (by simp +decide only [go_sem]) (by simp +decide only [go_sem]) (fun hb=>by cases hb) (fun hb=>?_)
  apply D4;simp +decide only [go_sem]
  refine k _ _ ?_
  apply Ah;intro K7 i
  apply Ap 1 [8]
  have g:List.take 6 cs=cs:=List.take_of_length_le (by omega)
  rw [Ai];simp +decide only [go_sem,hl,g]
  refine i _ _ ?_
  apply BC;simp +decide only [go_sem,hl,g]
  refine JG b ⟨_,rfl⟩ (List.prefix_refl _) (List.prefix_refl _) ?_ ?_
  ·rw [hp];have e:AV.pubA (.agg cs') = .agg (cs'.map AV.pubCell):=rfl
   rw [e,hp2];exact .agg hu1
  ·rw [hp];have e:AV.pubA (.agg cs') = .agg (cs'.map AV.pubCell):=rfl
   rw [e,hp2];exact ⟨rfl,rfl⟩
theorem We (w0:World) (B:Aj) (Rw:Am) (L:An) (m:Msg) (nm tx:ByteArray) (y:Int × List Int) (hy:BI m.stamp=some y) :
  ACalls Tryz.prog w0 62 [.agg (Ag m.stamp.1 :: .list (m.stamp.2.map CE) .none::Ag m.mass :: .list (m.origins.map CE) .none::m.body.cs),.val (.string nm),.val (.string tx)] ⟨B,Rw,L⟩ fun x st=>x = .agg [Ag y.1,.list (y.2.map CE) .none,Ag 4,.val (.string nm),.list [] .none,.val (.string tx)]/\st=⟨B,Rw,L⟩:=by
 refine hd [.cell 6 54] Tryz.func62 Tryz.ntmps62 fun M0 W0 h e f a i g hs=>?_
 simp only [As]
 refine rg [1,3,5,6] hs ?_
 apply Ah;intro K1 b
 apply Ap 2 [6]
 rw [Ai];simp +decide only [go_sem]
 have c:∀ (X:Aj),X.length=2->ACalls Tryz.prog w0 90 (.box ((B++[Ag m.stamp.1 :: .list (m.stamp.2.map CE) .none::Ag m.mass :: .list (m.origins.map CE) .none::m.body.cs,[.val (.string tx)],[Ag 0,.list [] .full,Ag 0,.val (.string ⟨#[]⟩),.list [] .full,.val (.string ⟨#[]⟩)]]).length+2) 0::[.box (B.length+1) 0]) ⟨(B++[Ag m.stamp.1 :: .list (m.stamp.2.map CE) .none::Ag m.mass :: .list (m.origins.map CE) .none::m.body.cs,[.val (.string tx)],[Ag 0,.list [] .full,Ag 0,.val (.string ⟨#[]⟩),.list [] .full,.val (.string ⟨#[]⟩)]])++(X++[[Ag y.1,.list (y.2.map CE) .none,Ag 4,.val (.string nm),.list [] .full,.val (.string (⟨#[]⟩:ByteArray))]]),Rw,L⟩ fun x st=>st=⟨(B++[Ag m.stamp.1 :: .list (m.stamp.2.map CE) .none::Ag m.mass :: .list (m.origins.map CE) .none::m.body.cs,[.val (.string tx)],[Ag 0,.list [] .full,Ag 0,.val (.string ⟨#[]⟩),.list [] .full,.val (.string ⟨#[]⟩)]])++(X++[[Ag y.1,.list (y.2.map CE) .none,Ag 4,.val (.string nm),.list [] .full,.val (.string tx)]]),Rw,L⟩:=by
  intro X d
  obtain ⟨u,v,rfl⟩:∃ u v,X=[u,v]:=by
   match X,d with
   | [u,v],_=>exact ⟨u,v,rfl⟩
  have:=Zaf w0 ((B++[Ag m.stamp.1 :: .list (m.stamp.2.map CE) .none::Ag m.mass :: .list (m.origins.map CE) .none::m.body.cs,[.val (.string tx)],[Ag 0,.list [] .full,Ag 0,.val (.string ⟨#[]⟩),.list [] .full,.val (.string ⟨#[]⟩)]])++([u,v]++[[Ag y.1,.list (y.2.map CE) .none,Ag 4,.val (.string nm),.list [] .full,.val (.string (⟨#[]⟩:ByteArray))]])) Rw L (B.length+5) (B.length+1) (Ag y.1) (Ag 4) (.list (y.2.map CE) .none) (.list [] .full) (.val (.string nm)) (.val (.string ⟨#[]⟩)) tx (by simp [List.getElem?_append_right]) (by simp [List.getElem?_append_right])
  simp only [List.append_assoc,List.cons_append,List.nil_append,List.length_append,List.length_cons,List.length_nil] at this ⊢
  simpa [List.set_append_right] using this
 refine Aq _ (Y3 w0 _ _ _ m nm 4 _ _ _ _ y hy rfl rfl rfl rfl (by simp +decide only [go_sem]) c) (hv hs) ?_
 rw [Ai];simp +decide only [go_sem]
 (repeat' apply Ac)<;>first | refine b _ _ ?_ | exact cl
 apply BC;simp +decide only [go_sem]
 exact JG a ⟨_,rfl⟩ (List.prefix_refl _) (List.prefix_refl _) (by simp +decide only [go_sem]) ⟨rfl,rfl⟩
def Pq (m:Msg) (nm tx:ByteArray):Option Fte:=(BI m.stamp).bind fun y=>some (Fte.mk y 4 nm [] tx)
theorem Rh (w0:World) (B:Aj) (Rw:Am) (L:An) (m:Msg) (nm tx:ByteArray) (r:Fte) (h:Pq m nm tx=some r) :
  ACalls Tryz.prog w0 62 [Cj m,.val (.string nm),.val (.string tx)] ⟨B,Rw,L⟩ fun x st=>x=Hn r/\st=⟨B,Rw,L⟩:=by
 rw [Pq] at h
 obtain ⟨y,a,h⟩:=bind_some h
 cases h
 exact We w0 B Rw L m nm tx y a
end Go.Proofs.YtcpmjgdlioggjaaGreatDoor
namespace Go.Ev
open Go Go.RowKit
theorem Qh {i j:Nat} (h:i≠j):∀ (B:Aj) (a b:List AV),(B.set i a).set j b=(B.set j b).set i a:=fun B a b=>List.set_comm _ _ h
theorem Im (i:Nat):∀ (B:Aj) (a b:List AV),(B.set i a).set i b=B.set i b:=fun B a b=>List.set_set a
theorem JZ {B:List (List AV)} {l:Nat} {cs:List AV} (h:B[l]? = some cs) (i j:Nat):∀ (X:Aj) (a b c:List AV),((B.set i a).set j b++X).set l c=((B.set i a).set j b).set l c++X:=fun X a b c=>List.set_append_left _ _ (by rw [List.length_set,List.length_set];exact (Af.1 h).1)
theorem Vp {B:List (List AV)} {l j:Nat} {cs:List AV} (h:B[l]? = some cs) (hne:j≠l) :
  (∀ a b X R L o,Cm ⟨(B.set l a).set j b++X,R,L⟩ (.box l o)=true)/\(∀ a b R L o,Cm ⟨(B.set l a).set j b,R,L⟩ (.box l o)=true)/\(∀ a b X R L o,Bt ⟨(B.set l a).set j b++X,R,L⟩ (.box l o)=a)/\(∀ a b R L o,Bt ⟨(B.set l a).set j b,R,L⟩ (.box l o)=a) /\
  (∀ a b X,((B.set l a).set j b++X)[l]? = some a)/\(∀ a b,((B.set l a).set j b)[l]? = some a)/\(∀ a b X,((B.set l a).set j b++X).getD l []=a)/\(∀ a b,((B.set l a).set j b).getD l []=a):=by
 have c:∀ a,(B.set l a)[l]? = some a:=fun a=>List.getElem?_set_self (Af.1 h).1
 exact ⟨fun a b X R L o=>(Eb (c a) hne).1 X R L o b,fun a b R L o=>(Eb (c a) hne).2.1 R L o b,fun a b X R L o=>(Eb (c a) hne).2.2.1 X R L o b,fun a b R L o=>(Eb (c a) hne).2.2.2.1 R L o b,
  fun a b X=>(Eb (c a) hne).2.2.2.2.1 X b,fun a b=>(Eb (c a) hne).2.2.2.2.2.1 b,fun a b X=>(Eb (c a) hne).2.2.2.2.2.2.1 X b,fun a b=>(Eb (c a) hne).2.2.2.2.2.2.2 b⟩
theorem RP {B:List (List AV)} {l i:Nat} {cs:List AV} (h:B[l]? = some cs) (hne:i≠l) :
  (∀ a b X R L o,Cm ⟨(B.set i a).set l b++X,R,L⟩ (.box l o)=true)/\(∀ a b R L o,Cm ⟨(B.set i a).set l b,R,L⟩ (.box l o)=true)/\(∀ a b X R L o,Bt ⟨(B.set i a).set l b++X,R,L⟩ (.box l o)=b)/\(∀ a b R L o,Bt ⟨(B.set i a).set l b,R,L⟩ (.box l o)=b) /\
  (∀ a b X,((B.set i a).set l b++X)[l]? = some b)/\(∀ a b,((B.set i a).set l b)[l]? = some b)/\(∀ a b X,((B.set i a).set l b++X).getD l []=b)/\(∀ a b,((B.set i a).set l b).getD l []=b):=by
 have c:∀ a b,((B.set i a).set l b)[l]? = some b:=fun a b=>List.getElem?_set_self (by rw [List.length_set];exact (Af.1 h).1)
 exact ⟨fun a b X R L o=>(AD (c a b)).1 X R L o,fun a b R L o=>(AD (c a b)).2.1 R L o,fun a b X R L o=>(AD (c a b)).2.2.1 X R L o,fun a b R L o=>(AD (c a b)).2.2.2.1 R L o,
  fun a b X=>(AD (c a b)).2.2.2.2.1 X,c,fun a b X=>(AD (c a b)).2.2.2.2.2.2.1 X,fun a b=>(AD (c a b)).2.2.2.2.2.2.2.1⟩
theorem WO (B:Aj) (i j:Nat) (c d:List AV):((B.set i c).set j d).length=B.length:=by simp only [List.length_set]
@[go_sem] theorem Zh2 (B X:Aj) (R:Am) (L:An) (i j k o:Nat) (c d:List AV):Cm ⟨(B.set i c).set j d++X,R,L⟩ (.box (B.length+k) o)=decide (k<X.length):=by have h:=Z4 ((B.set i c).set j d) X R L k o;rwa [WO] at h
@[go_sem] theorem ZgY (B X:Aj) (R:Am) (L:An) (i j o:Nat) (c d:List AV):Cm ⟨(B.set i c).set j d++X,R,L⟩ (.box B.length o)=decide (0<X.length):=by have h:=YE ((B.set i c).set j d) X R L o;rwa [WO] at h
@[go_sem] theorem ZbZ (B X:Aj) (i j k:Nat) (c d:List AV):((B.set i c).set j d++X).getD (B.length+k) []=X.getD k []:=by have h:=UQ (B.set i c) X j k d;rwa [List.length_set] at h
@[go_sem] theorem Z6 (B X:Aj) (i j:Nat) (c d:List AV):((B.set i c).set j d++X).getD B.length []=X.getD 0 []:=by have h:=Tv (B.set i c) X j d;rwa [List.length_set] at h
@[go_sem] theorem ZfG (B X:Aj) (R:Am) (L:An) (i j k o:Nat) (c d:List AV):Bt ⟨(B.set i c).set j d++X,R,L⟩ (.box (B.length+k) o)=X.getD k []:=ZbZ B X i j k c d
@[go_sem] theorem ZdW (B X:Aj) (R:Am) (L:An) (i j o:Nat) (c d:List AV):Bt ⟨(B.set i c).set j d++X,R,L⟩ (.box B.length o)=X.getD 0 []:=Z6 B X i j c d
@[go_sem] theorem Zkl (B X:Aj) (i j k:Nat) (c d x:List AV):((B.set i c).set j d++X).set (B.length+k) x=(B.set i c).set j d++X.set k x:=by have h:=ZaW (B.set i c) X j k d x;rwa [List.length_set] at h
@[go_sem] theorem Zio (B X:Aj) (i j:Nat) (c d x:List AV):((B.set i c).set j d++X).set B.length x=(B.set i c).set j d++X.set 0 x:=by have h:=Zn (B.set i c) X j d x;rwa [List.length_set] at h
@[go_sem] theorem Zj0 (B X:Aj) (i j k:Nat) (c d:List AV):((B.set i c).set j d++X)[B.length+k]? = X[k]? := by have h:=DC (B.set i c) X j k d;rwa [List.length_set] at h
@[go_sem] theorem Zjw (B X:Aj) (i j:Nat) (c d:List AV):((B.set i c).set j d++X)[B.length]? = X[0]? := by have h:=CV (B.set i c) X j d;rwa [List.length_set] at h
end Go.Ev
namespace Go.Proofs.YtcpmjgdlioggjaaGreatDoor
open Go Go.RowKit Go.Ev
theorem Zhk {o:Ev.Own} {a b:Nat} (h:a<=b) (u:o.under a):o.under b:=by
 cases o with
 | row id=>exact Nat.lt_of_lt_of_le u h
 | _=>trivial
theorem ZgL {B B' X:List (List AV)} {R0 rows:List RowA} {L:List LoopA} {Post:AV->St->Prop} {v:AV} (hr:R0.length<=rows.length) (hc:Ev.Calm B.length rows.length L.length ⟨B',rows,L⟩) (hB:B'.length=B.length) (hu:Under B.length rows.length L.length v.pubA) (hp:Post v.pubA ⟨B',rows,L⟩) :
  Go.Ev.finG ⟨B,R0,L⟩ Post v ⟨B'++X,rows,L⟩:=by
 have e:St.cut ⟨B'++X,rows,L⟩ B.length rows.length L.length=⟨B',rows,L⟩:=by simp [St.cut,<-hB]
 exact ⟨by simp [hB],hr,by simp,by simp only [e];exact hc,hu,by simp only [e];exact hp⟩
def U0 (N:Nat) (n:Nod) (F:List Fte) (G:List Msg) (m:Msg) (tx:ByteArray):Option (List Fte × List Msg) :=
 if (F.length+1)*96<=140737488355328/\F.length+1<=4611686018427387904/\(G.length+1)*152<=140737488355328/\G.length+1<=4611686018427387904 then (Pq m n.name tx).bind fun f=>(Dc N m).bind fun g=>some (F++[f],G++[g]) else none
theorem Zip {Rw R1:List RowA} {s1 s2 m1 n2:Nat} {oF o1 oG:Ev.Own} (h1:Owns Rw R1 [(s1,m1,o1)] oF) (h2:Owns Rw Rw [(s2,n2,oG)] oG) (hap:∀ id,oF = .row id->oG ≠ .row id):Owns R1 R1 [(s2,n2,oG)] oG:=by
 refine ⟨Nat.le_refl _,fun _ _ _=>rfl,fun i r a q b=>?_,fun x c=>?_,List.pairwise_singleton .., by simp,.nil⟩
 ·rcases q with q | q
  ·have:=(Af.1 a).1;omega
  ·have d:i<Rw.length:=by
    rcases h2.each _ (List.mem_singleton.2 rfl) with w | ⟨id,w1,_,w3⟩
    ·simp only at w;rw [w] at q;cases q
    ·simp only at w1;rw [w1] at q;cases q;exact (Af.1 w3).1
   rw [h1.keep i d (fun e=>hap i e q)] at a
   exact h2.calm i r a (.inr q) b
 ·rw [List.mem_singleton.1 c]
  rcases h2.each _ (List.mem_singleton.2 rfl) with w | ⟨id,w1,_,w3⟩
  ·exact .inl w
  ·exact .inr ⟨id,w1,.inr w1,by rw [h1.keep id (Af.1 w3).1 (fun e=>hap id e w1)];exact w3⟩
theorem Oc (w0:World) (N:Nat) (B:Aj) (Rw:Am) (L:An) (la:Nat) (n:Nod) (w:Int) (u:Int × List Int) (k:Int) (s:Stt) (a b:AV) (F:List Fte) (G:List Msg) (oF oG:Ev.Own) (hla:B[la]? = some (Bd n w u k s a b (.list (F.map Hn) oF) (.list (G.map Cj) oG)))
  (hG:Owns Rw Rw [(6,F.length,oF)] oF) (hH:Owns Rw Rw [(10,G.length,oG)] oG) (hap:∀ id,oF = .row id->oG ≠ .row id) (m:Msg) (tx:ByteArray) (r:List Fte × List Msg) (h:U0 N n F G m tx=some r) :
  ACalls Tryz.prog w0 34 [.box la 0,.agg (Ag m.stamp.1 :: .list (m.stamp.2.map CE) .none::Ag m.mass :: .list (m.origins.map CE) .none::m.body.cs),.val (.string tx)] ⟨B,Rw,L⟩ fun x st=>x = .tup []/\∃ (R1 R2:Am) (o1 o2:Ev.Own),st=⟨B.set la (Bd n w u k s a b (.list (r.1.map Hn) o1) (.list (r.2.map Cj) o2)),R2,L⟩/\Owns Rw R1 [(6,r.1.length,o1)] oF/\Owns R1 R2 [(10,r.2.length,o2)] oG:=by
 rw [U0] at h
 obtain ⟨J,h⟩:=Ak h
 obtain ⟨f,V,h⟩:=bind_some h
 obtain ⟨g,E,h⟩:=bind_some h
 have hgt:=Option.some.inj h;subst hgt
 refine ACalls.finG (BN (rs:=[]) Tryz.func34 rfl rfl Tryz.ntmps34 (AU Tryz.func34 rfl (by decide)) (Nat.le_of_ble_eq_true rfl) ?_)
 intro M0 W0 hN O Q j Z
 dsimp only at hN O Q j Z
 simp only [As]
 have aa:=(Af.1 hla).1
 have e:=Ar hla
 obtain ⟨v,o,hG,d⟩:=hG.append (P:=Tryz.prog) Zck (by rw [Xi];rfl) (by decide) 1 J.1 J.2.1
 replace d:=fun (ys:List AV) B L o2=>d (F.map Hn) ys B L o2 Fe
 replace d:=fun (y:AV) B L o2=>d [y] B L o2 Fe ev
 try simp only [List.mem_singleton,List.mem_cons,List.not_mem_nil,or_false,forall_eq_or_imp,forall_eq,List.map_append,List.map_cons,List.map_nil] at d
 have l:Owns o o [(10,G.length,oG)] oG:=Zip hG hH hap
 obtain ⟨z,i,l,c⟩:=l.append (P:=Tryz.prog) XX (by rw [TX];rfl) (by decide) 1 J.2.2.1 J.2.2.2
 replace c:=fun (ys:List AV) B L o2=>c (G.map Cj) ys B L o2 Fe
 replace c:=fun (y:AV) B L o2=>c [y] B L o2 Fe ev
 try simp only [List.mem_singleton,List.mem_cons,List.not_mem_nil,or_false,forall_eq_or_imp,forall_eq,List.map_append,List.map_cons,List.map_nil] at c
 refine Ho (B':=B.set la (Bd n w u k s a b (.list (F.map Hn) oF) (.list (G.map Cj) oG))) (by simp only [Bc hla]) ?_
 apply Ah;intro K1 D
 apply Ap 1 [0,2,4]
 rw [Ai];simp +decide only [go_sem,Nat.reduceAdd]
 refine D _ _ ?_
 clear D
 apply Ah;intro K2 C
 apply IA GP [15,19] [5] [0,4] kr (fun p=>∃ (X:Aj) (t:Am) (H:AV),p=⟨(B.set la (Bd n w u k s a b H (.list (G.map Cj) oG)))++([Ag m.stamp.1 :: .list (m.stamp.2.map CE) .none::Ag m.mass :: .list (m.origins.map CE) .none::m.body.cs]++X),t,L⟩) 3 (B.length+1)
 ·simp +decide only [go_sem,Nat.reduceAdd]
 ·refine ⟨2,?_⟩
  rw [Ai];simp +decide only [go_sem,Nat.reduceAdd,BK,e,d]
  have hs:=Ac d e
  (repeat' apply Ac)<;>first | refine Aq _ (Rh w0 _ _ _ m n.name tx f V) (hv hs) ?_ | exact cl
  rw [Ai];simp +decide only [go_sem,Nat.reduceAdd,e,d]
  (repeat' apply Ac)<;>first | rfl | exact cl
 ·rintro p ⟨X,t,H,rfl⟩
  refine ⟨2,?_⟩
  rw [Ai];simp +decide only [go_sem,Nat.reduceAdd,BK,List.append_eq,List.cons_append,List.nil_append,e,d]
  have hs:=Ac d e
  (repeat' apply Ac)<;>first | refine Aq _ (Rh w0 _ _ _ m n.name tx f V) (hv hs) ?_ | exact cl
  rw [Ai];simp +decide only [go_sem,Nat.reduceAdd,e,d]
  (repeat' apply Ac)<;>first | rfl | ((repeat (first | exact .nil | refine .cons (ef hs) ?_));done) | exact cl
 ·exact gd (tg (a:=(15,19,([0,4]:List Nat)))) (Ac d e)
 simp +decide only [go_sem,Nat.reduceAdd,e,d]
 refine C _ _ ?_
 clear C
 apply IA GP [9,13] [5] [] kr (fun p=>∃ (X:Aj) (t:Am) (H:AV),p=⟨(B.set la (Bd n w u k s a b (.list (F.map Hn++[Hn f]) v) H))++([Ag m.stamp.1 :: .list (m.stamp.2.map CE) .none::Ag m.mass :: .list (m.origins.map CE) .none::m.body.cs]++X),t,L⟩) 3 (B.length+1)
 ·simp +decide only [go_sem,Nat.reduceAdd]
 ·refine ⟨2,?_⟩
  rw [Ai];simp +decide only [go_sem,Nat.reduceAdd,BK,e,c]
  have hs:=Ac c e
  (repeat' apply Ac)<;>first | refine Aq _ (Dt w0 N _ _ _ m g E) (hv hs) ?_ | exact cl
  rw [Ai];simp +decide only [go_sem,Nat.reduceAdd,e,c]
  (repeat' apply Ac)<;>first | rfl | exact cl
 ·rintro p ⟨X,t,H,rfl⟩
  refine ⟨2,?_⟩
  rw [Ai];simp +decide only [go_sem,Nat.reduceAdd,BK,List.append_eq,List.cons_append,List.nil_append,e,c]
  have hs:=Ac c e
  (repeat' apply Ac)<;>first | refine Aq _ (Dt w0 N _ _ _ m g E) (hv hs) ?_ | exact cl
  rw [Ai];simp +decide only [go_sem,Nat.reduceAdd,e,c]
  (repeat' apply Ac)<;>first | rfl | ((repeat (first | exact .nil | refine .cons (ef hs) ?_));done) | exact cl
 ·exact gd (tg (a:=(9,13,([]:List Nat)))) (Ac c e)
 simp +decide only [go_sem,Nat.reduceAdd,e,c]
 (repeat' with_reducible apply Ac)<;>first | exact cl | skip
 have ab:=hG.len
 have K:=l.len
 have Y:v.under i.length:=Zhk K (hG.unders _ (List.mem_singleton.2 rfl))
 have u2:z.under i.length:=l.unders _ (List.mem_singleton.2 rfl)
 have U:Under B.length i.length L.length a/\Under B.length i.length L.length b:=by
  have hx:=j.boxes _ (List.mem_of_getElem? hla)
  have q:∀ y∈(Bd n w u k s a b (.list (F.map Hn) oF) (.list (G.map Cj) oG)),Under B.length Rw.length L.length y:=hx
  rw [JA] at q
  exact ⟨BQ (Nat.le_refl _) (by omega) (Nat.le_refl _) q.1,BQ (Nat.le_refl _) (by omega) (Nat.le_refl _) q.2.1⟩
 refine ZgL (by omega) ⟨l.rowsCalm (Nat.le_refl _) (hG.rowsCalm (Nat.le_refl _) j.rows),?_,(DJ j (by omega)).loops⟩ (by simp only [List.length_set]) (by simp +decide only [go_sem,Nat.reduceAdd]) ⟨rfl,o,i,v,z,rfl,?_,?_⟩
 ·refine (AA (DJ j (show Rw.length<=i.length by omega)) ?_).boxes
  simp +decide only [go_sem,Nat.reduceAdd]
  (repeat' apply Ac)<;>first | exact U.1 | exact U.2 | exact Y | exact u2 | trivial
 ·first | exact hG | exact hG.len1 (by simp only [List.length_append,List.length_cons,List.length_nil])
 ·first | exact l | exact l.len1 (by simp only [List.length_append,List.length_cons,List.length_nil])
def IU (b:Int × List Int) (g:Int):Option ((Int × List Int)) :=
 if b.2.length*8<=140737488355328 then
  if (b.2.length+1)*8<=140737488355328/\b.2.length+1<=4611686018427387904 then
   some ((b.1,b.2++([g])))
  else none
 else none
theorem QA (w0:World) (B:Aj) (Rw:Am) (L:An) (a0:Int × List Int) (a1:Int) (r:(Int × List Int)) (h:IU a0 a1=some r) :
  ACalls Tryz.prog w0 97 [.agg (Ag a0.1::([.list (a0.2.map CE) .none])),Ag a1] ⟨B,Rw,L⟩ fun x st=>x = .agg (Ag r.1::([.list (r.2.map CE) .none]))/\st=⟨B,Rw,L⟩:=by
 rw [IU] at h
 refine hd [.cell 4 51] Tryz.func97 Tryz.ntmps97 fun M0 W0 n l m c o e hs=>?_
 simp only [As]
 refine rg [1,2,4] hs ?_
 apply Ah;intro K2 f
 obtain ⟨j,h⟩:=Ak h
 have e:=e.clone 1 a0.2.length
 obtain ⟨d,h⟩:=Ak h
 obtain ⟨p,g,e,b⟩:=e.append (P:=Tryz.prog) Zgv (by rw [Zes];rfl) (by decide) 1 d.1 d.2
 replace b:=fun (ys:List AV) B L o2=>b (a0.2.map CE) ys B L o2 Fe
 replace b:=fun (y:AV) B L o2=>b [y] B L o2 Fe ev
 try simp only [List.mem_singleton,List.mem_cons,List.not_mem_nil,or_false,forall_eq_or_imp,forall_eq,List.map_append,List.map_cons,List.map_nil,A2,A0,AY,A3,AZ,AX,AN,AG,A1,Ax,Az,AH,AM,AL,A5,AK,A6] at b
 apply DF GP [4,7,8,9] [4] kr (fun s=>∃ (X:Aj) (rows:Am) (k:List AV),s=⟨B++([Ag a0.1::([.list (a0.2.map CE) .none]),k]++X),rows,L⟩) 5 (B.length+2)
 ·simp +decide only [go_sem,Nat.reduceAdd]
 ·rintro s ⟨X,rows,k,rfl⟩
  refine ⟨1,?_⟩
  rw [Ai];simp +decide only [go_sem,Nat.reduceAdd,BK,b]
  (repeat' apply Ac)<;>first | rfl | exact cl
 ·refine Good.mk [4] kr ⟨[],_,_,by first | rfl | simp only [List.append_nil,List.nil_append]⟩ ?_ ?_
  ·intro h;exact absurd h (by decide)
  ·intro i hi;simp only [List.mem_cons,List.not_mem_nil,or_false] at hi
   subst hi
   ·apply Aw rfl rfl ev
    ·simp +decide only [go_sem,Nat.reduceAdd,A7,b]
     have hs:=Ac b hs
     (repeat' with_reducible apply Ac)<;>first | exact E7 (Qp w0 _ _ _ a0.2 j) (hv hs) | rfl | exact cl
    ·simp +decide only [go_sem,Nat.reduceAdd,b]
     exact gd (tg (a:=(7,8,9,[4]))) (Ac b hs)
 simp +decide only [go_sem,Nat.reduceAdd,b]
 (repeat' apply Ac)<;>first | refine f _ _ ?_ | exact cl
 clear f
 have hs:=Ac b hs
 exact rt h hs c e
def C4 (a0n:Nod) (a0now:Int) (a0under:Int × List Int) (a0sent:Int) (a0state:Stt):Option ((Int × List Int) × Int × Stt) :=
 if B1 (a0sent+1) then
  if B1 ((a0sent+1)-1) then
   (IU a0under ((a0sent+1)-1)).bind fun b =>
   some ((b,a0sent+1,a0state))
  else none
 else none
theorem CP (w0:World) (B:Aj) (Rw:Am) (L:An) (la0:Nat) (a0n:Nod) (a0now:Int) (a0under:Int × List Int) (a0sent:Int) (a0state:Stt) (q0_ q1_ q2_ q3_:AV) (hla0:B[la0]? = some (Bd a0n a0now a0under a0sent a0state (q0_) (q1_) (q2_) (q3_))) (r:(Int × List Int) × Int × Stt) (h:C4 a0n a0now a0under a0sent a0state=some r) :
  ACalls Tryz.prog w0 70 [.box la0 0] ⟨B,Rw,L⟩ fun x st=>x = .agg (Ag r.1.1::([.list (r.1.2.map CE) .none]))/\st=⟨(B.set la0 (Bd a0n a0now a0under r.2.1 r.2.2 (q0_) (q1_) (q2_) (q3_))),Rw,L⟩:=by
 rw [C4] at h
 refine hd [.cell 2 51] Tryz.func70 Tryz.ntmps70 fun M0 W0 p l m a q j hs=>?_
 simp only [As]
 have g:=(Af.1 hla0).1
 obtain ⟨d,c,e,b⟩:=(JA _ _ _ _ _ _ _ _ _ _ _ _).1 (a.boxes _ (List.mem_of_getElem? hla0))
 have hs:=Ac (AD hla0) hs
 refine rg [0,2] hs ?_
 obtain ⟨n,h⟩:=Ak h
 refine rg [0,2] hs ?_
 obtain ⟨k,h⟩:=Ak h
 obtain ⟨o,i,h⟩:=bind_some h
 apply Ah;intro K4 f
 refine dk 10 2 1 [2] hs GP ?_
 refine Aq _ (QA w0 _ _ _ a0under ((a0sent+1)-1) _ i) (hv hs) ?_
 refine dn hs f ?_
 clear f
 apply BC;simp +decide only [go_sem,Nat.reduceAdd,AD hla0]
 have hgt:=Option.some.inj h;subst hgt
 first | refine Cb (AA a (by (simp +decide only [go_sem,Nat.reduceAdd])<;>exact ⟨d,c,e,b⟩)) GR j.pre ev ⟨?_,rfl⟩ | refine Dq (AA a (by (simp +decide only [go_sem,Nat.reduceAdd])<;>exact ⟨d,c,e,b⟩)) GR j.pre ev ⟨?_,rfl⟩
 first | rfl | (simp +decide only [go_sem,Nat.reduceAdd,AD hla0];done) | (simp +decide only [go_sem,Nat.reduceAdd,Vl.cs,Ty.cs,AD hla0];done)
def insRS:Go.Shelf.Ren:=⟨fun x=>if x=22 then 106 else if x=29 then 151 else if x=30 then 152 else x,
 fun x=>if x=9 then 100 else if x=24 then 39 else if x=3 then 3 else if x=4 then 4 else if x=0 then 0 else x,fun x=>x⟩
theorem Zie:∃ z,InsLay Tryz.prog insRS Tryz.f106.name 10 152 z/\z.cells.size=10:=by
 obtain ⟨j,z,g,a,d,c,b⟩:=MH (by kernel_rfl:UJ Tryz.prog 100 10 152=true)
 exact ⟨z,{
  mixed:=by kernel_rfl
  nmo:=by decide
  f22:=Tryz.func106.trans (congrArg some (by kernel_rfl))
  ov:=fun w x y h=>by
   show (callFunc 151 #[x,y]).run Tryz.prog w=_
   rw [run_callFunc_extern Tryz.func151 (by kernel_rfl) (by kernel_rfl) (by kernel_rfl) (e:=Extern.SlicesOverlaps.overlaps #[39,39] #[4]) (by kernel_rfl)]
   have f:(Extern.SlicesOverlaps.overlaps #[39,39] #[4] #[x,y]).run Tryz.prog w = .ok (.bool false) w:=h
   first | (rw [f];rfl) | simp [f]
  t0:=Tryz.underlying0
  a0:=Tryz.isAgg0
  z0:=Tryz.sizeOf0
  v0:=Tryz.zeroValue0
  t3:=Tryz.underlying3
  a3:=Tryz.isAgg3
  z3:=Tryz.sizeOf3
  v3:=Tryz.zeroValue3
  t4:=Tryz.underlying4
  a4:=Tryz.isAgg4
  z4:=Tryz.sizeOf4
  v4:=Tryz.zeroValue4
  z9:=Tryz.sizeOf100
  t24:=Tryz.underlying39
  a24:=Tryz.isAgg39
  z24:=Tryz.sizeOf39
  v24:=Tryz.zeroValue39
  i9:=by
   show (Tryz.prog.info? 100).map (fun i=>(i.zero,i.size,i.bytes))=_
   rw [g];simp [a,d,c] },b⟩
theorem WY (w0:World) {Rw rows:List RowA} {l:List (Nat × Nat × Ev.Own)} {ho:Ev.Own} {o:VO} {v:List VE} {xs:List (Slt)} (hO:Owns Rw rows l ho ((o,10,xs.flatMap fun x=>(Br x).cells)::v)) (i:Int)
  (hg:(0<=i/\i<=(xs.length:Int))/\(xs.length+1)*152<=140737488355328/\xs.length+1<=4611686018427387904) (y:Slt) :
  ∃ id' ver' rows',Owns Rw rows' l ho ((.row id' ver',10,(Iw xs i y).flatMap fun x=>(Br x).cells)::v)/\∀ (B:Aj) (L:An) (ow:Ev.Own),ACalls Tryz.prog w0 106 [Gk o xs.length,Ag i,.list [Br y] ow] ⟨B,rows,L⟩ fun r s=>r = .vec id' ver' 0 (Iw xs i y).length/\s=⟨B,rows',L⟩:=by
 obtain ⟨⟨p,n⟩,e,m⟩:=hg
 obtain ⟨k,rfl⟩:∃ k:Nat,i=(k:Int):=⟨i.toNat,by omega⟩
 obtain ⟨z,d,g⟩:=Zie
 have a:∀ x:Slt,((fun x=>(Br x).cells) x).length=10:=fun x=>by simp +decide only [go_sem]
 have j:(xs.flatMap fun x=>(Br x).cells).length=xs.length*10:=CJ (f:=Br) (fun _=>by simp +decide only [go_sem]) xs
 have c:(Iw xs (k:Int) y).length=xs.length+1:=by
  unfold Iw
  rw [List.length_append,List.length_cons,List.length_take,List.length_drop]
  simp only [Int.toNat_natCast]
  omega
 have b:(xs.flatMap fun x=>(Br x).cells).take (k*10)++[Br y].flatMap (fun y=>y.pub.cells)++(xs.flatMap fun x=>(Br x).cells).drop (k*10)=(Iw xs (k:Int) y).flatMap fun x=>(Br x).cells:=by
  unfold Iw
  rw [N4 a,N9 a,List.flatMap_append,List.flatMap_cons,List.flatMap_cons,List.flatMap_nil,List.append_nil,Qv,Int.toNat_natCast,List.append_assoc]
 obtain ⟨id',ver',hrow⟩:∃ id' ver',Nj o rows = .row id' ver':=by
  cases o with
  | nil=>exact ⟨_,_,rfl⟩
  | row id ver=>exact ⟨_,_,rfl⟩
 refine ⟨id',ver',_,hrow▸hO.bump ((Iw xs (k:Int) y).flatMap fun x=>(Br x).cells),fun B L ow=>?_⟩
 have:=SA (P:=Tryz.prog) (w0:=w0) (st:=⟨B,rows,L⟩) (ow:=ow) (ys:=[Br y]) (ag:=true) (i:=k) d (AU Tryz.func106 rfl (by decide)) Wq (by rw [show insRS.t 9=100 from rfl,Oa];rfl) g (by decide) hO.vp j (by omega) (by simp)
  (fun q h=>by rw [List.mem_singleton.1 h];exact ⟨by simp +decide only [go_sem],by simp +decide only [go_sem]⟩) e m
 rw [b] at this
 exact this.mono fun r s ⟨q1,q2⟩=>⟨by rw [q1,c,hrow];rfl,q2⟩
def Zjr:Go.Shelf.Ren:=⟨fun x=>if x=45 then 145 else x,
 fun x=>if x=23 then 100 else if x=22 then 39 else if x=3 then 3 else if x=4 then 4 else if x=0 then 0 else x,fun x=>x⟩
def Zgi:Value := .agg #[.int .i64 0,.int .i64 0,.int .i64 0,.string ⟨#[]⟩,.slice none 0 0,.slice none 0 0,.int .i64 0,.int .i64 0,.slice none 0 0,.slice none 0 0]
theorem ZiF:DelLay Tryz.prog Zjr Tryz.f145.name 10 152 Zgi:={
  mixed:=by kernel_rfl
  nmo:=by kernel_rfl
  f45:=Tryz.func145.trans (congrArg some (by kernel_rfl))
  t0:=Tryz.underlying0
  a0:=Tryz.isAgg0
  z0:=Tryz.sizeOf0
  v0:=Tryz.zeroValue0
  t3:=Tryz.underlying3
  a3:=Tryz.isAgg3
  z3:=Tryz.sizeOf3
  v3:=Tryz.zeroValue3
  t4:=Tryz.underlying4
  a4:=Tryz.isAgg4
  z4:=Tryz.sizeOf4
  v4:=Tryz.zeroValue4
  t22:=Tryz.underlying39
  a22:=Tryz.isAgg39
  z22:=Tryz.sizeOf39
  v22:=Tryz.zeroValue39
  z23:=Tryz.sizeOf100
  v23:=Tryz.zeroValue100
  i23:=by kernel_rfl }
theorem Xj (w0:World) {Rw rows:List RowA} {l:List (Nat × Nat × Ev.Own)} {ho:Ev.Own} {o:VO} {v:List VE} {xs:List (Slt)} (hO:Owns Rw rows l ho ((o,10,xs.flatMap fun x=>(Br x).cells)::v)) (i:Int)
  (hg:0<=i/\i<(xs.length:Int)) :
  ∃ id' ver' rows',Owns Rw rows' l ho ((.row id' ver',10,(Q5 xs i).flatMap fun x=>(Br x).cells)::v)/\∀ (B:Aj) (L:An),ACalls Tryz.prog w0 145 [Gk o xs.length,Ag i,Ag (i+1)] ⟨B,rows,L⟩ fun r s=>r = .vec id' ver' 0 (Q5 xs i).length/\s=⟨B,rows',L⟩:=by
 obtain ⟨k,rfl⟩:∃ k:Nat,i=(k:Int):=⟨i.toNat,by omega⟩
 have a:∀ x:Slt,((fun x=>(Br x).cells) x).length=10:=fun x=>by simp +decide only [go_sem]
 have d:(xs.flatMap fun x=>(Br x).cells).length=xs.length*10:=CJ (f:=Br) (fun _=>by simp +decide only [go_sem]) xs
 have b:(Q5 xs (k:Int)).length=k+(xs.length-(k+1)):=by
  unfold Q5
  rw [List.length_append,List.length_take,List.length_drop]
  simp only [Int.toNat_natCast]
  omega
 have c:(xs.flatMap fun x=>(Br x).cells).take (k*10)++(xs.flatMap fun x=>(Br x).cells).drop ((k+1)*10)=(Q5 xs (k:Int)).flatMap fun x=>(Br x).cells:=by
  unfold Q5
  rw [N4 a,N9 a,List.flatMap_append,Int.toNat_natCast]
 obtain ⟨id,ver,rfl,hrow⟩:∃ id ver,o = .row id ver/\rows[id]? = some (.vec ver 10 (xs.flatMap fun x=>(Br x).cells)):=by
  rcases hO.veach _ (List.mem_cons_self ..) with q | ⟨id,ver,q1,_,q3⟩
  ·have q2:(xs.flatMap fun x=>(Br x).cells)=[]:=q.2
   rw [q2] at d
   simp at d;omega
  ·exact ⟨id,ver,q1,q3⟩
 refine ⟨id,ver+1,_,hO.setV (ver+1) ((Q5 xs (k:Int)).flatMap fun x=>(Br x).cells),fun B L=>?_⟩
 have:=Yz (P:=Tryz.prog) (w0:=w0) (st:=⟨B,rows,L⟩) (i:=k) (j:=k+1) (n:=xs.length) ZiF (AU Tryz.func145 rfl (by decide)) rfl (by decide) (by decide) hrow d (by omega) (by omega)
 rw [c] at this
 exact this.mono fun r s ⟨q1,q2⟩=>⟨by rw [q1,b],q2⟩
end Go.Proofs.YtcpmjgdlioggjaaGreatDoor
namespace Go.Ev
open Go Go.RowKit
@[go_sem] theorem Zjh (m:List Bool) (o:VO) (n:Nat):pubS m (Gk o n)=Gk o n:=by cases o<;>rfl
end Go.Ev
namespace Go.Proofs.YtcpmjgdlioggjaaGreatDoor
open Go Go.RowKit Go.Ev
def IP (n:Nat) (g:Stt) (b:List Slt):Option Stt :=
 some (Stt.mk g.number g.time b)
def Gt (n:Nat) (h:Stt):Nat->(List Slt)->Int->Option Stt
 | 0,_,_=>none
 | m+1,g,b =>
  if decide (b<(h.slots.length:Int)) then
   (D1 h.slots b).bind fun q =>
   (CB n q).bind fun y =>
   if (g.length+1)*152<=140737488355328/\g.length+1<=4611686018427387904 then
    if B1 (b+1) then
     (Gt n h m) (g++[y]) (b+1)
    else none
   else none
  else
   IP n h g
def G6 (n:Nat) (b:Stt):Option Stt :=
 if 0<=(b.slots.length:Int)/\(b.slots.length:Int)*152<=140737488355328/\(b.slots.length:Int)<=4611686018427387904 then
  Gt n b n ([]) 0
 else none
theorem MK (w0:World) (n:Nat) (B:Aj) (Rw:Am) (L:An) (a0:Stt) (r:Stt) (h:G6 n a0=some r) :
  ACalls Tryz.prog w0 33 [.agg (DR a0)] ⟨B,Rw,L⟩ fun x st=>∃ (o0:VO) (rows:Am),x = .agg ([Ag r.number,Ag r.time,Gk o0 r.slots.length])/\st=⟨B,rows,L⟩/\Owns Rw rows [] .none [(o0,10,(r.slots).flatMap fun x=>(Br x).cells)]:=by
 rw [G6] at h
 refine ACalls.finV (OZ [true,true,false] (rs:=[.cell 2 41]) Tryz.func33 rfl rfl Tryz.ntmps33 (AU Tryz.func33 rfl (by decide)) (Nat.le_of_ble_eq_true rfl) ?_)
 intro M0 W0 N w y d U
 dsimp only at N w y d U
 simp only [As]
 have j:=Owns.none Rw
 have hs:=Rr
 refine rg [1,2] hs ?_
 apply Ah;intro K2 D
 obtain ⟨Q,h⟩:=Ak h
 have j:=j.newV 10 []
 refine IH 39 (by decide) ?_
 refine rl [1,2,3] hs D ?_
 clear D
 refine AO (fun e st=>∃ (i:List Slt) (g:VO) (Xk6:Aj) (Rk6:Am),e=[(1,true,.box B.length 0),(2,true,.box (B.length+1) 0),(3,true,Gk g i.length)]/\st=⟨B++([DR a0,[Ag 0,Ag 0,.list ([]) .full]]++Xk6),Rk6,L⟩/\Owns Rw Rk6 [] .none [(g,10,i.flatMap fun x=>(Br x).cells)]/\IP n a0 i=some r) ?_ ?_
 ·intro K7 K
  refine rg [1,2,3,11,12,13] hs ?_
  apply Ao
  refine AB (fun m e st=>∃ (a:List Slt) (c:Int) (b:VO) (Xl9:Aj) (Rl9:Am),e=[(1,true,.box B.length 0),(2,true,.box (B.length+1) 0),(3,true,Gk b a.length),(11,true,.list (a0.slots.map Br) .none),(12,true,Ag (a0.slots.length:Int)),(13,true,Ag c)]/\st=⟨B++([DR a0,[Ag 0,Ag 0,.list ([]) .full]]++Xl9),Rl9,L⟩/\Owns Rw Rl9 [] .none [(b,10,a.flatMap fun x=>(Br x).cells)]/\Gt n a0 m a c=some r) n ⟨([]),0,((.row Rw.length 0)),([]),((Rw++[.vec 0 10 []])),ef hs,ef hs,Owns.eqV (j) Rz,h⟩ ?_
  rintro ml9 e st ⟨a,c,b,Xl9,Rl9,rfl,rfl,j,h⟩ Ul9 Vl9
  cases ml9 with
  | zero=>cases h
  | succ ml9 =>
  rw [Gt] at h
  have l:=j.underV
  simp only [List.mem_cons,List.not_mem_nil,or_false,forall_eq_or_imp,forall_eq] at l
  refine A8 N w y rfl d j ow ow ?_ (vu @F7)
  refine rg [1,2,3,11,12,13,14] hs ?_
  apply Ah;intro K11 q
  refine BA h hs ?_ ?_<;>intro hs h
  rotate_left
  ·refine sx [1,2,3] hs K ?_
   exact ⟨a,b,([]),Rl9,ef hs,ef hs,Owns.eqV (j) Rz,h⟩
  refine sk [1,2,3,11,12,13] hs q ?_
  clear q
  apply Ah;intro K13 t
  apply Ao
  obtain ⟨E,C,h⟩:=bind_some h
  obtain ⟨H,J,z⟩:=Bo C
  have u:=Bq (f:=Br) z
  have hs:=Ac u hs
  refine rg [1,2,3,5,11,12,13] hs ?_
  obtain ⟨v,F,h⟩:=bind_some h
  obtain ⟨p,h⟩:=Ak h
  obtain ⟨G,o,j,k⟩:=j.appendV (P:=Tryz.prog) (n:=a.length) (m:=1) Wq (by rw [Oa];rfl) (by decide) ((CJ (f:=Br) (sz:=10) (fun _=>by simp +decide only [go_sem]) _)) p.1 p.2 [Br v] rfl ((a++[v]).flatMap fun x=>(Br x).cells) (by simp only [List.flatMap_append,List.flatMap_cons,List.flatMap_nil,List.append_nil,List.nil_append,Qv])
  simp only [List.mem_singleton,forall_eq,A2,A0,AY,A3,AZ,AX,AN,AG,A1,Ax,Az,AH,AM,AL,A5,AK,A6,J3] at k
  have hs:=Ac k hs
  refine rk 2 [1,2,3,11,12,13] hs ?_
  refine Aq _ (Dv w0 n _ _ _ E _ F) (hv hs) ?_
  refine ne hs t ?_
  clear t
  obtain ⟨O,h⟩:=Ak h
  refine rl [1,2,3,11,12,13] hs (fun e s=>Vl9 ml9 e s (Nat.lt_succ_self _)) ?_
  exact ⟨(a++[v]),(c+1),G,([Ll E]),o,ef hs,ef hs,Owns.eqV (j) Rz,h⟩
 ·clear h;rintro e st ⟨i,g,Xk6,Rk6,rfl,rfl,j,h⟩
  rw [IP] at h
  have l:=j.underV
  simp only [List.mem_cons,List.not_mem_nil,or_false,forall_eq_or_imp,forall_eq] at l
  refine A8 N w y rfl d j ow ow ?_ (vu @F7)
  refine rg [1,2] hs ?_
  refine rg [2] hs ?_
  apply BC;simp +decide only [go_sem,Nat.reduceAdd]
  have hgt:=Option.some.inj h;subst hgt
  have l:=j.underV
  simp only [List.mem_cons,List.not_mem_nil,or_false,forall_eq_or_imp,forall_eq] at l
  refine XH j d rfl ow (vu @F7) ⟨_,_,?_,rfl,j.sub (List.nil_sublist _)⟩
  first | rfl | (simp +decide only [go_sem,Nat.reduceAdd];done) | (simp +decide only [go_sem,Nat.reduceAdd,Vl.cs,Ty.cs];done)
def Dp (n:Nat) (q:List Slt) (a1:Vl) (y:Slt->Vl->Option Int) (b:Int):Option (Int × Bool) :=
 if decide (b<(q.length:Int)) then
  (D1 q b).bind fun g =>
  (y g a1).bind fun h =>
  some ((b,decide (h=0)))
 else
  some ((b,false))
def BR (n:Nat) (y:List Slt) (q:Vl) (h:Slt->Vl->Option Int):Nat->Int->Int->Option (Int × Bool)
 | 0,_,_=>none
 | m+1,g,b =>
  if decide (g<b) then
   if B1 (g+b) then
    if 0<=(g+b)/\(g+b)<=18446744073709551615 then
     if 0<=(g+b) then
      if B1 ((g+b) / 2) then
       (D1 y ((g+b) / 2)).bind fun x17 =>
       (h x17 q).bind fun y18 =>
       if decide (y18<0) then
        if B1 (((g+b) / 2)+1) then
         (BR n y q h m) (((g+b) / 2)+1) b
        else none
       else
        (BR n y q h m) g ((g+b) / 2)
      else none
     else none
    else none
   else none
  else
   Dp n y q h g
def Dz (n:Nat) (b:List Slt) (g:Vl) (h:Slt->Vl->Option Int):Option (Int × Bool) :=
 BR n b g h n 0 (b.length:Int)
theorem Jc (w0:World) (n:Nat) (B:Aj) (Rw:Am) (L:An) (a0:List Slt) (a1:Vl) (fa2:FuncId) (ca2:List AV) (a2:Slt->Vl->Option Int) (ha2:∀ (x0:Slt) (x1:Vl) r,a2 x0 x1=some r->∀ B' rows,B <+: B'->Rw <+: rows->ACalls Tryz.prog w0 fa2 ([.agg (Ll x0),.agg (x1.cs)]++ca2) ⟨B',rows,L⟩ fun v s=>v=Ag r/\s=⟨B',rows,L⟩) (r:Int × Bool) (h:Dz n a0 a1 a2=some r) :
  ACalls Tryz.prog w0 149 [.list (a0.map Br) .none,.agg (a1.cs),.clo fa2 ca2] ⟨B,Rw,L⟩ fun x st=>x = .tup [Ag r.1,.val (.bool r.2)]/\st=⟨B,Rw,L⟩:=by
 rw [Dz] at h
 refine hd [.tmp 6,.tmp 7] Tryz.func149 Tryz.ntmps149 fun M0 W0 l j k d p i hs=>?_
 simp only [As]
 have b:=BJ (p (.clo fa2 ca2) (by simp))
 refine rg [0,2,4] hs ?_
 refine rg [0,2,4,8] hs ?_
 refine rg [0,2,4,8,9,10] hs ?_
 refine AO (fun e st=>∃ (f:Int),Ck e st B Rw L [(0,true,.list (a0.map Br) .none),(2,true,.clo fa2 ca2),(4,true,.box B.length 0),(8,true,Ag (a0.length:Int)),(9,true,Ag f)] [a1.cs] [] (Dp n a0 a1 a2 f=some r)) ?_ ?_
 ·intro K6 o
  apply Ao
  refine AB (fun m e st=>∃ (g:Int) (c:Int),Ck e st B Rw L [(0,true,.list (a0.map Br) .none),(2,true,.clo fa2 ca2),(4,true,.box B.length 0),(8,true,Ag (a0.length:Int)),(9,true,Ag g),(10,true,Ag c)] [a1.cs] [] (BR n a0 a1 a2 m g c=some r)) n ⟨0,(a0.length:Int),([]),Rw,ef hs,ef hs,i,h⟩ ?_
  rintro ml7 e st ⟨g,c,Xl7,Rl7,rfl,rfl,i,h⟩ Ul7 Vl7
  cases ml7 with
  | zero=>cases h
  | succ ml7 =>
  rw [BR] at h
  refine A8 l j k rfl d i (Hv b i) (Hv b i) ?_
  exact go (tg (a:=([0,2,4,8,9,10,17],([0,2,4,8,9,10],[0,2,4,8,9,10,11],[8,0,2,4,8,9,10,11,31],([0,2,4,8,9,10],()),[0,2,4,8,9,10],()),[0,2,4,8,9],()))) h hs l j k d i (q1 ha2) (q2 o (fun e s=>Vl7 ml7 e s (Nat.lt_succ_self _)))
 ·clear h;rintro e st ⟨f,Xk5,Rk5,rfl,rfl,i,h⟩
  rw [Dp] at h
  refine A8 l j k rfl d i (Hv b i) (Hv b i) ?_
  exact go (tg (a:=(([16,6,7],()),[16,6,7],()))) h hs l j k d i (q1 ha2) trivial
def KZ (n:Nat)  : Option Int :=
 some (0)
def H5 (n:Nat) (h:List Int):Nat->Int->Option Int
 | 0,_=>none
 | m+1,b =>
  if decide (b<(h.length:Int)) then
   (D1 h b).bind fun g =>
   if !(decide (g=0)) then
    some (g)
   else
    if B1 (b+1) then
     (H5 n h m) (b+1)
    else none
  else
   KZ n 
def Hh (n:Nat) (b:List Int):Option Int :=
 H5 n b n 0
theorem Lj (w0:World) (n:Nat) (B:Aj) (Rw:Am) (L:An) (a0:List Int) (r:Int) (h:Hh n a0=some r) :
  ACalls Tryz.prog w0 52 [.list (a0.map CE) .none] ⟨B,Rw,L⟩ fun x st=>x=Ag r/\st=⟨B,Rw,L⟩:=by
 rw [Hh] at h
 refine hd [.tmp 2] Tryz.func52 Tryz.ntmps52 fun M0 W0 j f g c k d hs=>?_
 simp only [As]
 refine rg [0] hs ?_
 refine rg [0,3] hs ?_
 refine AO (fun e st=>Ck e st B Rw L [(3,true,Ag 0)] [] [] (KZ n  = some r)) ?_ ?_
 ·intro K5 i
  refine rg [3,6,7,8] hs ?_
  apply Ao
  refine AB (fun m e st=>∃ (b:Int),Ck e st B Rw L [(3,true,Ag 0),(6,true,.list (a0.map CE) .none),(7,true,Ag (a0.length:Int)),(8,true,Ag b)] [] [] (H5 n a0 m b=some r)) n ⟨0,([]),Rw,ef hs,ef hs,d,h⟩ ?_
  rintro ml7 e st ⟨b,Xl7,Rl7,rfl,rfl,d,h⟩ Ul7 Vl7
  cases ml7 with
  | zero=>cases h
  | succ ml7 =>
  rw [H5] at h
  exact go (tg (a:=([3,6,7,8,9],([3,6,7,8],[3,5,6,7,8],[3,5,6,7,8,14],([2],()),[3,6,7,8],[3,6,7,8],()),[3],()))) h hs j f g c d trivial (q2 i (fun e s=>Vl7 ml7 e s (Nat.lt_succ_self _)))
 ·clear h;rintro e st ⟨Xk4,Rk4,rfl,rfl,d,h⟩
  rw [KZ] at h
  refine td j f g c d ?_
  refine rg [2] hs ?_
  exact rt h hs c d
def EM (n:Nat) (g:List (ByteArray × Vl)) (b:List (ByteArray × Vl)):Option Int :=
 if decide ((g.length:Int)<(b.length:Int)) then
  Av
 else
  some (0)
def C9 (n:Nat) (h:List (ByteArray × Vl)) (g:List (ByteArray × Vl)) (a2:(ByteArray × Vl)->(ByteArray × Vl)->Option Int):Nat->Int->Option Int
 | 0,_=>none
 | m+1,b =>
  if decide (b<(h.length:Int)) then
   (D1 h b).bind fun x12 =>
   if decide ((g.length:Int)<=b) then
    Av
   else
    (D1 g b).bind fun y =>
    (a2 x12 y).bind fun q =>
    if !(decide (q=0)) then
     Av
    else
     if B1 (b+1) then
      (C9 n h g a2 m) (b+1)
     else none
  else
   EM n h g 
def EX (n:Nat) (g:List (ByteArray × Vl)) (b:List (ByteArray × Vl)) (h:(ByteArray × Vl)->(ByteArray × Vl)->Option Int):Option Int :=
 C9 n g b h n 0
theorem Ln (w0:World) (n:Nat) (B:Aj) (Rw:Am) (L:An) (a0:List (ByteArray × Vl)) (a1:List (ByteArray × Vl)) (fa2:FuncId) (ca2:List AV) (a2:(ByteArray × Vl)->(ByteArray × Vl)->Option Int) (ha2:∀ (x0:ByteArray × Vl) (x1:ByteArray × Vl) r,a2 x0 x1=some r->∀ B' rows,B <+: B'->Rw <+: rows->ACalls Tryz.prog w0 fa2 ([.agg (.val (.string x0.1)::(x0.2.cs)),.agg (.val (.string x1.1)::(x1.2.cs))]++ca2) ⟨B',rows,L⟩ fun v s=>v=Ag r/\s=⟨B',rows,L⟩) (r:Int) (h:EX n a0 a1 a2=some r) :
  ACalls Tryz.prog w0 122 [.list (a0.map B7) .none,.list (a1.map B7) .none,.clo fa2 ca2] ⟨B,Rw,L⟩ fun x st=>x=Ag r/\st=⟨B,Rw,L⟩:=by
 rw [EX] at h
 refine hd [.tmp 6] Tryz.func122 Tryz.ntmps122 fun M0 W0 j g i d l f hs=>?_
 simp only [As]
 have b:=BJ (l (.clo fa2 ca2) (by simp))
 refine rg [0,1,2] hs ?_
 refine AO (fun e st=>Ck e st B Rw L [(0,true,.list (a0.map B7) .none),(1,true,.list (a1.map B7) .none)] [] [] (EM n a0 a1  = some r)) ?_ ?_
 ·intro K4 k
  refine rg [0,1,2,11,12,13] hs ?_
  apply Ao
  refine AB (fun m e st=>∃ (c:Int),Ck e st B Rw L [(0,true,.list (a0.map B7) .none),(1,true,.list (a1.map B7) .none),(2,true,.clo fa2 ca2),(11,true,.list (a0.map B7) .none),(12,true,Ag (a0.length:Int)),(13,true,Ag c)] [] [] (C9 n a0 a1 a2 m c=some r)) n ⟨0,([]),Rw,ef hs,ef hs,f,h⟩ ?_
  rintro ml6 e st ⟨c,Xl6,Rl6,rfl,rfl,f,h⟩ Ul6 Vl6
  cases ml6 with
  | zero=>cases h
  | succ ml6 =>
  rw [C9] at h
  refine A8 j g i rfl d f (Hv b f) (Hv b f) ?_
  exact go (tg (a:=([0,1,2,11,12,13,14],([0,1,2,11,12,13],[0,1,2,7,8,11,12,13],[0,1,2,7,8,11,12,13,21],((),()),[0,1,2,7,8,11,12,13],[0,1,2,8,9,11,12,13],[0,1,2,10,11,12,13],[0,1,2,10,11,12,13,31],((),()),[0,1,2,11,12,13],[0,1,2,11,12,13],()),[0,1],()))) h hs j g i d f (q1 ha2) (q2 k (fun e s=>Vl6 ml6 e s (Nat.lt_succ_self _)))
 ·clear h;rintro e st ⟨Xk3,Rk3,rfl,rfl,f,h⟩
  rw [EM] at h
  refine A8 j g i rfl d f (Hv b f) (Hv b f) ?_
  exact go (tg (a:=([38],((),()),[],[6],()))) h hs j g i d f trivial trivial
def ED (n:Nat) (g:List Vl) (b:List Vl):Option Int :=
 if decide ((g.length:Int)<(b.length:Int)) then
  Av
 else
  some (0)
def EA (n:Nat) (b:List Vl) (g:List Vl):Nat->Option Int
 | 0=>none
 | m+1 =>
  if decide (0<(b.length:Int)) then
   Av
  else
   ED n b g 
def ET (n:Nat) (g:List Vl) (b:List Vl) (h:Vl->Vl->Option Int):Option Int :=
 EA n g b n 
theorem LH (w0:World) (n:Nat) (B:Aj) (Rw:Am) (L:An) (a0:List Vl) (a1:List Vl) (fa2:FuncId) (ca2:List AV) (a2:Vl->Vl->Option Int) (ha2:∀ (x0:Vl) (x1:Vl) r,a2 x0 x1=some r->∀ B' rows,B <+: B'->Rw <+: rows->ACalls Tryz.prog w0 fa2 ([.agg (x0.cs),.agg (x1.cs)]++ca2) ⟨B',rows,L⟩ fun v s=>v=Ag r/\s=⟨B',rows,L⟩) (r:Int) (h:ET n a0 a1 a2=some r) :
  ACalls Tryz.prog w0 121 [.list (a0.map B6) .none,.list (a1.map B6) .none,.clo fa2 ca2] ⟨B,Rw,L⟩ fun x st=>x=Ag r/\st=⟨B,Rw,L⟩:=by
 rw [ET] at h
 refine hd [.tmp 6] Tryz.func121 Tryz.ntmps121 fun M0 W0 i f g c k d hs=>?_
 simp only [As]
 have b:=BJ (k (.clo fa2 ca2) (by simp))
 refine rg [0,1,2] hs ?_
 refine AO (fun e st=>Ck e st B Rw L [(0,true,.list (a0.map B6) .none),(1,true,.list (a1.map B6) .none)] [] [] (ED n a0 a1  = some r)) ?_ ?_
 ·intro K4 j
  refine rg [0,1,2,11,12,13] hs ?_
  apply Ao
  refine AB (fun m e st=>Ck e st B Rw L [(0,true,.list (a0.map B6) .none),(1,true,.list (a1.map B6) .none),(2,true,.clo fa2 ca2),(11,true,.list (a0.map B6) .none),(12,true,Ag (a0.length:Int)),(13,true,Ag 0)] [] [] (EA n a0 a1 m  = some r)) n ⟨([]),Rw,ef hs,ef hs,d,h⟩ ?_
  rintro ml6 e st ⟨Xl6,Rl6,rfl,rfl,d,h⟩ Ul6 Vl6
  cases ml6 with
  | zero=>cases h
  | succ ml6 =>
  rw [EA] at h
  refine A8 i f g rfl c d (Hv b d) (Hv b d) ?_
  exact go (tg (a:=([0,1,2,11,12,13,14],((),()),[0,1],()))) h hs i f g c d trivial (q1 j)
 ·clear h;rintro e st ⟨Xk3,Rk3,rfl,rfl,d,h⟩
  rw [ED] at h
  refine A8 i f g rfl c d (Hv b d) (Hv b d) ?_
  exact go (tg (a:=([38],((),()),[],[6],()))) h hs i f g c d trivial trivial
def H8 (rec:Vl->Vl->Option Int) (n:Nat) (g:ByteArray × Vl) (b:ByteArray × Vl):Option Int :=
 (rec g.2 b.2).bind fun q =>
 (Hh n ([Ze3 g.1 b.1,q])).bind fun h =>
 some (h)
theorem T0 (w0:World) (rec:Vl->Vl->Option Int) (ih:∀ (B:Aj) (Rw:Am) (L:An) (a0:Vl) (a1:Vl) (r:Int) (h:rec a0 a1=some r),ACalls Tryz.prog w0 83 [.agg (a0.cs),.agg (a1.cs)] ⟨B,Rw,L⟩ fun x st=>x=Ag r/\st=⟨B,Rw,L⟩) (n:Nat) (B:Aj) (Rw:Am) (L:An) (a0:ByteArray × Vl) (a1:ByteArray × Vl) (r:Int) (h:H8 rec n a0 a1=some r) :
  ACalls Tryz.prog w0 123 [.agg (.val (.string a0.1)::(a0.2.cs)),.agg (.val (.string a1.1)::(a1.2.cs))] ⟨B,Rw,L⟩ fun x st=>x=Ag r/\st=⟨B,Rw,L⟩:=by
 rw [H8] at h
 refine hd [.tmp 4] Tryz.func123 Tryz.ntmps123 fun M0 W0 f c d b g e hs=>?_
 simp only [As]
 exact go (tg (a:=([2,3],[13,4],()))) h hs f c d b e (q3 (PM w0) ih (Lj w0 n)) trivial
def Np (rec:Vl->Vl->Option Int) (n:Nat) (g:Vl) (b:Vl):Option Int :=
 (ET n g.list b.list (fun (q:Vl) (h:Vl)=>rec q h)).bind fun y3 =>
 (EX n g.fields b.fields (fun (q:ByteArray × Vl) (h:ByteArray × Vl)=>H8 rec n q h)).bind fun y4 =>
 (Hh n ([if g.kind<b.kind then -1 else if g.kind=b.kind then 0 else 1,if g.int<b.int then -1 else if g.int=b.int then 0 else 1,if g.scale<b.scale then -1 else if g.scale=b.scale then 0 else 1,Ze3 g.text b.text,y3,y4])).bind fun y =>
 some (y)
def IF:Nat->Vl->Vl->Option Int
 | 0,_,_=>none
 | n+1,g,b=>Np (IF n) n g b
def NI (w0:World) (F:Vl->Vl->Option Int):Prop:=∀ (B:Aj) (Rw:Am) (L:An) (g:Vl) (b:Vl) (r:Int),F g b=some r->ACalls Tryz.prog w0 83 [.agg (g.cs),.agg (b.cs)] ⟨B,Rw,L⟩ fun x st=>x=Ag r/\st=⟨B,Rw,L⟩
theorem SI (w0:World) (rec:Vl->Vl->Option Int) (ih:NI w0 rec) (n:Nat):NI w0 (Np rec n):=by
 intro B Rw L a0 a1 r h
 rw [Np] at h
 refine hd [.tmp 4] Tryz.func83 Tryz.ntmps83 fun M0 W0 q i m b v p hs=>?_
 simp only [As]
 refine rg [2,3] hs ?_
 obtain ⟨u,l,h⟩:=bind_some h
 obtain ⟨t,g,h⟩:=bind_some h
 obtain ⟨w,s,h⟩:=bind_some h
 apply Ah;intro K2 e
 refine dk 33 8 1 [4] (al hs) GP ?_
 refine Aq _ (JU w0 _ _ _ a0.kind a1.kind) (hv (al hs)) ?_
 refine nc (al hs) ?_
 refine Aq _ (JU w0 _ _ _ a0.int a1.int) (hv (al hs)) ?_
 refine nc (al hs) ?_
 refine Aq _ (JU w0 _ _ _ a0.scale a1.scale) (hv (al hs)) ?_
 refine nc (al hs) ?_
 refine Aq _ (PM w0 _ _ _ a0.text a1.text) (hv (al hs)) ?_
 refine nc (al hs) ?_
 refine Aq _ (LH w0 n _ _ _ a0.list a1.list 83 [] (fun (c:Vl) (d:Vl)=>rec c d) (fun c d r j o rows' k f=>by exact ih _ _ _ c d _ j) _ l) (hv (al hs)) ?_
 refine nc (al hs) ?_
 refine Aq _ (Ln w0 n _ _ _ a0.fields a1.fields 123 [] (fun (c:ByteArray × Vl) (d:ByteArray × Vl)=>H8 rec n c d) (fun c d r j o rows' k f=>by exact T0 w0 rec ih n _ _ _ c d _ j) _ g) (hv (al hs)) ?_
 exact go (tg (a:=((),()))) h (al hs) q i m b p (q1 (Lj w0 n)) (q1 e)
theorem MC (w0:World):∀ n:Nat,NI w0 (IF n)
 | 0=>fun _ _ _ _ _ _ h=>(nomatch h)
 | n+1=>SI w0 (IF n) (MC w0 n) n
def Ha (n:Nat) (g:Slt) (b:Vl):Option Int :=
 (IF n g.key b).bind fun h =>
 some (h)
theorem RG (w0:World) (n:Nat) (B:Aj) (Rw:Am) (L:An) (a0:Slt) (a1:Vl) (r:Int) (h:Ha n a0 a1=some r) :
  ACalls Tryz.prog w0 150 [.agg (Ll a0),.agg (a1.cs)] ⟨B,Rw,L⟩ fun x st=>x=Ag r/\st=⟨B,Rw,L⟩:=by
 rw [Ha] at h
 refine hd [.tmp 4] Tryz.func150 Tryz.ntmps150 fun M0 W0 f c d b g e hs=>?_
 simp only [As]
 exact go (tg (a:=([2,3],[4],()))) h hs f c d b e (q1 (MC w0 n)) trivial
def Jd (n:Nat) (q:Stt) (h:Vl):Option (Int × Bool) :=
 (Dz n q.slots h (fun (y:Slt) (g:Vl)=>Ha n y g)).bind fun b =>
 some ((b.1,b.2))
theorem OO (w0:World) (n:Nat) (B:Aj) (Rw:Am) (L:An) (a0:Stt) (a1:Vl) (r:Int × Bool) (h:Jd n a0 a1=some r) :
  ACalls Tryz.prog w0 105 [.agg (DR a0),.agg (a1.cs)] ⟨B,Rw,L⟩ fun x st=>x = .tup [Ag r.1,.val (.bool r.2)]/\st=⟨B,Rw,L⟩:=by
 rw [Jd] at h
 refine hd [.tmp 4,.tmp 5] Tryz.func105 Tryz.ntmps105 fun M0 W0 o i j a p g hs=>?_
 simp only [As]
 refine rg [2,3] hs ?_
 obtain ⟨q,d,h⟩:=bind_some h
 refine rc 2 [4,5] hs ?_;intro K2 b
 refine Aq _ (Jc w0 n _ _ _ a0.slots a1 150 [] (fun (e:Slt) (c:Vl)=>Ha n e c) (fun e c r k m rows' l f=>by exact RG w0 n _ _ _ e c _ k) _ d) (hv hs) ?_
 refine ne hs b ?_
 clear b
 exact rt h hs a g
def Ii (n:Nat) (b:Stt) (b3_k13_2:List Slt):Option (Stt × Int) :=
 some ((Stt.mk b.number b.time b3_k13_2,0))
def NA (n:Nat) (a0:Stt) (h:Slt):Option (Stt × Int) :=
 (Jd n a0 h.key).bind fun g =>
 if (!g.2)&&(decide (1024<=(a0.slots.length:Int))) then
  Av
 else
  (G6 n a0).bind fun b =>
  if g.2 then
   (CB n h).bind fun y =>
   (D1 b.slots g.1).bind fun x18 =>
   Ii n b (b.slots.set g.1.toNat y)
  else
   (CB n h).bind fun q =>
   if (0<=g.1/\g.1<=(b.slots.length:Int))/\(b.slots.length+1)*152<=140737488355328/\b.slots.length+1<=4611686018427387904 then
    Ii n b (Iw b.slots g.1 q)
   else none
theorem Ws (w0:World) (n:Nat) (B:Aj) (Rw:Am) (L:An) (a0:Stt) (a1:Slt) (r:Stt × Int) (h:NA n a0 a1=some r) :
  ACalls Tryz.prog w0 76 [.agg (DR a0),.agg (Ll a1)] ⟨B,Rw,L⟩ fun x st=>x = .tup [.agg (DR r.1),Ag r.2]/\st=⟨B,Rw,L⟩:=by
 rw [NA] at h
 refine hd [.cell 4 41,.tmp 5] Tryz.func76 Tryz.ntmps76 fun M0 W0 hN af ai o hu i hs=>?_
 simp only [As]
 refine rg [2,3,4] hs ?_
 obtain ⟨F,ah,h⟩:=bind_some h
 refine rc 2 [2,3,4,6,7] hs ?_;intro K2 H
 refine Aq _ (OO w0 n _ _ _ a0 a1.key _ ah) (hv hs) ?_
 refine ne hs H ?_
 clear H
 apply Ah;intro K4 U
 refine rg [2,3,4,6,7,23] hs ?_
 refine BA h hs ?_ ?_<;>intro hs h
 ·have Y:=hs.1
  exact nS h
 have Y:=hs.1
 refine sk [2,3,4,6,7] hs U ?_
 clear U
 obtain ⟨v,ag,h⟩:=bind_some h
 refine rc 2 [3,4,6,7,8] hs ?_;intro K7 O
 refine Bm _ (MK w0 n _ _ _ a0 _ ag) (hv hs) ?_;rintro _ _ ⟨ak,Rv11,rfl,rfl,u⟩
 have i:=i.callV u
 refine ne hs O ?_
 clear O
 refine AO (fun e st=>∃ (a:List Slt) (b:VO) (Xk13:Aj) (Rk13:Am),e=[(4,true,.box (B.length+2) 0),(8,true,.box (B.length+3) 0)]/\st=⟨B++([DR a0,Ll a1,[Ag 0,Ag 0,.list ([]) .full],[Ag v.number,Ag v.time,Gk b a.length]]++Xk13),Rk13,L⟩/\Owns Rw Rk13 [] .none [(b,10,a.flatMap fun x=>(Br x).cells)]/\Ii n v a=some r) ?_ ?_
 ·intro K14 z
  refine rg [3,4,6,8,27] hs ?_
  refine BA h hs ?_ ?_<;>intro hs h
  ·obtain ⟨j,G,h⟩:=bind_some h
   obtain ⟨am,N,h⟩:=bind_some h
   obtain ⟨ad,ae,g⟩:=Bo N
   obtain ⟨Z,D,hqx18,ab,t⟩:=i.rowV (by rw [(CJ (f:=Br) (sz:=10) (fun _=>by simp +decide only [go_sem]) _)];exact Nat.mul_pos (by omega) (by decide))
   subst hqx18
   have l:=W7 (f:=Br) (sz:=10) (fun _=>by simp +decide only [go_sem]) g
   have s:=F9 (f:=fun x=>(Br x).cells) 10 (fun _=>by simp +decide only [go_sem]) g
   have q:=CJ (f:=Br) (sz:=10) (fun _=>by simp +decide only [go_sem]) v.slots
   simp only [A2,A0,AY,A3,AZ,AX,AN,AG,A1,Ax,Az,AH,AM,AL,A5,AK,A6,J3,Gz] at l s t q
   have p:=Q6 (f:=Br) (sz:=10) (fun _=>by simp +decide only [go_sem]) j (k:=0) (c:=Ll j) g (by simp +decide only [go_sem]) (by simp +decide only [go_sem,BH,Vl.cs,Ty.cs];first | rfl | simp [Vl.cs_length,Ty.cs_length])
   obtain ⟨w,i,d⟩:=i.storeV ((v.slots.set F.1.toNat j).flatMap fun x=>(Br x).cells)
   have m:BH ((v.slots).flatMap fun x=>(Br x).cells) (F.1.toNat*10) (Ll j)=(v.slots.set F.1.toNat j).flatMap fun x=>(Br x).cells:=p
   simp only [A2,A0,AY,A3,AZ,AX,AN,AG,A1,Ax,Az,AH,AM,AL,A5,AK,A6,J3,Gz,Ll] at p m d
   have hs:=Ac l hs
   have hs:=Ac s hs
   have hs:=Ac t hs
   have hs:=Ac q hs
   have hs:=Ac p hs
   have hs:=Ac m hs
   have hs:=Ac d hs
   refine dk 6 2 1 [4,8] hs GP ?_
   refine Aq _ (Dv w0 n _ _ _ a1 _ G) (hv hs) ?_
   refine dn hs z ?_
   exact ⟨(v.slots.set F.1.toNat j),((.row Z D)),([]),w,ef hs,ef hs,Owns.eqV (i) Rz,h⟩
  obtain ⟨J,Q,h⟩:=bind_some h
  obtain ⟨K,h⟩:=Ak h
  obtain ⟨V,C,y,i,E⟩:=WY w0 i F.1 K J
  refine IH 0 (by decide) ?_
  refine dk 6 2 2 [4,8] hs GP ?_
  refine Aq _ (Dv w0 n _ _ _ a1 _ Q) (hv hs) ?_
  refine dx hs ?_
  refine Jj [false,true,true] _ (E _ _ _) (hv hs) ?_;rintro _ _ ⟨rfl,rfl⟩
  refine ne hs z ?_
  exact ⟨(Iw v.slots F.1 J),((.row V C)),([]),y,ef hs,ef hs,Owns.eqV (i) Rz,h⟩
 ·clear h;rintro e st ⟨a,b,Xk13,Rk13,rfl,rfl,i,h⟩
  rw [Ii] at h
  have aj:=i.underV
  simp only [List.mem_cons,List.not_mem_nil,or_false,forall_eq_or_imp,forall_eq] at aj
  refine A8 hN af ai rfl o i ow ow ?_ (vu @F7)
  refine rg [4,5] hs ?_
  refine Kw (B.length+2) 2 (by first | rfl | (simp only [C6,Cd];rfl) | (simp +decide only [go_sem,Nat.reduceAdd,Y])) (by first | rfl | (simp only [PN,List.length_set];rfl)) i true (.inl rfl) (by decide) ((CJ (f:=Br) (sz:=10) (fun _=>by simp +decide only [go_sem]) _)) (PO (f:=Br) 10 (fun _=>rfl) (fun _=>by simp +decide only [go_sem]) _) (fun aa i=>?_)
  simp +decide only [go_sem,Nat.reduceAdd,List.set_cons_zero,List.set_cons_succ]
  exact rt h hs o i
def EZ (n:Nat) (a0n:Nod) (a0now:Int) (a0under:Int × List Int) (a0sent:Int) (a0state:Stt) (g:Slt):Option (Int × Stt) :=
 (NA n a0state g).bind fun b =>
 if decide (b.2=0) then
  some ((a0sent,b.1))
 else
  Av
theorem I1 (w0:World) (n:Nat) (B:Aj) (Rw:Am) (L:An) (la0:Nat) (a0n:Nod) (a0now:Int) (a0under:Int × List Int) (a0sent:Int) (a0state:Stt) (q0_ q1_ q2_ q3_:AV) (hla0:B[la0]? = some (Bd a0n a0now a0under a0sent a0state (q0_) (q1_) (q2_) (q3_))) (a1:Slt) (r:Int × Stt) (h:EZ n a0n a0now a0under a0sent a0state a1=some r) :
  ACalls Tryz.prog w0 42 [.box la0 0,.agg (Ll a1)] ⟨B,Rw,L⟩ fun x st=>x = .tup []/\st=⟨(B.set la0 (Bd a0n a0now a0under r.1 r.2 (q0_) (q1_) (q2_) (q3_))),Rw,L⟩:=by
 rw [EZ] at h
 refine hd [] Tryz.func42 Tryz.ntmps42 fun M0 W0 p m o b q l hs=>?_
 simp only [As]
 have j:=(Af.1 hla0).1
 obtain ⟨f,e,g,d⟩:=(JA _ _ _ _ _ _ _ _ _ _ _ _).1 (b.boxes _ (List.mem_of_getElem? hla0))
 have hs:=Ac (AD hla0) hs
 refine rg [0,3] hs ?_
 apply Ah;intro K2 i
 obtain ⟨t,k,h⟩:=bind_some h
 apply DF GP [10,11] [0,4,5] kr (fun s=>∃ (X:Aj) (rows:Am),s=⟨B++([Ll a1]++X),rows,L⟩) 3 (B.length+1)
 ·simp +decide only [go_sem,Nat.reduceAdd]
 ·rintro s ⟨X,rows,rfl⟩
  refine ⟨2,?_⟩
  rw [Ai];simp +decide only [go_sem,Nat.reduceAdd,BK,AD hla0]
  (repeat' apply Ac)<;>first | refine Aq _ (Ws w0 n _ _ _ a0state a1 _ k) (hv hs) ?_ | exact cl
  rw [Ai];simp +decide only [go_sem,Nat.reduceAdd,AD hla0]
  (repeat' apply Ac)<;>first | rfl | exact cl
 ·exact gd (tg (a:=(10,11,[0,4,5]))) (Ac (AD hla0) hs)
 simp +decide only [go_sem,Nat.reduceAdd,AD hla0]
 (repeat' apply Ac)<;>first | refine i _ _ ?_ | exact cl
 clear i
 refine rg [0,4,17] hs ?_
 refine BA h hs ?_ ?_<;>intro hs h
 ·have c:=hs.1
  apply Ap 1 []
  rw [Ai];simp +decide only [go_sem,Nat.reduceAdd,AD hla0,c]
  (repeat' with_reducible apply Ac)<;>first | exact cl | skip
  have hgt:=Option.some.inj h;subst hgt
  first | refine Cb (AA b (by (simp +decide only [go_sem,Nat.reduceAdd])<;>exact ⟨f,e,g,d⟩)) GR l.pre ev ⟨?_,rfl⟩ | refine Dq (AA b (by (simp +decide only [go_sem,Nat.reduceAdd])<;>exact ⟨f,e,g,d⟩)) GR l.pre ev ⟨?_,rfl⟩
  first | rfl | (simp +decide only [go_sem,Nat.reduceAdd,AD hla0,c];done) | (simp +decide only [go_sem,Nat.reduceAdd,Vl.cs,Ty.cs,AD hla0,c];done)
 have c:=hs.1
 exact nS h
def JL (n:Nat) (h:Stt) (q:Vl):Option (Stt × Bool) :=
 (Jd n h q).bind fun b =>
 if !b.2 then
  Av
 else
  (G6 n h).bind fun g =>
  if B1 (b.1+1) then
   if 0<=b.1/\b.1<(g.slots.length:Int) then
    some ((Stt.mk g.number g.time (Q5 g.slots b.1),true))
   else none
  else none
theorem RD (w0:World) (n:Nat) (B:Aj) (Rw:Am) (L:An) (a0:Stt) (a1:Vl) (r:Stt × Bool) (h:JL n a0 a1=some r) :
  ACalls Tryz.prog w0 100 [.agg (DR a0),.agg (a1.cs)] ⟨B,Rw,L⟩ fun x st=>x = .tup [.agg (DR r.1),.val (.bool r.2)]/\st=⟨B,Rw,L⟩:=by
 rw [JL] at h
 refine hd [.cell 4 41,.tmp 5] Tryz.func100 Tryz.ntmps100 fun M0 W0 E y z d D c hs=>?_
 simp only [As]
 refine rg [2,3,4] hs ?_
 obtain ⟨w,s,h⟩:=bind_some h
 refine rc 2 [2,4,6,7] hs ?_;intro K2 i
 refine Aq _ (OO w0 n _ _ _ a0 a1 _ s) (hv hs) ?_
 refine ne hs i ?_
 clear i
 apply Ah;intro K4 k
 refine rg [2,4,6,16] hs ?_
 refine BA h hs ?_ ?_<;>intro hs h
 ·have l:=hs.1
  exact nS h
 have l:=hs.1
 refine sk [2,4,6] hs k ?_
 clear k
 obtain ⟨C,q,h⟩:=bind_some h
 refine rc 2 [4,6,8] hs ?_;intro K7 j
 refine Bm _ (MK w0 n _ _ _ a0 _ q) (hv hs) ?_;rintro _ _ ⟨v,Rv11,rfl,rfl,a⟩
 have c:=c.callV a
 refine ne hs j ?_
 clear j
 apply Ah;intro K12 b
 obtain ⟨u,h⟩:=Ak h
 obtain ⟨g,h⟩:=Ak h
 obtain ⟨t,p,m,c,e⟩:=Xj w0 c w.1 g
 refine IH 0 (by decide) ?_
 refine rk 2 [4,8] hs ?_
 refine Jj [false,true,true] _ (e _ _) (hv hs) ?_;rintro _ _ ⟨rfl,rfl⟩
 refine ne hs b ?_
 clear b
 refine rg [4,5] hs ?_
 refine Kw (B.length+2) 2 (by first | rfl | (simp only [C6,Cd];rfl) | (simp +decide only [go_sem,Nat.reduceAdd,l])) (by first | rfl | (simp only [PN,List.length_set];rfl)) c true (.inl rfl) (by decide) ((CJ (f:=Br) (sz:=10) (fun _=>by simp +decide only [go_sem]) _)) (PO (f:=Br) 10 (fun _=>rfl) (fun _=>by simp +decide only [go_sem]) _) (fun o c=>?_)
 simp +decide only [go_sem,Nat.reduceAdd,List.set_cons_zero,List.set_cons_succ]
 exact rt h hs d c
def CQ (n:Nat) (a0n:Nod) (a0now:Int) (a0under:Int × List Int) (a0sent:Int) (a0state:Stt) (g:Slt):Option (Int × Stt) :=
 (JL n a0state g.key).bind fun b =>
 if b.2 then
  some ((a0sent,b.1))
 else
  Av
theorem EQ (w0:World) (n:Nat) (B:Aj) (Rw:Am) (L:An) (la0:Nat) (a0n:Nod) (a0now:Int) (a0under:Int × List Int) (a0sent:Int) (a0state:Stt) (q0_ q1_ q2_ q3_:AV) (hla0:B[la0]? = some (Bd a0n a0now a0under a0sent a0state (q0_) (q1_) (q2_) (q3_))) (a1:Slt) (r:Int × Stt) (h:CQ n a0n a0now a0under a0sent a0state a1=some r) :
  ACalls Tryz.prog w0 72 [.box la0 0,.agg (Ll a1)] ⟨B,Rw,L⟩ fun x st=>x = .tup []/\st=⟨(B.set la0 (Bd a0n a0now a0under r.1 r.2 (q0_) (q1_) (q2_) (q3_))),Rw,L⟩:=by
 rw [CQ] at h
 refine hd [] Tryz.func72 Tryz.ntmps72 fun M0 W0 p m o b q l hs=>?_
 simp only [As]
 have j:=(Af.1 hla0).1
 obtain ⟨f,e,g,d⟩:=(JA _ _ _ _ _ _ _ _ _ _ _ _).1 (b.boxes _ (List.mem_of_getElem? hla0))
 have hs:=Ac (AD hla0) hs
 refine rg [0,3] hs ?_
 apply Ah;intro K2 i
 obtain ⟨t,k,h⟩:=bind_some h
 apply DF GP [11,12] [0,4,5] kr (fun s=>∃ (X:Aj) (rows:Am),s=⟨B++([Ll a1]++X),rows,L⟩) 3 (B.length+1)
 ·simp +decide only [go_sem,Nat.reduceAdd]
 ·rintro s ⟨X,rows,rfl⟩
  refine ⟨2,?_⟩
  rw [Ai];simp +decide only [go_sem,Nat.reduceAdd,BK,AD hla0]
  (repeat' apply Ac)<;>first | refine Aq _ (RD w0 n _ _ _ a0state a1.key _ k) (hv hs) ?_ | exact cl
  rw [Ai];simp +decide only [go_sem,Nat.reduceAdd,AD hla0]
  (repeat' apply Ac)<;>first | rfl | exact cl
 ·exact gd (tg (a:=(11,12,[0,4,5]))) (Ac (AD hla0) hs)
 simp +decide only [go_sem,Nat.reduceAdd,AD hla0]
 (repeat' apply Ac)<;>first | refine i _ _ ?_ | exact cl
 clear i
 refine rg [0,4,17] hs ?_
 refine BA h hs ?_ ?_<;>intro hs h
 ·have c:=hs.1
  apply Ap 1 []
  rw [Ai];simp +decide only [go_sem,Nat.reduceAdd,AD hla0,c]
  (repeat' with_reducible apply Ac)<;>first | exact cl | skip
  have hgt:=Option.some.inj h;subst hgt
  first | refine Cb (AA b (by (simp +decide only [go_sem,Nat.reduceAdd])<;>exact ⟨f,e,g,d⟩)) GR l.pre ev ⟨?_,rfl⟩ | refine Dq (AA b (by (simp +decide only [go_sem,Nat.reduceAdd])<;>exact ⟨f,e,g,d⟩)) GR l.pre ev ⟨?_,rfl⟩
  first | rfl | (simp +decide only [go_sem,Nat.reduceAdd,AD hla0,c];done) | (simp +decide only [go_sem,Nat.reduceAdd,Vl.cs,Ty.cs,AD hla0,c];done)
 have c:=hs.1
 exact nS h
def CM (n:Nat) (a0n:Nod) (a0now:Int) (a0under:Int × List Int) (a0sent:Int) (a0state:Stt) (g:Slt) (b:Int):Option (Int × Otc) :=
 if decide (b<0) then
  (CQ n a0n a0now a0under a0sent a0state g).bind fun y6 =>
  (D1 g.items 0).bind fun x8 =>
  (U0 n a0n ([]) ([]) x8 ((⟨#[117,110,100,111,110,101]⟩:ByteArray))).bind fun y =>
  some ((y6.1,Otc.mk y6.2 ([]) ([]) y.1 y.2))
 else
  if B1 ((a0n.calls.length:Int)+b) then
   (C4 a0n a0now a0under a0sent a0state).bind fun h =>
   (D1 a0n.calls b).bind fun x20 =>
   if B1 (g.key.int+b) then
    if B1 (2*b) then
     (D1 g.values (2*b)).bind fun x23 =>
     (Ce n x23).bind fun y24 =>
     if (0+1)*152<=140737488355328/\0+1<=4611686018427387904 then
      (EZ n a0n a0now a0under h.2.1 h.2.2 (Slt.mk g.key ((a0n.calls.length:Int)+b) 0 g.items g.values)).bind fun q =>
      some ((q.1,Otc.mk q.2 ([]) ([Rqs.mk h.1 x20.1 (g.key.int+b) true y24]) ([]) ([])))
     else none
    else none
   else none
  else none
theorem D5 (w0:World) (n:Nat) (B:Aj) (Rw:Am) (L:An) (la0:Nat) (a0n:Nod) (a0now:Int) (a0under:Int × List Int) (a0sent:Int) (a0state:Stt) (hla0:B[la0]? = some (Bd a0n a0now a0under a0sent a0state (.list ([]) .full) (.list ([]) .full) (.list ([]) .full) (.list ([]) .full))) (a1:Slt) (a2:Int) (r:Int × Otc) (h:CM n a0n a0now a0under a0sent a0state a1 a2=some r) :
  ACalls Tryz.prog w0 41 [.box la0 0,.agg (Ll a1),Ag a2] ⟨B,Rw,L⟩ fun x st=>x = .tup []/\st=⟨(B.set la0 (Bd a0n a0now a0under r.1 r.2.state (.list (r.2.outputs.map KN) .none) (.list (r.2.requests.map GQ) .none) (.list (r.2.fates.map Hn) .none) (.list (r.2.letters.map Cj) .none))),Rw,L⟩:=by
 rw [CM] at h
 refine hd [] Tryz.func41 Tryz.ntmps41 fun M0 W0 hN ad ag k hu j hs=>?_
 simp only [As]
 have g:=(Af.1 hla0).1
 apply GW;intro KE F
 refine Ho (B':=B.set la0 (Bd a0n a0now a0under a0sent a0state (.list ([]) .full) (.list ([]) .full) (.list ([]) .full) (.list ([]) .full))) (by simp only [Bc hla0]) ?_
 have hs:=Ac (Ar hla0) hs
 refine rg [0,2,4] hs ?_
 apply Ah;intro K2 G
 refine rg [0,2,4,7] hs ?_
 refine BA h hs ?_ ?_<;>intro hs h
 ·have e:=hs.1
  obtain ⟨y6,ah,h⟩:=bind_some h
  refine rc 2 [0,4] hs ?_;intro K5 N
  refine Bm _ (EQ w0 n _ _ _ la0 a0n a0now a0under a0sent a0state (.list ([]) .full) (.list ([]) .full) (.list ([]) .full) (.list ([]) .full) (ef hs) a1 _ ah) (hv hs) ?_;rintro _ _ ⟨rfl,rfl⟩
  refine ne hs N ?_
  clear N
  obtain ⟨x8,V,h⟩:=bind_some h
  obtain ⟨ap,ak,H⟩:=Bo V
  have o:=Bq (f:=Cj) H
  have D:(a1.items.map Cj).getD 0 .junk=_:=o
  have j:=j.full 10 0
  have j:=j.full 6 0
  obtain ⟨av,E,h⟩:=bind_some h
  have hs:=Ac o hs
  have hs:=Ac D hs
  refine rc 2 [] hs ?_;intro K7 K
  refine Bm _ (Oc w0 n _ _ _ la0 a0n a0now a0under y6.1 y6.2 (.list ([]) .full) (.list ([]) .full) ([]) ([]) .full .full (ef hs) j.enter2a j.enter2b j.apart2 x8 ((⟨#[117,110,100,111,110,101]⟩:ByteArray)) _ E) (hv hs) ?_;rintro _ _ ⟨rfl,Rg12,Rh13,ar,am,rfl,m,l⟩
  have j:=j.call2 m l
  refine ne hs K ?_
  clear K
  first | refine JV g ?_ | refine HS g ?_
  exact go (tg (a:=((),()))) h hs hN ad ag k j trivial trivial
 have e:=hs.1
 refine sk [0,2,4] hs G ?_
 clear G
 obtain ⟨aj,h⟩:=Ak h
 have hs:=Ac (Vl.cs_eqs a1.key) hs
 refine rg [0,2,4] hs ?_
 apply Ah;intro K18 p
 obtain ⟨C,u,h⟩:=bind_some h
 obtain ⟨U,ab,ae,d,h⟩:=ix KJ h
 obtain ⟨ao,h⟩:=Ak h
 obtain ⟨aq,h⟩:=Ak h
 obtain ⟨aa,Z,af,c,h⟩:=ix B6 h
 obtain ⟨ai,J,h⟩:=bind_some h
 obtain ⟨v,h⟩:=Ak h
 have j:=j.full 11 0
 obtain ⟨Y,Q,j,b⟩:=j.append (P:=Tryz.prog) ZbE (by rw [XF];rfl) (by decide) 1 v.1 v.2
 simp only [Nat.zero_add] at j
 replace b:=fun (ys:List AV) B L o2=>b ([]) ys B L o2 Fe
 replace b:=fun (y:AV) B L o2=>b [y] B L o2 Fe ev
 try simp only [List.mem_singleton,List.mem_cons,List.not_mem_nil,or_false,forall_eq_or_imp,forall_eq,List.map_append,List.map_cons,List.map_nil,A2,A0,AY,A3,AZ,AX,AN,AG,A1,Ax,Az,AH,AM,AL,A5,AK,A6] at b
 apply DF GP [5,7,29,30,31,35] [0,4] kr (fun s=>∃ (X:Aj) (rows:Am) (t:Int) (w:Stt) (q:AV),s=⟨(B.set la0 (Bd a0n a0now a0under t w (.list ([]) .full) q (.list ([]) .full) (.list ([]) .full)))++([[Ag a1.key.kind,Ag a1.key.int,Ag a1.key.scale,.val (.string a1.key.text),.list (a1.key.list.map B6) .none,.list (a1.key.fields.map B7) .none,Ag ((a0n.calls.length:Int)+a2),Ag 0,.list (a1.items.map Cj) .none,.list (a1.values.map B6) .none]]++X),rows,L⟩) 7 (B.length+1)
 ·simp +decide only [go_sem,Nat.reduceAdd]
 ·rintro s ⟨X,rows,t,w,q,rfl⟩
  refine ⟨2,?_⟩
  rw [Ai];simp +decide only [go_sem,Nat.reduceAdd,BK,Ar hla0,e,Vl.cs_eqs a1.key,d,c,b,List.append_eq,List.cons_append,List.nil_append]
  have hs:=Ac d hs
  have hs:=Ac c hs
  have hs:=Ac b hs
  (repeat' apply Ac)<;>first | refine Aq _ (BX w0 n _ _ _ aa _ J) (hv (al hs)) ?_ | exact cl
  rw [Ai];simp +decide only [go_sem,Nat.reduceAdd,Ar hla0,e,Vl.cs_eqs a1.key,d,c,b,List.append_eq,List.cons_append,List.nil_append]
  (repeat' apply Ac)<;>first | rfl | exact cl
 ·refine Good.mk [5,7] kr ⟨[],_,_,_,_,by first | rfl | (simp only [List.append_nil,List.nil_append];done) | (simp only [List.append_nil,List.nil_append,List.map_append,List.map_cons,List.map_nil,A2,A0,AY,A3,AZ,AX,AN,AG,A1,Ax,Az,AH,AM,AL,A5,AK,A6,Vl.cs_eqs a1.key];rfl)⟩ ?_ ?_
  ·intro h;exact absurd h (by decide)
  ·intro i hi;simp only [List.mem_cons,List.not_mem_nil,or_false] at hi
   rcases hi with rfl | rfl
   ·apply Aw rfl rfl ev
    ·simp +decide only [go_sem,Nat.reduceAdd,A7,Ar hla0,e,Vl.cs_eqs a1.key,d,c,b,List.append_eq,List.cons_append,List.nil_append]
     (repeat' apply Ac)<;>first | rfl | exact ⟨_,_,_,_,_,rfl⟩ | exact cl
    ·simp +decide only [go_sem,Nat.reduceAdd,Ar hla0,e,Vl.cs_eqs a1.key,d,c,b,List.append_eq,List.cons_append,List.nil_append]
     refine Good.mk [7] kr ⟨[],_,_,_,_,by first | rfl | (simp only [List.append_nil,List.nil_append];done) | (simp only [List.append_nil,List.nil_append,List.map_append,List.map_cons,List.map_nil,A2,A0,AY,A3,AZ,AX,AN,AG,A1,Ax,Az,AH,AM,AL,A5,AK,A6,Vl.cs_eqs a1.key];rfl)⟩ ?_ ?_
     ·intro h;exact absurd h (by decide)
     ·intro i hi;simp only [List.mem_cons,List.not_mem_nil,or_false] at hi
      subst hi
      ·apply Aw rfl rfl ev
       ·simp +decide only [go_sem,Nat.reduceAdd,A7,Ar hla0,e,Vl.cs_eqs a1.key,d,c,b,List.append_eq,List.cons_append,List.nil_append]
        have hs:=Ac d hs
        have hs:=Ac c hs
        have hs:=Ac b hs
        (repeat' with_reducible apply Ac)<;>first | exact E7 (CP w0 _ _ _ la0 a0n a0now a0under a0sent a0state (.list ([]) .full) (.list ([]) .full) (.list ([]) .full) (.list ([]) .full) (ef hs) _ u) (hv (al hs)) | rfl | exact ⟨_,_,_,_,_,rfl⟩ | exact cl
       ·simp +decide only [go_sem,Nat.reduceAdd,Ar hla0,e,Vl.cs_eqs a1.key,d,c,b,List.append_eq,List.cons_append,List.nil_append]
        refine Good.mk [29] kr ⟨[],_,_,_,_,by first | rfl | (simp only [List.append_nil,List.nil_append];done) | (simp only [List.append_nil,List.nil_append,List.map_append,List.map_cons,List.map_nil,A2,A0,AY,A3,AZ,AX,AN,AG,A1,Ax,Az,AH,AM,AL,A5,AK,A6,Vl.cs_eqs a1.key];rfl)⟩ ?_ ?_
        ·intro h;exact absurd h (by decide)
        ·intro i hi;simp only [List.mem_cons,List.not_mem_nil,or_false] at hi
         subst hi
         ·apply Aw rfl rfl ev
          ·simp +decide only [go_sem,Nat.reduceAdd,A7,Ar hla0,e,Vl.cs_eqs a1.key,d,c,b,List.append_eq,List.cons_append,List.nil_append]
           (repeat' apply Ac)<;>first | rfl | exact ⟨_,_,_,_,_,rfl⟩ | exact cl
          ·simp +decide only [go_sem,Nat.reduceAdd,Ar hla0,e,Vl.cs_eqs a1.key,d,c,b,List.append_eq,List.cons_append,List.nil_append]
           refine Good.mk [30] kr ⟨[],_,_,_,_,by first | rfl | (simp only [List.append_nil,List.nil_append];done) | (simp only [List.append_nil,List.nil_append,List.map_append,List.map_cons,List.map_nil,A2,A0,AY,A3,AZ,AX,AN,AG,A1,Ax,Az,AH,AM,AL,A5,AK,A6,Vl.cs_eqs a1.key];rfl)⟩ ?_ ?_
           ·intro h;exact absurd h (by decide)
           ·intro i hi;simp only [List.mem_cons,List.not_mem_nil,or_false] at hi
            subst hi
            ·apply Aw rfl rfl ev
             ·simp +decide only [go_sem,Nat.reduceAdd,A7,Ar hla0,e,Vl.cs_eqs a1.key,d,c,b,List.append_eq,List.cons_append,List.nil_append]
              (repeat' apply Ac)<;>first | rfl | exact ⟨_,_,_,_,_,rfl⟩ | exact cl
             ·simp +decide only [go_sem,Nat.reduceAdd,Ar hla0,e,Vl.cs_eqs a1.key,d,c,b,List.append_eq,List.cons_append,List.nil_append]
              refine Good.mk [31] kr ⟨[],_,_,_,_,by first | rfl | (simp only [List.append_nil,List.nil_append];done) | (simp only [List.append_nil,List.nil_append,List.map_append,List.map_cons,List.map_nil,A2,A0,AY,A3,AZ,AX,AN,AG,A1,Ax,Az,AH,AM,AL,A5,AK,A6,Vl.cs_eqs a1.key];rfl)⟩ ?_ ?_
              ·intro h;exact absurd h (by decide)
              ·intro i hi;simp only [List.mem_cons,List.not_mem_nil,or_false] at hi
               subst hi
               ·apply Aw rfl rfl ev
                ·simp +decide only [go_sem,Nat.reduceAdd,A7,Ar hla0,e,Vl.cs_eqs a1.key,d,c,b,List.append_eq,List.cons_append,List.nil_append]
                 (repeat' apply Ac)<;>first | rfl | exact ⟨_,_,_,_,_,rfl⟩ | exact cl
                ·simp +decide only [go_sem,Nat.reduceAdd,Ar hla0,e,Vl.cs_eqs a1.key,d,c,b,List.append_eq,List.cons_append,List.nil_append]
                 refine Good.mk [35] kr ⟨[],_,_,_,_,by first | rfl | (simp only [List.append_nil,List.nil_append];done) | (simp only [List.append_nil,List.nil_append,List.map_append,List.map_cons,List.map_nil,A2,A0,AY,A3,AZ,AX,AN,AG,A1,Ax,Az,AH,AM,AL,A5,AK,A6,Vl.cs_eqs a1.key];rfl)⟩ ?_ ?_
                 ·intro h;exact absurd h (by decide)
                 ·intro i hi;simp only [List.mem_cons,List.not_mem_nil,or_false] at hi
                  subst hi
                  ·apply Aw rfl rfl ev
                   ·simp +decide only [go_sem,Nat.reduceAdd,A7,Ar hla0,e,Vl.cs_eqs a1.key,d,c,b,List.append_eq,List.cons_append,List.nil_append]
                    (repeat' apply Ac)<;>first | rfl | exact ⟨_,_,_,_,_,rfl⟩ | exact cl
                   ·simp +decide only [go_sem,Nat.reduceAdd,Ar hla0,e,Vl.cs_eqs a1.key,d,c,b,List.append_eq,List.cons_append,List.nil_append]
                    refine Good.mk [] kr ⟨[],_,_,_,_,by first | rfl | (simp only [List.append_nil,List.nil_append];done) | (simp only [List.append_nil,List.nil_append,List.map_append,List.map_cons,List.map_nil,A2,A0,AY,A3,AZ,AX,AN,AG,A1,Ax,Az,AH,AM,AL,A5,AK,A6,Vl.cs_eqs a1.key];rfl)⟩ ?_ ?_
                    ·intro _;apply BM [0,4];first | (simp +decide only [go_sem,Nat.reduceAdd,Ar hla0,e,Vl.cs_eqs a1.key,d,c,b,List.append_eq,List.cons_append,List.nil_append];done) | (simp +decide only [go_sem,Nat.reduceAdd,Ar hla0,e,Vl.cs_eqs a1.key,d,c,b,List.append_eq,List.cons_append,List.nil_append];rfl)
                    ·intro i hi;cases hi
   ·apply Aw rfl rfl ev
    ·simp +decide only [go_sem,Nat.reduceAdd,A7,Ar hla0,e,Vl.cs_eqs a1.key,d,c,b,List.append_eq,List.cons_append,List.nil_append]
     have hs:=Ac d hs
     have hs:=Ac c hs
     have hs:=Ac b hs
     (repeat' with_reducible apply Ac)<;>first | exact E7 (CP w0 _ _ _ la0 a0n a0now a0under a0sent a0state (.list ([]) .full) (.list ([]) .full) (.list ([]) .full) (.list ([]) .full) (ef hs) _ u) (hv (al hs)) | rfl | exact ⟨_,_,_,_,_,rfl⟩ | exact cl
    ·simp +decide only [go_sem,Nat.reduceAdd,Ar hla0,e,Vl.cs_eqs a1.key,d,c,b,List.append_eq,List.cons_append,List.nil_append]
     refine Good.mk [5,29] kr ⟨[],_,_,_,_,by first | rfl | (simp only [List.append_nil,List.nil_append];done) | (simp only [List.append_nil,List.nil_append,List.map_append,List.map_cons,List.map_nil,A2,A0,AY,A3,AZ,AX,AN,AG,A1,Ax,Az,AH,AM,AL,A5,AK,A6,Vl.cs_eqs a1.key];rfl)⟩ ?_ ?_
     ·intro h;exact absurd h (by decide)
     ·intro i hi;simp only [List.mem_cons,List.not_mem_nil,or_false] at hi
      rcases hi with rfl | rfl
      ·apply Aw rfl rfl ev
       ·simp +decide only [go_sem,Nat.reduceAdd,A7,Ar hla0,e,Vl.cs_eqs a1.key,d,c,b,List.append_eq,List.cons_append,List.nil_append]
        (repeat' apply Ac)<;>first | rfl | exact ⟨_,_,_,_,_,rfl⟩ | exact cl
       ·simp +decide only [go_sem,Nat.reduceAdd,Ar hla0,e,Vl.cs_eqs a1.key,d,c,b,List.append_eq,List.cons_append,List.nil_append]
        refine Good.mk [29] kr ⟨[],_,_,_,_,by first | rfl | (simp only [List.append_nil,List.nil_append];done) | (simp only [List.append_nil,List.nil_append,List.map_append,List.map_cons,List.map_nil,A2,A0,AY,A3,AZ,AX,AN,AG,A1,Ax,Az,AH,AM,AL,A5,AK,A6,Vl.cs_eqs a1.key];rfl)⟩ ?_ ?_
        ·intro h;exact absurd h (by decide)
        ·intro i hi;simp only [List.mem_cons,List.not_mem_nil,or_false] at hi
         subst hi
         ·apply Aw rfl rfl ev
          ·simp +decide only [go_sem,Nat.reduceAdd,A7,Ar hla0,e,Vl.cs_eqs a1.key,d,c,b,List.append_eq,List.cons_append,List.nil_append]
           (repeat' apply Ac)<;>first | rfl | exact ⟨_,_,_,_,_,rfl⟩ | exact cl
          ·simp +decide only [go_sem,Nat.reduceAdd,Ar hla0,e,Vl.cs_eqs a1.key,d,c,b,List.append_eq,List.cons_append,List.nil_append]
           refine Good.mk [30] kr ⟨[],_,_,_,_,by first | rfl | (simp only [List.append_nil,List.nil_append];done) | (simp only [List.append_nil,List.nil_append,List.map_append,List.map_cons,List.map_nil,A2,A0,AY,A3,AZ,AX,AN,AG,A1,Ax,Az,AH,AM,AL,A5,AK,A6,Vl.cs_eqs a1.key];rfl)⟩ ?_ ?_
           ·intro h;exact absurd h (by decide)
           ·intro i hi;simp only [List.mem_cons,List.not_mem_nil,or_false] at hi
            subst hi
            ·apply Aw rfl rfl ev
             ·simp +decide only [go_sem,Nat.reduceAdd,A7,Ar hla0,e,Vl.cs_eqs a1.key,d,c,b,List.append_eq,List.cons_append,List.nil_append]
              (repeat' apply Ac)<;>first | rfl | exact ⟨_,_,_,_,_,rfl⟩ | exact cl
             ·simp +decide only [go_sem,Nat.reduceAdd,Ar hla0,e,Vl.cs_eqs a1.key,d,c,b,List.append_eq,List.cons_append,List.nil_append]
              refine Good.mk [31] kr ⟨[],_,_,_,_,by first | rfl | (simp only [List.append_nil,List.nil_append];done) | (simp only [List.append_nil,List.nil_append,List.map_append,List.map_cons,List.map_nil,A2,A0,AY,A3,AZ,AX,AN,AG,A1,Ax,Az,AH,AM,AL,A5,AK,A6,Vl.cs_eqs a1.key];rfl)⟩ ?_ ?_
              ·intro h;exact absurd h (by decide)
              ·intro i hi;simp only [List.mem_cons,List.not_mem_nil,or_false] at hi
               subst hi
               ·apply Aw rfl rfl ev
                ·simp +decide only [go_sem,Nat.reduceAdd,A7,Ar hla0,e,Vl.cs_eqs a1.key,d,c,b,List.append_eq,List.cons_append,List.nil_append]
                 (repeat' apply Ac)<;>first | rfl | exact ⟨_,_,_,_,_,rfl⟩ | exact cl
                ·simp +decide only [go_sem,Nat.reduceAdd,Ar hla0,e,Vl.cs_eqs a1.key,d,c,b,List.append_eq,List.cons_append,List.nil_append]
                 refine Good.mk [35] kr ⟨[],_,_,_,_,by first | rfl | (simp only [List.append_nil,List.nil_append];done) | (simp only [List.append_nil,List.nil_append,List.map_append,List.map_cons,List.map_nil,A2,A0,AY,A3,AZ,AX,AN,AG,A1,Ax,Az,AH,AM,AL,A5,AK,A6,Vl.cs_eqs a1.key];rfl)⟩ ?_ ?_
                 ·intro h;exact absurd h (by decide)
                 ·intro i hi;simp only [List.mem_cons,List.not_mem_nil,or_false] at hi
                  subst hi
                  ·apply Aw rfl rfl ev
                   ·simp +decide only [go_sem,Nat.reduceAdd,A7,Ar hla0,e,Vl.cs_eqs a1.key,d,c,b,List.append_eq,List.cons_append,List.nil_append]
                    (repeat' apply Ac)<;>first | rfl | exact ⟨_,_,_,_,_,rfl⟩ | exact cl
                   ·simp +decide only [go_sem,Nat.reduceAdd,Ar hla0,e,Vl.cs_eqs a1.key,d,c,b,List.append_eq,List.cons_append,List.nil_append]
                    refine Good.mk [] kr ⟨[],_,_,_,_,by first | rfl | (simp only [List.append_nil,List.nil_append];done) | (simp only [List.append_nil,List.nil_append,List.map_append,List.map_cons,List.map_nil,A2,A0,AY,A3,AZ,AX,AN,AG,A1,Ax,Az,AH,AM,AL,A5,AK,A6,Vl.cs_eqs a1.key];rfl)⟩ ?_ ?_
                    ·intro _;apply BM [0,4];first | (simp +decide only [go_sem,Nat.reduceAdd,Ar hla0,e,Vl.cs_eqs a1.key,d,c,b,List.append_eq,List.cons_append,List.nil_append];done) | (simp +decide only [go_sem,Nat.reduceAdd,Ar hla0,e,Vl.cs_eqs a1.key,d,c,b,List.append_eq,List.cons_append,List.nil_append];rfl)
                    ·intro i hi;cases hi
      ·apply Aw rfl rfl ev
       ·simp +decide only [go_sem,Nat.reduceAdd,A7,Ar hla0,e,Vl.cs_eqs a1.key,d,c,b,List.append_eq,List.cons_append,List.nil_append]
        (repeat' apply Ac)<;>first | rfl | exact ⟨_,_,_,_,_,rfl⟩ | exact cl
       ·simp +decide only [go_sem,Nat.reduceAdd,Ar hla0,e,Vl.cs_eqs a1.key,d,c,b,List.append_eq,List.cons_append,List.nil_append]
        refine Good.mk [5,30] kr ⟨[],_,_,_,_,by first | rfl | (simp only [List.append_nil,List.nil_append];done) | (simp only [List.append_nil,List.nil_append,List.map_append,List.map_cons,List.map_nil,A2,A0,AY,A3,AZ,AX,AN,AG,A1,Ax,Az,AH,AM,AL,A5,AK,A6,Vl.cs_eqs a1.key];rfl)⟩ ?_ ?_
        ·intro h;exact absurd h (by decide)
        ·intro i hi;simp only [List.mem_cons,List.not_mem_nil,or_false] at hi
         rcases hi with rfl | rfl
         ·apply Aw rfl rfl ev
          ·simp +decide only [go_sem,Nat.reduceAdd,A7,Ar hla0,e,Vl.cs_eqs a1.key,d,c,b,List.append_eq,List.cons_append,List.nil_append]
           (repeat' apply Ac)<;>first | rfl | exact ⟨_,_,_,_,_,rfl⟩ | exact cl
          ·simp +decide only [go_sem,Nat.reduceAdd,Ar hla0,e,Vl.cs_eqs a1.key,d,c,b,List.append_eq,List.cons_append,List.nil_append]
           refine Good.mk [30] kr ⟨[],_,_,_,_,by first | rfl | (simp only [List.append_nil,List.nil_append];done) | (simp only [List.append_nil,List.nil_append,List.map_append,List.map_cons,List.map_nil,A2,A0,AY,A3,AZ,AX,AN,AG,A1,Ax,Az,AH,AM,AL,A5,AK,A6,Vl.cs_eqs a1.key];rfl)⟩ ?_ ?_
           ·intro h;exact absurd h (by decide)
           ·intro i hi;simp only [List.mem_cons,List.not_mem_nil,or_false] at hi
            subst hi
            ·apply Aw rfl rfl ev
             ·simp +decide only [go_sem,Nat.reduceAdd,A7,Ar hla0,e,Vl.cs_eqs a1.key,d,c,b,List.append_eq,List.cons_append,List.nil_append]
              (repeat' apply Ac)<;>first | rfl | exact ⟨_,_,_,_,_,rfl⟩ | exact cl
             ·simp +decide only [go_sem,Nat.reduceAdd,Ar hla0,e,Vl.cs_eqs a1.key,d,c,b,List.append_eq,List.cons_append,List.nil_append]
              refine Good.mk [31] kr ⟨[],_,_,_,_,by first | rfl | (simp only [List.append_nil,List.nil_append];done) | (simp only [List.append_nil,List.nil_append,List.map_append,List.map_cons,List.map_nil,A2,A0,AY,A3,AZ,AX,AN,AG,A1,Ax,Az,AH,AM,AL,A5,AK,A6,Vl.cs_eqs a1.key];rfl)⟩ ?_ ?_
              ·intro h;exact absurd h (by decide)
              ·intro i hi;simp only [List.mem_cons,List.not_mem_nil,or_false] at hi
               subst hi
               ·apply Aw rfl rfl ev
                ·simp +decide only [go_sem,Nat.reduceAdd,A7,Ar hla0,e,Vl.cs_eqs a1.key,d,c,b,List.append_eq,List.cons_append,List.nil_append]
                 (repeat' apply Ac)<;>first | rfl | exact ⟨_,_,_,_,_,rfl⟩ | exact cl
                ·simp +decide only [go_sem,Nat.reduceAdd,Ar hla0,e,Vl.cs_eqs a1.key,d,c,b,List.append_eq,List.cons_append,List.nil_append]
                 refine Good.mk [35] kr ⟨[],_,_,_,_,by first | rfl | (simp only [List.append_nil,List.nil_append];done) | (simp only [List.append_nil,List.nil_append,List.map_append,List.map_cons,List.map_nil,A2,A0,AY,A3,AZ,AX,AN,AG,A1,Ax,Az,AH,AM,AL,A5,AK,A6,Vl.cs_eqs a1.key];rfl)⟩ ?_ ?_
                 ·intro h;exact absurd h (by decide)
                 ·intro i hi;simp only [List.mem_cons,List.not_mem_nil,or_false] at hi
                  subst hi
                  ·apply Aw rfl rfl ev
                   ·simp +decide only [go_sem,Nat.reduceAdd,A7,Ar hla0,e,Vl.cs_eqs a1.key,d,c,b,List.append_eq,List.cons_append,List.nil_append]
                    (repeat' apply Ac)<;>first | rfl | exact ⟨_,_,_,_,_,rfl⟩ | exact cl
                   ·simp +decide only [go_sem,Nat.reduceAdd,Ar hla0,e,Vl.cs_eqs a1.key,d,c,b,List.append_eq,List.cons_append,List.nil_append]
                    refine Good.mk [] kr ⟨[],_,_,_,_,by first | rfl | (simp only [List.append_nil,List.nil_append];done) | (simp only [List.append_nil,List.nil_append,List.map_append,List.map_cons,List.map_nil,A2,A0,AY,A3,AZ,AX,AN,AG,A1,Ax,Az,AH,AM,AL,A5,AK,A6,Vl.cs_eqs a1.key];rfl)⟩ ?_ ?_
                    ·intro _;apply BM [0,4];first | (simp +decide only [go_sem,Nat.reduceAdd,Ar hla0,e,Vl.cs_eqs a1.key,d,c,b,List.append_eq,List.cons_append,List.nil_append];done) | (simp +decide only [go_sem,Nat.reduceAdd,Ar hla0,e,Vl.cs_eqs a1.key,d,c,b,List.append_eq,List.cons_append,List.nil_append];rfl)
                    ·intro i hi;cases hi
         ·apply Aw rfl rfl ev
          ·simp +decide only [go_sem,Nat.reduceAdd,A7,Ar hla0,e,Vl.cs_eqs a1.key,d,c,b,List.append_eq,List.cons_append,List.nil_append]
           (repeat' apply Ac)<;>first | rfl | exact ⟨_,_,_,_,_,rfl⟩ | exact cl
          ·simp +decide only [go_sem,Nat.reduceAdd,Ar hla0,e,Vl.cs_eqs a1.key,d,c,b,List.append_eq,List.cons_append,List.nil_append]
           refine Good.mk [5] kr ⟨[],_,_,_,_,by first | rfl | (simp only [List.append_nil,List.nil_append];done) | (simp only [List.append_nil,List.nil_append,List.map_append,List.map_cons,List.map_nil,A2,A0,AY,A3,AZ,AX,AN,AG,A1,Ax,Az,AH,AM,AL,A5,AK,A6,Vl.cs_eqs a1.key];rfl)⟩ ?_ ?_
           ·intro h;exact absurd h (by decide)
           ·intro i hi;simp only [List.mem_cons,List.not_mem_nil,or_false] at hi
            subst hi
            ·apply Aw rfl rfl ev
             ·simp +decide only [go_sem,Nat.reduceAdd,A7,Ar hla0,e,Vl.cs_eqs a1.key,d,c,b,List.append_eq,List.cons_append,List.nil_append]
              (repeat' apply Ac)<;>first | rfl | exact ⟨_,_,_,_,_,rfl⟩ | exact cl
             ·simp +decide only [go_sem,Nat.reduceAdd,Ar hla0,e,Vl.cs_eqs a1.key,d,c,b,List.append_eq,List.cons_append,List.nil_append]
              refine Good.mk [31] kr ⟨[],_,_,_,_,by first | rfl | (simp only [List.append_nil,List.nil_append];done) | (simp only [List.append_nil,List.nil_append,List.map_append,List.map_cons,List.map_nil,A2,A0,AY,A3,AZ,AX,AN,AG,A1,Ax,Az,AH,AM,AL,A5,AK,A6,Vl.cs_eqs a1.key];rfl)⟩ ?_ ?_
              ·intro h;exact absurd h (by decide)
              ·intro i hi;simp only [List.mem_cons,List.not_mem_nil,or_false] at hi
               subst hi
               ·apply Aw rfl rfl ev
                ·simp +decide only [go_sem,Nat.reduceAdd,A7,Ar hla0,e,Vl.cs_eqs a1.key,d,c,b,List.append_eq,List.cons_append,List.nil_append]
                 (repeat' apply Ac)<;>first | rfl | exact ⟨_,_,_,_,_,rfl⟩ | exact cl
                ·simp +decide only [go_sem,Nat.reduceAdd,Ar hla0,e,Vl.cs_eqs a1.key,d,c,b,List.append_eq,List.cons_append,List.nil_append]
                 refine Good.mk [35] kr ⟨[],_,_,_,_,by first | rfl | (simp only [List.append_nil,List.nil_append];done) | (simp only [List.append_nil,List.nil_append,List.map_append,List.map_cons,List.map_nil,A2,A0,AY,A3,AZ,AX,AN,AG,A1,Ax,Az,AH,AM,AL,A5,AK,A6,Vl.cs_eqs a1.key];rfl)⟩ ?_ ?_
                 ·intro h;exact absurd h (by decide)
                 ·intro i hi;simp only [List.mem_cons,List.not_mem_nil,or_false] at hi
                  subst hi
                  ·apply Aw rfl rfl ev
                   ·simp +decide only [go_sem,Nat.reduceAdd,A7,Ar hla0,e,Vl.cs_eqs a1.key,d,c,b,List.append_eq,List.cons_append,List.nil_append]
                    (repeat' apply Ac)<;>first | rfl | exact ⟨_,_,_,_,_,rfl⟩ | exact cl
                   ·simp +decide only [go_sem,Nat.reduceAdd,Ar hla0,e,Vl.cs_eqs a1.key,d,c,b,List.append_eq,List.cons_append,List.nil_append]
                    refine Good.mk [] kr ⟨[],_,_,_,_,by first | rfl | (simp only [List.append_nil,List.nil_append];done) | (simp only [List.append_nil,List.nil_append,List.map_append,List.map_cons,List.map_nil,A2,A0,AY,A3,AZ,AX,AN,AG,A1,Ax,Az,AH,AM,AL,A5,AK,A6,Vl.cs_eqs a1.key];rfl)⟩ ?_ ?_
                    ·intro _;apply BM [0,4];first | (simp +decide only [go_sem,Nat.reduceAdd,Ar hla0,e,Vl.cs_eqs a1.key,d,c,b,List.append_eq,List.cons_append,List.nil_append];done) | (simp +decide only [go_sem,Nat.reduceAdd,Ar hla0,e,Vl.cs_eqs a1.key,d,c,b,List.append_eq,List.cons_append,List.nil_append];rfl)
                    ·intro i hi;cases hi
 simp +decide only [go_sem,Nat.reduceAdd,Ar hla0,e,Vl.cs_eqs a1.key,d,c,b,List.append_eq,List.cons_append,List.nil_append]
 (repeat' apply Ac)<;>first | refine p _ _ ?_ | exact cl
 clear p
 obtain ⟨au,O,h⟩:=bind_some h
 apply Ap 2 []
 rw [Ai];simp +decide only [go_sem,Nat.reduceAdd,Ar hla0,e,Vl.cs_eqs a1.key,d,c,b]
 have hs:=Ac d hs
 have hs:=Ac c hs
 have hs:=Ac b hs
 (repeat' apply Ac)<;>first | (refine Bm _ (I1 w0 n _ _ _ la0 a0n a0now a0under C.2.1 C.2.2 (.list ([]) .full) (.list (([Rqs.mk C.1 U.1 (a1.key.int+a2) true ai]).map GQ) Y) (.list ([]) .full) (.list ([]) .full) (ef hs) (Slt.mk a1.key ((a0n.calls.length:Int)+a2) 0 a1.items a1.values) _ O) (hv hs) ?_;rintro _ _ ⟨rfl,rfl⟩) | exact cl
 rw [Ai];simp +decide only [go_sem,Nat.reduceAdd,Ar hla0,e,Vl.cs_eqs a1.key,d,c,b]
 (repeat' apply Ac)<;>first | refine F _ _ _ (F8 g) ?_ | refine F _ _ _ (Ew g) ?_ | exact cl
 simp +decide only [go_sem,Nat.reduceAdd,Ar hla0,e,Vl.cs_eqs a1.key,d,c,b]
 have hgt:=Option.some.inj h;subst hgt
 first | refine Cb (AA k ev) GR j.pre ev ⟨?_,(by first | rfl | exact congrArg (fun z=>St.mk z Rw L) (Bc hla0).symm | (simp +decide only [go_sem,Nat.reduceAdd,Ar hla0,e,Vl.cs_eqs a1.key,d,c,b];done))⟩ | refine Dq (AA k ev) GR j.pre ev ⟨?_,(by first | rfl | exact congrArg (fun z=>St.mk z Rw L) (Bc hla0).symm | (simp +decide only [go_sem,Nat.reduceAdd,Ar hla0,e,Vl.cs_eqs a1.key,d,c,b];done))⟩
 first | rfl | (simp +decide only [go_sem,Nat.reduceAdd,Ar hla0,e,Vl.cs_eqs a1.key,d,c,b];done) | (simp +decide only [go_sem,Nat.reduceAdd,Vl.cs,Ty.cs,Ar hla0,e,Vl.cs_eqs a1.key,d,c,b];done)
end Go.Proofs.YtcpmjgdlioggjaaGreatDoor
namespace Go.Ev
open Go Go.RowKit Go.Shelf Go.Sort Go.Lib Go.Proofs
section
variable {P:Program} {w0:World} {M:Mem} {w:World} {st:St}
theorem RelSt.turn {α:Type} [Inhabited α] (h:RelSt w0 M st w) {id ver:Nat} {cs cs':List AV} (hid:st.rows[id]? = some (.vec ver 1 cs)) (enc:α->Value) (D:Array α) {w':World} {q:Nat} {os:Array Obj}
  (hw:w'=grow (putRow enc (Go.Sort.ahead w q) (M.blk id) 0 D) os) (hD:D.size<=M.cap id) (hle:cs'.length<=D.size) (hone:∀ x∈cs',x.one=true) (hR:∀ i (h2:i<cs'.length),R w0 M w (enc D[i]!) cs'[i]) :
  Ext w0 M w M w'/\RelSt w0 M { st with rows:=st.rows.set id (.vec ver 1 cs') } w':=by
 obtain ⟨E,v,C,t,z,F,y,c,ty,m,n,r,s,p⟩:=h.row id _ hid
 have j:M.blk id<w.heap.size:=(Array.getElem?_eq_some_iff.1 m).1
 have a:w'.heap=w.heap.modify (M.blk id) (onCells (putCells enc 0 D))++os:=by rw [hw];rfl
 have f:w'.os=w.os/\w'.tape=w.tape/\w'.output=w.output:=by rw [hw];exact ⟨rfl,rfl,rfl⟩
 have d:∀ b,b<w.heap.size->b≠M.blk id->w'.heap[b]? = w.heap[b]? := fun b l k=>by
  rw [a,Array.getElem?_append_left (by simpa using l),Array.getElem?_modify,Ae (fun q=>k q.symm)]
 have g:(putCells enc 0 D c).size=c.size:=by simp [putCells]
 refine h.setVec (c':=putCells enc 0 D c) (ty:=ty) hid ⟨f.1,f.2.1,f.2.2,by rw [a];simp,fun b l=>d b (Nat.lt_of_lt_of_le l h.base_le) (by omega)⟩ d
  (by rw [a,Array.getElem?_append_left (by simpa using j),Array.getElem?_modify,Ad rfl,m];rfl) (by rw [g];exact n) (by rw [g,n];omega) hone (fun i u h2=>?_)
 have o:i<D.size:=by omega
 have e:(putCells enc 0 D c)[i]=enc D[i]! := by
  simp only [putCells,Array.getElem_mapIdx,Nat.zero_le,true_and,Nat.zero_add,Ad o,Nat.sub_zero]
 rw [e]
 exact hR i h2
abbrev bl (x:ByteArray):List UInt8:=x.data.toList
def YZ (xs:List ByteArray):List ByteArray:=((xs.map bl).mergeSort fun x y=>decide (x<=y)).map fun l=>⟨l.toArray⟩
theorem Vi (xs:List ByteArray):(YZ xs).length=xs.length:=by simp [YZ]
end
end Go.Ev
