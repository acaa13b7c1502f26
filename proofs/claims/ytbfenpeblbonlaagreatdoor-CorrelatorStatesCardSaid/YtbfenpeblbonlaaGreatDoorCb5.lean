/-
  Part 5 of the proof: rules and walks that the claim's last text uses.
-/
import Derived.Carry
import Derived.ChangeOld
import Derived.ChangeSlices
import Derived.Deep.DeepHandedRow
import Derived.Deep.DeepWitnessRowRef
import Derived.Deep.LoopGhost
import Derived.Deep.RegionLaw
import Derived.Ground.Names2Prog
import Derived.Ground.NamesProg
import Derived.Ground.SlgfProg
import Derived.Ground.SlgnProg
import Derived.Ground.SlsfProg
import Derived.Lib.LaidIn
import Derived.Lib.LaidU8T
import Derived.Lib.RowBridge
import Derived.Lib.SliceRun
import Derived.Lib.Walk
import Derived.PinnedBridge
import Derived.ProofKit
import Derived.SevenTiedAt
import Derived.Shelf.LaysC
import Derived.Shelf.LaysM
import Derived.Shelf.RegionOpenPlain
import Derived.Shelf.SlBodiesN
import Derived.Shelf.Slices.Clone
import Derived.Shelf.Slices.CompactS
import Derived.Shelf.Slices.In.SortNone
import Derived.Shelf.SlicesE.Clone
import Derived.Shelf.SlicesE.Equal
import Derived.Shelf.SlicesE.IndexFunc
import Derived.Shelf.Small.Bits
import Derived.Shelf.Small.Strs
import Derived.Shelf.Small.Utf8
import Derived.Shelf.Sort.Plain
import Derived.Shelf.Strconv.Atoi
import Derived.Shelf.Strconv.AtoiAll
import Derived.Shelf.Strconv.AtoiErrFast
import Derived.Shelf.Strconv.AtoiFail
import Derived.Shelf.Strconv.AtoiInnerAll
import Derived.Shelf.Strconv.AtoiLong
import Derived.Shelf.Strconv.Clone
import Derived.Shelf.Strconv.Lower
import Derived.Shelf.Strconv.ParseInt10
import Derived.Shelf.Strconv.ParseIntEmpty
import Derived.Shelf.Strconv.ParseUint10
import Derived.Shelf.Strconv.ParseUint10Any
import Derived.Shelf.Strconv.ParseUint10Empty
import Derived.Shelf.Strconv.RangeError
import Derived.Shelf.Strconv.SyntaxError
import Derived.Shelf.Strconv.ToError
import Derived.Shelf.Strconv.ToErrorRange
import Derived.Shelf.Strings.AsciiSet
import Derived.Shelf.Strings.Cut
import Derived.Shelf.Strings.IndexAny
import Derived.Shelf.Strings.IndexAnyAll
import Derived.Shelf.Strings.Prefix
import Derived.Shelf.Strings.Repeat
import Derived.Shelf.Strings.Runes
import Derived.Shelf.Strings.Search1
import Derived.Shelf.Strings.Search2
import Derived.Shelf.Strings.Shaped
import Derived.Shelf.Unicode.Decode
import Derived.Shelf.Unicode.DecodeAny
import Derived.Shelf.Unicode.DecodeSlow
import Derived.Shelf.Utf8.AppendRunePlain
import Derived.SizedLaws
import Derived.Test.YtbfenpeblbonlaaGreatDoorCards
import Derived.Test.YtbfenpeblbonlaaGreatDoorProg
import Derived.Test.YtbfenpeblbonlaaGreatDoorTie
import Derived.WalkKit
import Derived.Test.YtbfenpeblbonlaaGreatDoorCb1
import Derived.Test.YtbfenpeblbonlaaGreatDoorCb2
import Derived.Test.YtbfenpeblbonlaaGreatDoorCb3
import Derived.Test.YtbfenpeblbonlaaGreatDoorCb4
set_option linter.unusedSimpArgs false
set_option linter.unusedVariables false
set_option maxRecDepth 100000
set_option maxHeartbeats 4000000
namespace Go.Ev
open Go Go.RowKit Go.Shelf Go.Lib Go.Proofs
structure DelLay (P:Program) (ρ:Ren) (nm:String) (sz bytes:Nat) (z:Value):Prop where
 mixed:P.follows .mixedOrders=true
 nmo:(nm == "runtime.NumGoroutine")=false
 f45:P.funcs[ρ.f 45]? = some { SlBodyN.n45 ρ with name:=nm }
 t0:P.underlying (ρ.t 0)=some (TypeDesc.tuple #[])
 a0:∀ w,(isAgg (ρ.t 0)).run P w = .ok false w
 z0:∀ w,(Go.sizeOf (ρ.t 0)).run P w = .ok 1 w
 v0:∀ w,(zeroValue (ρ.t 0)).run P w = .ok (Value.tuple #[]) w
 t3:P.underlying (ρ.t 3)=some (TypeDesc.int IntKind.i64)
 a3:∀ w,(isAgg (ρ.t 3)).run P w = .ok false w
 z3:∀ w,(Go.sizeOf (ρ.t 3)).run P w = .ok 1 w
 v3:∀ w,(zeroValue (ρ.t 3)).run P w = .ok (Value.int IntKind.i64 0) w
 t4:P.underlying (ρ.t 4)=some (TypeDesc.bool)
 a4:∀ w,(isAgg (ρ.t 4)).run P w = .ok false w
 z4:∀ w,(Go.sizeOf (ρ.t 4)).run P w = .ok 1 w
 v4:∀ w,(zeroValue (ρ.t 4)).run P w = .ok (Value.bool false) w
 t22:P.underlying (ρ.t 22)=some (TypeDesc.slice (ρ.t 23))
 a22:∀ w,(isAgg (ρ.t 22)).run P w = .ok false w
 z22:∀ w,(Go.sizeOf (ρ.t 22)).run P w = .ok 1 w
 v22:∀ w,(zeroValue (ρ.t 22)).run P w = .ok (Value.slice none 0 0) w
 z23:∀ w,(Go.sizeOf (ρ.t 23)).run P w = .ok sz w
 v23:∀ w,(zeroValue (ρ.t 23)).run P w = .ok z w
 i23:(P.info? (ρ.t 23)).map (fun i=>(i.zero,i.size,i.bytes))=some (some z,sz,bytes)
section
variable {P:Program} {ρ:Ren} {nm:String} {sz bytes:Nat} {z:Value}
theorem W3 (w:World) (t e ty:TypeId) (ht:P.underlying t=some (.slice e)) (hv:∀ w,(zeroValue e).run P w = .ok z w) (b o n c:Nat) (zs:List Value) (hzs:(Builtin.zeroCells z.cells n).toList=zs) (h1:∀ v∈zs,v.oneCell'=true) (hn:0<n)
  (hc:∀ j,j<zs.length->(w.cell? ⟨b,o+j,none⟩).isSome=true) (hf:∀ j,j<zs.length->w.frozen? ⟨b,o+j,none⟩=false) :
  (Builtin.clear_ #[t] ty #[.slice (some ⟨b,o,none⟩) n c]).run P w = .ok (.tuple #[]) (w.setCells b o zs):=by
 have a:=run_storeCells_cells (P:=P) b o zs 0 w (by simpa using hc) (by simpa using hf) h1
 simp only [Nat.add_zero] at a
 obtain ⟨m,rfl⟩:∃ m,n=m+1:=⟨n-1,by omega⟩
 simp [Builtin.clear_,run_underlying ht,hv,hzs,a]
set_option maxRecDepth 1000000 in
theorem ZbV (L:DelLay P ρ nm sz bytes z) (b off n c i j:Nat) (cs zs:List Value) (w:World) (hij:i<j) (hj:j<=n) (hnc:n<=c) (hc63:c<=9223372036854775807)
  (hcl:cs.length=n*sz) (hcs:∀ k v,cs[k]? = some v->w.cell? ⟨b,off+k,none⟩=some v) (hfz:∀ k,w.frozen? ⟨b,k,none⟩=false) (h1c:∀ v∈cs,v.oneCell'=true)
  (hzs:(Builtin.zeroCells z.cells (n-(i+(n-j)))).toList=zs) (hzl:zs.length=(j-i)*sz) (h1z:∀ v∈zs,v.oneCell'=true) :
  Calls P (ρ.f 45) #[.slice (some ⟨b,off,none⟩) n c,.int .i64 i,.int .i64 j] w fun e w' =>
   e = .returned (.slice (some ⟨b,off,none⟩) (i+(n-j)) c)/\w'=(w.drew.setCells b (off+i*sz) (cs.drop (j*sz))).setCells b (off+(i+(n-j))*sz) zs:=by
 have t0:=L.t0;have a0:=L.a0;have z0:=L.z0;have v0:=L.v0;have t3:=L.t3;have a3:=L.a3;have z3:=L.z3;have v3:=L.v3;have t4:=L.t4;have a4:=L.a4;have z4:=L.z4;have v4:=L.v4;have t22:=L.t22;have a22:=L.a22;have z22:=L.z22;have v22:=L.v22;have z23:=L.z23;have v23:=L.v23
 have u0:=run_underlying L.t0;have u3:=run_underlying L.t3;have u4:=run_underlying L.t4;have u22:=run_underlying L.t22
 have mixed:=L.mixed
 obtain ⟨i0,hi0,hz0,hz1,hz2⟩:=info_parts L.i23
 have e1:j*sz+(n-j)*sz=n*sz:=by rw [<-Nat.add_mul];congr 1;omega
 have e2:i*sz+(j-i)*sz=j*sz:=by rw [<-Nat.add_mul];congr 1;omega
 have e3:(i+(n-j))*sz=i*sz+(n-j)*sz:=Nat.add_mul ..
 have e4:n-(i+(n-j))=j-i:=by omega
 obtain ⟨news,hnews⟩:∃ news,news=cs.drop (j*sz):=⟨_,rfl⟩
 have hlen:news.length=(n-j)*sz:=by rw [hnews,List.length_drop,hcl];omega
 obtain ⟨A,hA,hsrc⟩:∃ A:Addr,(if c=j then some (⟨b,off,none⟩:Addr) else some ⟨b,off+j*sz,none⟩)=some A/\Hid (∀ t u,news[t]? = some u->w.drew.cell? (A.add t)=some u):=by
  by_cases h:c=j
  ·refine ⟨⟨b,off,none⟩,by simp [h],fun t u hu=>?_⟩
   have h0:news.length=0:=by rw [hlen,show n-j=0 by omega,Nat.zero_mul]
   rw [List.length_eq_zero_iff.1 h0] at hu
   simp at hu
  ·refine ⟨⟨b,off+j*sz,none⟩,by simp [h],fun t u hu=>?_⟩
   rw [hnews,List.getElem?_drop] at hu
   rw [Addr.add_lit,Nat.add_assoc]
   exact hcs _ _ hu
 have some_:∀ k,k<n*sz->(w.cell? ⟨b,off+k,none⟩).isSome=true:=fun k hk=>by
  rw [hcs k _ (List.getElem?_eq_getElem (by omega))];rfl
 have s1:Hid (news.length=(n-j)*sz):=hlen
 have s2:Hid (∀ u∈news,u.oneCell'=true):=fun u hu=>h1c u (by rw [hnews] at hu;exact List.mem_of_mem_drop hu)
 have s3:Hid (∀ t,t<news.length->(w.drew.cell? ⟨b,off+i*sz+t,none⟩).isSome=true/\w.drew.frozen? ⟨b,off+i*sz+t,none⟩=false):=by
  intro t ht
  rw [hlen] at ht
  rw [Nat.add_assoc]
  exact ⟨some_ _ (by omega),hfz _⟩
 obtain ⟨W1,hW1⟩:∃ W1,W1=w.drew.setCells b (off+i*sz) news:=⟨_,rfl⟩
 have some1:∀ k,k<n*sz->(W1.cell? ⟨b,off+k,none⟩).isSome=true:=fun k hk=>by
  rw [hW1]
  exact isSome_setCells b _ _ _ (fun t ht=>by rw [Nat.add_assoc];exact some_ _ (by omega)) _ (some_ k hk)
 have hcl:∀ ty,(Builtin.clear_ #[ρ.t 22] ty #[.slice (some ⟨b,off+(i+(n-j))*sz,none⟩) (n-(i+(n-j))) (c-(i+(n-j)))]).run P W1 = .ok (.tuple #[]) (W1.setCells b (off+(i+(n-j))*sz) zs) :=
  fun ty=>W3 W1 _ _ ty t22 v23 b _ _ _ zs hzs h1z (by omega) (fun t ht=>by rw [Nat.add_assoc];exact some1 _ (by omega)) (fun t ht=>by rw [hW1,World.frozen?_setCells];exact hfz _)
 have hW:Hid (W1=w.drew.setCells b (off+i*sz) news):=hW1
 have hN:Aside (news=cs.drop (j*sz)):=hnews
 have hic:i<=c:=by omega
 have hjc:j<=c:=by omega
 have hijn:i<=n:=by omega
 clear hW1 hcs hnews hlen some_ some1 e1 e2 e3 e4 hzs hzl h1z h1c hfz
 have FG:=L.f45
 go_enter FG,SlBodyN.n45_ntmps ρ
 go_wp2_with fail
 go_region_law_o (refine step_append_room rfl (.tmp 22) (.tmp 25) (ρ.t 22) rfl (ρ.t 23) i0 sz t22 hi0 hz1 b off i c (by simp [Act.eval,Act.put]) A (n-j) (c-j) news (by simp [Act.eval,Act.put]) s1.out hsrc.out s2.out (by omega) s3.out ?_;rw [<-hW.out])
 go_wp2
 go_ret
 refine ⟨rfl,?_⟩
 rw [hW.out,hN.out]
end
theorem Zlt {T rest:List Value} {cs:List AV} {a b N:Nat} {Rl:Value->AV->Prop} (hab:a<=b) (hbN:b<=N) (hN:N<=T.length) (hc:cs.length=N) (h:∀ (j:Nat) (v:Value) (x:AV),T[j]? = some v->cs[j]? = some x->Rl v x) (k:Nat) (v:Value) (x:AV)
  (h1:(T.take a++(T.take N).drop b++rest)[k]? = some v) (h2:(cs.take a++cs.drop b)[k]? = some x):Rl v x:=by
 have e:(T.take a).length=a:=by simp;omega
 have g:((T.take N).drop b).length=N-b:=by simp;omega
 have f:(cs.take a).length=a:=by simp;omega
 rw [List.append_assoc] at h1
 by_cases c:k<a
 ·rw [List.getElem?_append_left (by omega),List.getElem?_take,Ah c] at h1 h2
  exact h k v x h1 h2
 ·rw [List.getElem?_append_right (by omega),f,List.getElem?_drop] at h2
  have d:=(Aj.1 h2).1
  rw [List.getElem?_append_right (by omega),e,List.getElem?_append_left (by omega),List.getElem?_drop,List.getElem?_take,Ab] at h1
  exact h _ v x h1 h2
theorem Zet {z:Value} (h:∀ v∈z.cells.toList,v.oneCell'=true) (n:Nat):∀ v∈(Builtin.zeroCells z.cells n).toList,v.oneCell'=true:=by
 intro v hv
 rw [Builtin.zeroCells,Array.toList_map,List.mem_map] at hv
 obtain ⟨k,b,rfl⟩:=hv
 by_cases c:z.cells.size=0
 ·simp [c] at b
 ·have a:k % z.cells.size<z.cells.size:=Nat.mod_lt _ (by omega)
  rw [getElem!_pos z.cells _ a]
  exact h _ (by simp)
section
variable {P:Program} {w0:World} {ρ:Ren} {nm:String} {sz bytes:Nat} {z:Value} {st:St} {M:Mem} {w:World}
theorem ZK (L:DelLay P ρ nm sz bytes z) (hzc:z.cells.size=sz) (hz1:∀ v∈z.cells.toList,v.oneCell'=true) (h0:0<sz) {id ver n i j:Nat} {cs:List AV} (hrow:st.rows[id]? = some (.vec ver sz cs)) (hcs:cs.length=n*sz) (hij:i<j) (hj:j<=n)
  {v0:Value} (hst:RelSt w0 M st w) (hv0:R w0 M w v0 (.vec id ver 0 n)) :
  Calls P (ρ.f 45) #[v0,.int .i64 i,.int .i64 j] w (Comes' w0 M w fun r s=>r = .vec id (ver+1) 0 (i+(n-j))/\s={ st with rows:=st.rows.set id (.vec (ver+1) sz (cs.take (i*sz)++cs.drop (j*sz))) }):=by
 have d:id<M.NR:=by rw [hst.NR];exact (Aj.1 hrow).1
 obtain ⟨f1,f2,f3,f4,f5,f6,f7,cur,te,f8,f9,ag,F,Y⟩:=hst.row id _ hrow
 cases hv0 with
 | @vec _ _ _ _ p cap hid' hver hh =>
 obtain ⟨rfl,hcap,O⟩:=hh f1.symm
 simp only [Nat.add_zero,Nat.zero_mul] at hcap ⊢
 subst hcap
 have e1:j*sz+(n-j)*sz=n*sz:=by rw [<-Nat.add_mul];congr 1;omega
 have e2:i*sz+(j-i)*sz=j*sz:=by rw [<-Nat.add_mul];congr 1;omega
 have e3:(i+(n-j))*sz=i*sz+(n-j)*sz:=Nat.add_mul ..
 have e4:n-(i+(n-j))=j-i:=by omega
 have E:n*sz<=cur.size:=by rw [f9];exact Nat.mul_le_mul_right _ O
 have e:(cur.toList.take (n*sz)).length=n*sz:=by simp;omega
 have g:∀ v∈cur.toList.take (n*sz),v.oneCell'=true:=by
  intro v hv
  obtain ⟨k,hk,rfl⟩:=List.mem_iff_getElem.1 hv
  rw [e] at hk
  rw [List.getElem_take,Array.getElem_toList]
  exact (Y k (by omega) (by omega)).oneCell (F _ (List.getElem_mem _))
 have D:∀ k v,(cur.toList.take (n*sz))[k]? = some v->w.cell? ⟨M.blk id,0+k,none⟩=some v:=by
  intro k u hk
  rw [List.getElem?_take] at hk
  split at hk
  ·rw [Nat.zero_add,cell_of_row w _ k cur te _ f8,<-Array.getElem?_toList];exact hk
  ·cases hk
 have H:∀ x∈cs.take (i*sz)++cs.drop (j*sz),x.one=true:=by
  intro x hx
  rcases List.mem_append.1 hx with hx | hx
  ·exact F x (List.mem_of_mem_take hx)
  ·exact F x (List.mem_of_mem_drop hx)
 have aa:(cs.take (i*sz)++cs.drop (j*sz)).length=(i+(n-j))*sz:=by
  rw [List.length_append,List.length_take,List.length_drop,e3];omega
 have y:∀ (cells:Array Value) (rest:List Value),cells.toList=cur.toList.take (i*sz)++(cur.toList.take (n*sz)).drop (j*sz)++rest->∀ (k:Nat) (v:Value) (x:AV),cells[k]? = some v->(cs.take (i*sz)++cs.drop (j*sz))[k]? = some x->R w0 M w v x:=by
  intro cells rest U k v x G ab
  rw [<-Array.getElem?_toList,U] at G
  refine Zlt (T:=cur.toList) (rest:=rest) (N:=n*sz) (by omega) (by omega) (by simpa using E) hcs (fun j v x h1 h2=>?_) k v x G ab
  rw [Array.getElem?_toList] at h1
  obtain ⟨q1,rfl⟩:=Array.getElem?_eq_some_iff.1 h1
  obtain ⟨q2,rfl⟩:=Aj.1 h2
  exact Y j q1 q2
 obtain ⟨d1,d2⟩:=hst.drew
 obtain ⟨zs,hzs⟩:∃ zs,(Builtin.zeroCells z.cells (n-(i+(n-j)))).toList=zs:=⟨_,rfl⟩
 have Z:zs.length=(j-i)*sz:=by rw [<-hzs,Array.length_toList,size_zeroCells,hzc,e4]
 have V:∀ v∈zs,v.oneCell'=true:=by rw [<-hzs];exact Zet hz1 _
 refine (ZbV L (M.blk id) 0 n (M.cap id) i j (cur.toList.take (n*sz)) zs w hij hj O (by unfold maxLen at f6;omega) e D (fun k=>by simp [World.frozen?,f8]) g hzs Z V).mono ?_
 rintro en w' ⟨rfl,rfl⟩
 have h:w.drew.heap[M.blk id]? = some (.cells cur te (0,0)):=f8
 have J:((cur.toList.take (n*sz)).drop (j*sz)).length=(n-j)*sz:=by rw [List.length_drop,e];omega
 rw [HH P h _ _ (by rw [J];omega) (fun v hv=>g v (List.mem_of_mem_drop hv))]
 have ad:=setRow_heap w.drew (M.blk id) cur (cur.toList.take (0+i*sz)++(cur.toList.take (n*sz)).drop (j*sz)++cur.toList.drop (0+i*sz+((cur.toList.take (n*sz)).drop (j*sz)).length)).toArray te _ h
 rw [HH P ad _ _ (by simp only [List.size_toArray,List.length_append,List.length_take,List.length_drop,Array.length_toList];omega) V,setRow_setRow]
 simp only [Nat.zero_add]
 generalize hc':((cur.toList.take (i*sz)++(cur.toList.take (n*sz)).drop (j*sz)++cur.toList.drop (i*sz+((cur.toList.take (n*sz)).drop (j*sz)).length)).take ((i+(n-j))*sz)++zs++(cur.toList.take (i*sz)++(cur.toList.take (n*sz)).drop (j*sz)++cur.toList.drop (i*sz+((cur.toList.take (n*sz)).drop (j*sz)).length)).drop ((i+(n-j))*sz+zs.length)).toArray=cur'
 have af:(cur.toList.take (i*sz)++(cur.toList.take (n*sz)).drop (j*sz)).length=(i+(n-j))*sz:=by
  rw [List.length_append,J,List.length_take,Array.length_toList,e3];omega
 have o:cur'.toList=cur.toList.take (i*sz)++(cur.toList.take (n*sz)).drop (j*sz)++(zs++(cur.toList.take (i*sz)++(cur.toList.take (n*sz)).drop (j*sz)++cur.toList.drop (i*sz+((cur.toList.take (n*sz)).drop (j*sz)).length)).drop ((i+(n-j))*sz+zs.length)):=by
  rw [<-hc',List.take_append_of_le_length (by omega),List.take_of_length_le (by omega)]
  simp only [List.append_assoc]
 have C:cur'.size=cur.size:=by
  rw [<-Array.length_toList,o]
  simp only [List.length_append,List.length_take,List.length_drop,Array.length_toList,Z]
  omega
 have t:Ext w0 M w.drew (M.growRow id (M.blk id) (M.cap id) (ver+1) 0) (w.drew.setRow (M.blk id) cur'):=by
  refine Ih (M:=M) (M.growRow id (M.blk id) (M.cap id) (ver+1) 0) rfl (fun _ _=>rfl) rfl (fun i hi=>?_) (fun b=>?_) h f3 (fun j hj=>by rw [f4] at hj;omega) (Mem.own_row d) (fun b=>Kt d)
  ·by_cases c:i=id
   ·subst c
    simp only [Mem.growRow,if_true,f1]
    exact ⟨by omega,fun q=>absurd q (by omega)⟩
   ·simp only [Mem.growRow,Ai c]
    exact ⟨Nat.le_refl _,fun _=>⟨trivial,trivial,trivial⟩⟩
  ·simp only [Mem.growRow]
   split
   ·rename_i c
    rw [c,f4]
    exact Nat.le_refl _
   ·exact Nat.le_refl _
 have K:=hst.row_lt d
 have q:(M.growRow id (M.blk id) (M.cap id) (ver+1) 0).fr id=ver+1/\(M.growRow id (M.blk id) (M.cap id) (ver+1) 0).blk id=M.blk id/\(M.growRow id (M.blk id) (M.cap id) (ver+1) 0).cap id=M.cap id/\(M.growRow id (M.blk id) (M.cap id) (ver+1) 0).rsz id=M.rsz id/\(M.growRow id (M.blk id) (M.cap id) (ver+1) 0).top (M.blk id)=0:=by simp [Mem.growRow]
 obtain ⟨q1,q2,q3,q4,q5⟩:=q
 have m:i+(n-j)<=M.cap id:=by omega
 have Q:=d1.growRow' hrow (x := .vec (ver+1) sz (cs.take (i*sz)++cs.drop (j*sz))) (w':=w.drew.setRow (M.blk id) cur') (b:=M.blk id) (cap:=M.cap id) (k:=ver+1) (tp:=0) (Below.setRow (Below.refl _ _) f3 _) (by simp) (by simpa using K)
  (fun l hl=>⟨f5 l hl,setRow_other w.drew _ _ _ (f5 l hl)⟩) (fun i hi ae=>by
   have:M.blk i≠M.blk id:=fun q=>ae (hst.rowinj i id hi d q)
   exact ⟨this,setRow_other w.drew _ _ _ this⟩) (by
   simp only [RowOk,q1,q2,q3,q4,q5]
   exact ⟨trivial,f2,f3,trivial,f5,f6,h0,cur',te,setRow_heap w.drew _ cur cur' te _ h,C.trans f9,by rw [aa,C,f9];exact Nat.mul_le_mul_right _ m,H,
    fun i a b=>((y cur' _ o i _ _ (Array.getElem?_eq_getElem a) (List.getElem?_eq_getElem b)).mono d2).mono t⟩) t (KeepsObj.setRow h _)
 exact ⟨_,_,_,_,rfl,⟨rfl,rfl⟩,d2.trans t,Q,.vec d (by rw [q1];exact Nat.le_refl _) fun _=>⟨by rw [q2];simp,by rw [q3];rfl,m⟩⟩
theorem YV (L:DelLay P ρ nm sz bytes z) (hen:Jh P (ρ.f 45)) (hzc:z.cells.size=sz) (hz1:∀ v∈z.cells.toList,v.oneCell'=true) (h0:0<sz) {id ver n i j:Nat} {cs:List AV} (hrow:st.rows[id]? = some (.vec ver sz cs)) (hcs:cs.length=n*sz) (hij:i<j) (hj:j<=n) :
  ACalls P w0 (ρ.f 45) [.vec id ver 0 n,Ak i,Ak j] st fun r s=>r = .vec id (ver+1) 0 (i+(n-j))/\s={ st with rows:=st.rows.set id (.vec (ver+1) sz (cs.take (i*sz)++cs.drop (j*sz))) }:=by
 refine ⟨hen,fun M w e m d=>?_⟩
 obtain ⟨v0,v1,v2,rfl⟩:∃ v0 v1 v2,e = #[v0,v1,v2]:=by
  have:=d.1
  simp only [List.length_cons,List.length_nil] at this
  obtain ⟨l⟩:=e
  match l,this with
  | [a,b,c],_=>exact ⟨a,b,c,rfl⟩
 have k:R w0 M w v0 (.vec id ver 0 n):=d.2 0 (by simp) (by simp)
 have h:R w0 M w v1 (Ak i):=d.2 1 (by simp) (by simp)
 have g:R w0 M w v2 (Ak j):=d.2 2 (by simp) (by simp)
 obtain ⟨rfl,_⟩:=h.val_inv
 obtain ⟨rfl,_⟩:=g.val_inv
 exact ZK L hzc hz1 h0 hrow hcs hij hj m k
end
end Go.Ev
namespace Go.Proofs.YtbfenpeblbonlaaGreatDoor
open Go Go.RowKit Go.Ev
@[go_sem] theorem ZmQ (n:Nat):G7 .nil n = .list [] .seed:=rfl
def IY {α:Type} (l:List α) (i:Int) (y:α):List α:=l.take i.toNat++y::l.drop i.toNat
theorem Pg {α:Type} {g:α->List AV} {sz:Nat} (hg:∀ x,(g x).length=sz):∀ (xs:List α) (k:Nat),(xs.flatMap g).take (k*sz)=(xs.take k).flatMap g
 | [],k=>by simp
 | x::xs,0=>by simp
 | x::xs,k+1=>by
  have a:=hg x
  rw [List.flatMap_cons,List.take_succ_cons,List.flatMap_cons,<-Pg hg xs k,Nat.succ_mul,Nat.add_comm,List.take_append,List.take_of_length_le (by omega)]
  congr 2
  omega
theorem Po {α:Type} {g:α->List AV} {sz:Nat} (hg:∀ x,(g x).length=sz):∀ (xs:List α) (k:Nat),(xs.flatMap g).drop (k*sz)=(xs.drop k).flatMap g
 | [],k=>by simp
 | x::xs,0=>by simp
 | x::xs,k+1=>by
  have a:=hg x
  rw [List.flatMap_cons,List.drop_succ_cons,<-Po hg xs k,Nat.succ_mul,Nat.add_comm,List.drop_append,List.drop_of_length_le (by omega),List.nil_append]
  congr 1
  omega
def insR:Go.Shelf.Ren:=⟨fun x=>if x=22 then 182 else if x=29 then 235 else if x=30 then 236 else x,
 fun x=>if x=9 then 68 else if x=24 then 47 else if x=3 then 3 else if x=4 then 4 else if x=0 then 0 else x,fun x=>x⟩
theorem ZnH:∃ z,InsLay Tryz.prog insR Tryz.f182.name 7 104 z/\z.cells.size=7:=by
 obtain ⟨j,z,g,d,a,c,b⟩:=Nz (by kernel_rfl:V1 Tryz.prog 68 7 104=true)
 exact ⟨z,{
  mixed:=by kernel_rfl
  nmo:=by decide
  f22:=Tryz.func182.trans (congrArg some (by kernel_rfl))
  ov:=fun w x y h=>by
   show (callFunc 235 #[x,y]).run Tryz.prog w=_
   rw [run_callFunc_extern Tryz.func235 (by kernel_rfl) (by kernel_rfl) (by kernel_rfl) (e:=Extern.SlicesOverlaps.overlaps #[47,47] #[4]) (by kernel_rfl)]
   have f:(Extern.SlicesOverlaps.overlaps #[47,47] #[4] #[x,y]).run Tryz.prog w = .ok (.bool false) w:=h
   first | (rw [f];rfl) | simp [f]
  t0:=Tryz.underlying0
  a0:=Tryz.isAgg0
  z0:=Tryz.sizeOf0
  v0:=Tryz.zeroValue0
  t3:=Tryz.underlying3
  a3:=Tryz.isAgg3
  z3:=Tryz.sizeOf3
  v3:=Tryz.zeroValue3
  t4:=Tryz.underlying4
  a4:=Tryz.isAgg4
  z4:=Tryz.sizeOf4
  v4:=Tryz.zeroValue4
  z9:=Tryz.sizeOf68
  t24:=Tryz.underlying47
  a24:=Tryz.isAgg47
  z24:=Tryz.sizeOf47
  v24:=Tryz.zeroValue47
  i9:=by
   show (Tryz.prog.info? 68).map (fun i=>(i.zero,i.size,i.bytes))=_
   rw [g];simp [d,a,c] },b⟩
theorem YU (w0:World) {Rw rows:List RowA} {l:List (Nat × Nat × Ev.Own)} {ho:Ev.Own} {o:VO} {v:List VE} {xs:List (ByteArray × Vl)} (hO:Owns Rw rows l ho ((o,7,xs.flatMap fun x=>(Di x).cells)::v)) (i:Int)
  (hg:(0<=i/\i<=(xs.length:Int))/\(xs.length+1)*104<=140737488355328/\xs.length+1<=4611686018427387904) (y:ByteArray × Vl) :
  ∃ id' ver' rows',Owns Rw rows' l ho ((.row id' ver',7,(IY xs i y).flatMap fun x=>(Di x).cells)::v)/\∀ (B:Ao) (L:Aq) (ow:Ev.Own),ACalls Tryz.prog w0 182 [G7 o xs.length,Ak i,.list [Di y] ow] ⟨B,rows,L⟩ fun r s=>r = .vec id' ver' 0 (IY xs i y).length/\s=⟨B,rows',L⟩:=by
 obtain ⟨⟨n,p⟩,g,e⟩:=hg
 obtain ⟨k,rfl⟩:∃ k:Nat,i=(k:Int):=⟨i.toNat,by omega⟩
 obtain ⟨z,d,j⟩:=ZnH
 have a:∀ x:ByteArray × Vl,((fun x=>(Di x).cells) x).length=7:=fun x=>by simp +decide only [go_sem]
 have m:(xs.flatMap fun x=>(Di x).cells).length=xs.length*7:=CH (f:=Di) (fun _=>by simp +decide only [go_sem]) xs
 have c:(IY xs (k:Int) y).length=xs.length+1:=by
  unfold IY
  rw [List.length_append,List.length_cons,List.length_take,List.length_drop]
  simp only [Int.toNat_natCast]
  omega
 have b:(xs.flatMap fun x=>(Di x).cells).take (k*7)++[Di y].flatMap (fun y=>y.pub.cells)++(xs.flatMap fun x=>(Di x).cells).drop (k*7)=(IY xs (k:Int) y).flatMap fun x=>(Di x).cells:=by
  unfold IY
  rw [Pg a,Po a,List.flatMap_append,List.flatMap_cons,List.flatMap_cons,List.flatMap_nil,List.append_nil,Vp,Int.toNat_natCast,List.append_assoc]
 obtain ⟨id',ver',hrow⟩:∃ id' ver',Oj o rows = .row id' ver':=by
  cases o with
  | nil=>exact ⟨_,_,rfl⟩
  | row id ver=>exact ⟨_,_,rfl⟩
 refine ⟨id',ver',_,hrow▸hO.bump ((IY xs (k:Int) y).flatMap fun x=>(Di x).cells),fun B L ow=>?_⟩
 have:=UZ (P:=Tryz.prog) (w0:=w0) (st:=⟨B,rows,L⟩) (ow:=ow) (ys:=[Di y]) (ag:=true) (i:=k) d (AL Tryz.func182 rfl (by decide)) SG (by rw [show insR.t 9=68 from rfl,MC];rfl) j (by decide) hO.vp m (by omega) (by simp)
  (fun q h=>by rw [List.mem_singleton.1 h];exact ⟨by simp +decide only [go_sem],by simp +decide only [go_sem]⟩) g e
 rw [b] at this
 exact this.mono fun r s ⟨q1,q2⟩=>⟨by rw [q1,c,hrow];rfl,q2⟩
def Q5 {α:Type} (l:List α) (i:Int):List α:=l.take i.toNat++l.drop (i.toNat+1)
theorem Zi {B B':List (List AV)} {R0 rows:List RowA} {L:List LoopA} {Post:AV->St->Prop} {v:AV} {ow:List (Nat × Nat × Ev.Own)} {oh:Ev.Own} {ve:List VE} (ho:Owns R0 rows ow oh ve) (hc:Go.Ev.Calm B.length rows.length L.length ⟨B',R0,L⟩) (hB:B'.length=B.length) (hu:Go.Ev.Under B.length rows.length L.length v.pubA) (hp:Post v.pubA ⟨B',rows,L⟩) (hv:∀ x∈ve,∀ y∈x.2.2,Go.Ev.Under B.length rows.length L.length y:=by intro x hx;cases hx) :
  Go.Ev.finG ⟨B,R0,L⟩ Post v ⟨B',rows,L⟩:=by
 have:=ZjM (X:=[]) ho hc hB hu hp hv
 rwa [List.append_nil] at this
theorem Lu {B:List (List AV)} {l:Nat} {cs:List AV} (h:B[l]? = some cs) (i:Nat):∀ (X:Ao) (c c':List AV),(B.set i c++X).set l c'=(B.set i c).set l c'++X:=fun X c c'=>List.set_append_left _ _ (by rw [List.length_set];exact (Aj.1 h).1)
theorem Bd {B:List (List AV)} {l:Nat} {c:List AV} (h:B[l]? = some c):B.set l c=B:=by
 apply List.ext_getElem?
 intro i
 by_cases q:l=i
 ·subst q
  rw [List.getElem?_set_self (Aj.1 h).1,h]
 ·rw [List.getElem?_set_ne q]
@[go_sem] theorem Zmc:Dk Tryz.prog 144=none/\Dk Tryz.prog 179=none/\I9 Tryz.prog 314=false/\Ba Tryz.prog 111 0=some (0,20,true)/\Ba Tryz.prog 111 1=some (20,23,true)/\Ba Tryz.prog 144 0=some (0,1,false)/\Ba Tryz.prog 144 1=some (1,1,false)/\Ba Tryz.prog 144 2=some (2,1,false)/\Ba Tryz.prog 160 0=some (0,1,false)/\Ba Tryz.prog 160 1=some (1,1,false)/\Ba Tryz.prog 182 0=some (0,1,false)/\Ba Tryz.prog 182 1=some (1,1,false):=by (repeat' apply Ad)<;>kernel_rfl
@[go_sem] theorem Zj0:Ba Tryz.prog 252 0=some (0,6,true)/\Ba Tryz.prog 34 1=some (1,1,false)/\Ba Tryz.prog 34 2=some (2,1,false)/\Ba Tryz.prog 34 3=some (3,1,false)/\Nj Tryz.prog 314=some .u64/\BD Tryz.prog 144=some [(0,1),(1,1),(2,1)]/\BD Tryz.prog 179=some [(0,1),(1,1)]/\DU Tryz.prog 314=false/\GT Tryz.prog 108=some (1,false)/\GT Tryz.prog 142=some (1,false)/\GT Tryz.prog 144=some (3,true)/\GT Tryz.prog 180=some (1,false):=by (repeat' apply Ad)<;>kernel_rfl
@[go_sem] theorem ZmN:GT Tryz.prog 314=some (1,false)/\Bn Tryz.prog 144=some [.val .nilFunc,.val .nilFunc,.val .nilFunc]/\Bn Tryz.prog 179=some [.val (.string ⟨#[]⟩),Ak 0]/\Bn Tryz.prog 314=some [.val (.int .u64 0)]:=by (repeat' apply Ad)<;>kernel_rfl
set_option maxRecDepth 100000
section
variable {Rw rows R1 R2:List RowA} {l:List (Nat × Nat × Ev.Own)} {ho o1 o2 p1 p2:Ev.Own} {v:List VE} {s1 s2 n1 n2 m1 m2:Nat}
theorem _root_.Go.Ev.Owns.enter2a (h:Owns Rw rows ((s1,n1,o1)::(s2,n2,o2)::l) ho v):Owns rows rows [(s1,n1,o1)] o1:=h.enter
theorem _root_.Go.Ev.Owns.enter2b (h:Owns Rw rows ((s1,n1,o1)::(s2,n2,o2)::l) ho v):Owns rows rows [(s2,n2,o2)] o2:=(h.swap (List.Perm.swap _ _ _)).enter
theorem _root_.Go.Ev.Owns.apart2 (h:Owns Rw rows ((s1,n1,o1)::(s2,n2,o2)::l) ho v):∀ id,o1 = .row id->o2 ≠ .row id:=(List.pairwise_cons.1 h.apart).1 _ (List.mem_cons_self ..)
theorem _root_.Go.Ev.Owns.call2 (h:Owns Rw rows ((s1,n1,o1)::(s2,n2,o2)::l) ho v) (ha:Owns rows R1 [(s1,m1,p1)] o1) (hb:Owns R1 R2 [(s2,m2,p2)] o2):Owns Rw R2 ((s1,m1,p1)::(s2,m2,p2)::l) ho v :=
 (((h.call ha).swap (List.Perm.swap _ _ _)).call hb).swap (List.Perm.swap _ _ _)
end
section
variable {P:Program} {w0:World} {n:Nat} {M0:Mem} {W0:World} {ro:Option Nat} {Q:AQ} {e:Env} {st:St}
theorem AC {B:List (List AV)} {l:Nat} {cs:List AV} (h:B[l]? = some cs) :
  (∀ X R L o c,Dv ⟨B.set l c++X,R,L⟩ (.box l o)=true)/\(∀ R L o c,Dv ⟨B.set l c,R,L⟩ (.box l o)=true)/\(∀ X R L o c,Bi ⟨B.set l c++X,R,L⟩ (.box l o)=c)/\(∀ R L o c,Bi ⟨B.set l c,R,L⟩ (.box l o)=c) /\
  (∀ X c,(B.set l c++X)[l]? = some c)/\(∀ c,(B.set l c)[l]? = some c)/\(∀ X c,(B.set l c++X).getD l []=c)/\(∀ c,(B.set l c).getD l []=c)/\(∀ X c d,(B.set l c++X).set l d=B.set l d++X)/\∀ c d,(B.set l c).set l d=B.set l d:=by
 obtain ⟨_,_,_,_,_,_,_,_,_,i,k,g,f,m,j,e,b,n,a,_⟩:=AH h
 exact ⟨i,k,g,f,m,j,e,b,n,a⟩
theorem MI {B B':List (List AV)} {R:List RowA} {L:List LoopA} {c:Code} (h:B'=B) (k:D8 P w0 n M0 W0 ro c Q e ⟨B',R,L⟩):D8 P w0 n M0 W0 ro c Q e ⟨B,R,L⟩:=h▸k
theorem YY {n:Nat} {e e':Env} {B B0 own:List (List AV)} {x y:List AV} {rows:List RowA} {L:List LoopA} {N:Nat} (hB:B.length=B0.length) (hN:B0.length+own.length=N) (hc:Ev.Calm (B0.length+own.length) rows.length L.length ⟨B++own,rows,L⟩)
  (hx:∀ z∈x,Under N rows.length L.length z) (hy:∀ z∈y,Under N rows.length L.length z) (he:RG e N rows.length L.length e'):Conv w0 n N e ⟨B++(own++[x,y]),rows,L⟩ e' ⟨B++(own++[y,x]),rows,L⟩ :=
 UN (by rw [hB];exact hN) (by rw [hB];exact hc) hx hy he
theorem alp:ALp:=⟨fun _ _ _=>rfl,fun _ _ _ _=>rfl,fun _ _=>rfl⟩
theorem mpn:∀ (α β:Type) (f:α->β),List.map f []=[]:=fun _ _ _=>rfl
theorem mpc:(∀ (α β:Type) (f:α->β) (a:α) (l:List α),List.map f (a::l)=f a::List.map f l)/\∀ (α β:Type) (f:α->β) (l m:List α),List.map f (l++m)=List.map f l++List.map f m:=⟨fun _ _ _ _ _=>rfl,fun _ _ _ _ _=>List.map_append⟩
def Cv (w0:World) (n:Nat) (M0:Mem) (W0:World) (e:Env) (s s':St):Prop:=∀ M a w,At w0 n M0 W0 e s a w M->At w0 n M0 W0 e s' a w M
theorem W2 (l:Nat) {cs cs':List AV} (hl:st.boxes[l]? = some cs) (he:cs.map AV.pubCell=cs'):Cv w0 n M0 W0 e st { st with boxes:=st.boxes.set l cs' }:=by
 subst he
 exact fun M a w h=>⟨⟨h.rel.st.pubBox hl,h.rel.size,h.rel.env⟩,h.ext,h.marks⟩
theorem Zd3 {c:Code} {s':St} (hc:Cv w0 n M0 W0 e st s') (h:D8 P w0 n M0 W0 ro c Q e s'):D8 P w0 n M0 W0 ro c Q e st:=fun m M a w b=>h m M a w (hc M a w b)
theorem MW {x:Code} (h:∀ K:Env->St->Prop,(∀ e s s',Cv w0 n M0 W0 e s s'->Q .normal e s'->K e s)->D8 P w0 n M0 W0 ro x (UX K Q) e st):D8 P w0 n M0 W0 ro x Q e st:=by
 intro m M a w g
 refine wpIn_mono (h (fun e s=>∃ s',Cv w0 n M0 W0 e s s'/\Q .normal e s') (fun _ _ _ q h=>⟨_,q,h⟩) m M a w g) ?_
 rintro ex j i ⟨M',d,s',c,b⟩
 cases ex with
 | normal=>obtain ⟨s2,q,f⟩:=b;exact ⟨M',d,s2,q _ _ _ c,f⟩
 | _=>exact ⟨M',d,s',c,b⟩
end
def AY (n:Nod) (i:Inp) (s:Stt) (a b c d:AV):List AV:=(.val (.string n.name)::(Ak n.kind::(Ak n.schema::(Ak n.result::(Ak n.number::(Ak n.time::(Ak n.limit::(.val (.string n.text)::((n.type.cs)++(.list (n.types.map Rm) .none::(.list (n.exprs.map Vv) .none::(.list (n.mapping.map FT) .none::(.list (n.calls.map Ob) .none::([.list (n.next.map Ci) .none]))))))))))))))++((Ak i.kind::(Ak i.time::((Ak i.stamp.1::([.list (i.stamp.2.map Ci) .none]))++(((Ak i.message.stamp.1::([.list (i.message.stamp.2.map Ci) .none]))++(Ak i.message.mass::(.list (i.message.origins.map Ci) .none::(i.message.body.cs))))++(Ak i.call::(.val (.bool i.undo)::(.val (.bool i.done)::(i.body.cs))))))))++((Ak s.number::(Ak s.time::([.list (s.slots.map AZ) .none])))++[a,b,c,d]))
theorem Zc3 (n:Nod) (i:Inp) (s:Stt) (a b c d:AV):(AY n i s a b c d).length=50:=by
 obtain ⟨_,_,_,_,_,_,_,_,nt,_,_,_,_,_⟩:=n;obtain ⟨_,_,_,⟨_,_,_,ib⟩,_,_,_,ic⟩:=i;cases nt;cases ib;cases ic
 rfl
theorem Zck (n:Nod) (i:Inp) (s:Stt) (a b c d:AV) (q:AV):(AY n i s a b c d).getD 0 q = .val (.string n.name)/\(AY n i s a b c d).getD 1 q=Ak n.kind/\(AY n i s a b c d).getD 2 q=Ak n.schema/\(AY n i s a b c d).getD 3 q=Ak n.result/\(AY n i s a b c d).getD 4 q=Ak n.number/\(AY n i s a b c d).getD 5 q=Ak n.time/\(AY n i s a b c d).getD 6 q=Ak n.limit/\(AY n i s a b c d).getD 7 q = .val (.string n.text)/\(AY n i s a b c d).getD 8 q=Ak n.type.kind/\(AY n i s a b c d).getD 9 q=Ak n.type.min/\(AY n i s a b c d).getD 10 q=Ak n.type.max/\(AY n i s a b c d).getD 11 q=Ak n.type.scale/\(AY n i s a b c d).getD 15 q = .list (n.types.map Rm) .none/\(AY n i s a b c d).getD 16 q = .list (n.exprs.map Vv) .none/\(AY n i s a b c d).getD 17 q = .list (n.mapping.map FT) .none/\(AY n i s a b c d).getD 18 q = .list (n.calls.map Ob) .none/\(AY n i s a b c d).getD 19 q = .list (n.next.map Ci) .none/\(AY n i s a b c d).getD 20 q=Ak i.kind/\(AY n i s a b c d).getD 21 q=Ak i.time/\(AY n i s a b c d).getD 22 q=Ak i.stamp.1/\(AY n i s a b c d).getD 23 q = .list (i.stamp.2.map Ci) .none/\(AY n i s a b c d).getD 24 q=Ak i.message.stamp.1/\(AY n i s a b c d).getD 25 q = .list (i.message.stamp.2.map Ci) .none/\(AY n i s a b c d).getD 26 q=Ak i.message.mass/\(AY n i s a b c d).getD 27 q = .list (i.message.origins.map Ci) .none/\(AY n i s a b c d).getD 28 q=Ak i.message.body.kind/\(AY n i s a b c d).getD 29 q=Ak i.message.body.int/\(AY n i s a b c d).getD 30 q=Ak i.message.body.scale/\(AY n i s a b c d).getD 31 q = .val (.string i.message.body.text)/\(AY n i s a b c d).getD 34 q=Ak i.call/\(AY n i s a b c d).getD 35 q = .val (.bool i.undo)/\(AY n i s a b c d).getD 36 q = .val (.bool i.done)/\(AY n i s a b c d).getD 37 q=Ak i.body.kind/\(AY n i s a b c d).getD 38 q=Ak i.body.int/\(AY n i s a b c d).getD 39 q=Ak i.body.scale/\(AY n i s a b c d).getD 40 q = .val (.string i.body.text)/\(AY n i s a b c d).getD 43 q=Ak s.number/\(AY n i s a b c d).getD 44 q=Ak s.time/\(AY n i s a b c d).getD 45 q = .list (s.slots.map AZ) .none/\(AY n i s a b c d).getD 46 q=a/\(AY n i s a b c d).getD 47 q=b/\(AY n i s a b c d).getD 48 q=c/\(AY n i s a b c d).getD 49 q=d:=by
 obtain ⟨_,_,_,_,_,_,_,_,nt,_,_,_,_,_⟩:=n;obtain ⟨_,_,_,⟨_,_,_,ib⟩,_,_,_,ic⟩:=i;cases nt;cases ib;cases ic
 (repeat' apply Ad)<;>rfl
theorem ZbY (n:Nod) (i:Inp) (s:Stt) (a b c d:AV):((AY n i s a b c d).drop 0).take 20 = .val (.string n.name)::(Ak n.kind::(Ak n.schema::(Ak n.result::(Ak n.number::(Ak n.time::(Ak n.limit::(.val (.string n.text)::((n.type.cs)++(.list (n.types.map Rm) .none::(.list (n.exprs.map Vv) .none::(.list (n.mapping.map FT) .none::(.list (n.calls.map Ob) .none::([.list (n.next.map Ci) .none])))))))))))))/\((AY n i s a b c d).drop 8).take 7=n.type.cs/\((AY n i s a b c d).drop 17).take 1=[.list (n.mapping.map FT) .none]/\((AY n i s a b c d).drop 20).take 23=Ak i.kind::(Ak i.time::((Ak i.stamp.1::([.list (i.stamp.2.map Ci) .none]))++(((Ak i.message.stamp.1::([.list (i.message.stamp.2.map Ci) .none]))++(Ak i.message.mass::(.list (i.message.origins.map Ci) .none::(i.message.body.cs))))++(Ak i.call::(.val (.bool i.undo)::(.val (.bool i.done)::(i.body.cs)))))))/\((AY n i s a b c d).drop 22).take 2=Ak i.stamp.1::([.list (i.stamp.2.map Ci) .none])/\((AY n i s a b c d).drop 24).take 10=(Ak i.message.stamp.1::([.list (i.message.stamp.2.map Ci) .none]))++(Ak i.message.mass::(.list (i.message.origins.map Ci) .none::(i.message.body.cs)))/\((AY n i s a b c d).drop 24).take 2=Ak i.message.stamp.1::([.list (i.message.stamp.2.map Ci) .none])/\((AY n i s a b c d).drop 28).take 6=i.message.body.cs/\((AY n i s a b c d).drop 37).take 6=i.body.cs/\((AY n i s a b c d).drop 43).take 3=Ak s.number::(Ak s.time::([.list (s.slots.map AZ) .none]))/\((AY n i s a b c d).drop 43).take 7=(Ak s.number::(Ak s.time::([.list (s.slots.map AZ) .none])))++[a,b,c,d]/\(AY n i s a b c d).take 20 = .val (.string n.name)::(Ak n.kind::(Ak n.schema::(Ak n.result::(Ak n.number::(Ak n.time::(Ak n.limit::(.val (.string n.text)::((n.type.cs)++(.list (n.types.map Rm) .none::(.list (n.exprs.map Vv) .none::(.list (n.mapping.map FT) .none::(.list (n.calls.map Ob) .none::([.list (n.next.map Ci) .none]))))))))))))):=by
 obtain ⟨_,_,_,_,_,_,_,_,nt,_,_,_,_,_⟩:=n;obtain ⟨_,_,_,⟨_,_,_,ib⟩,_,_,_,ic⟩:=i;cases nt;cases ib;cases ic
 (repeat' apply Ad)<;>rfl
theorem Zd5 (n:Nod) (i:Inp) (s:Stt) (a b c d:AV) (x:AV):Bt (AY n i s a b c d) 46 [x]=AY n i s x b c d/\Bt (AY n i s a b c d) 47 [x]=AY n i s a x c d/\Bt (AY n i s a b c d) 48 [x]=AY n i s a b x d/\Bt (AY n i s a b c d) 49 [x]=AY n i s a b c x:=by
 obtain ⟨_,_,_,_,_,_,_,_,nt,_,_,_,_,_⟩:=n;obtain ⟨_,_,_,⟨_,_,_,ib⟩,_,_,_,ic⟩:=i;cases nt;cases ib;cases ic
 (repeat' apply Ad)<;>rfl
theorem ZaX (n:Nod) (i:Inp) (s:Stt) (a b c d:AV) (u v:Int) (w:List Slt):Bt (AY n i s a b c d) 43 [Ak u,Ak v,.list (w.map AZ) .none]=AY n i (Stt.mk u v w) a b c d:=by
 obtain ⟨_,_,_,_,_,_,_,_,nt,_,_,_,_,_⟩:=n;obtain ⟨_,_,_,⟨_,_,_,ib⟩,_,_,_,ic⟩:=i;cases nt;cases ib;cases ic
 rfl
theorem UH (n:Nod) (i:Inp) (s:Stt) (a b c d:AV) (nb nr nl:Nat):(∀ x∈AY n i s a b c d,Under nb nr nl x)<->Under nb nr nl a/\Under nb nr nl b/\Under nb nr nl c/\Under nb nr nl d:=by
 have h1:=(YQ nb nr nl [n]).2 trivial _ (List.mem_singleton.2 rfl)
 have h2:=(Za nb nr nl [i]).2 trivial _ (List.mem_singleton.2 rfl)
 have h3:=(YP nb nr nl [s]).2 trivial _ (List.mem_singleton.2 rfl)
 cases h1 with
 | agg h1 =>
 cases h2 with
 | agg h2 =>
 cases h3 with
 | agg h3 =>
 unfold AY
 simp only [List.forall_mem_append]
 refine ⟨fun h=>?_,fun h=>⟨fun x e=>h1 x e,fun x e=>h2 x e,fun x e=>h3 x e,?_⟩⟩
 ·obtain ⟨_,_,_,h⟩:=h
  exact ⟨h a (by simp),h b (by simp),h c (by simp),h d (by simp)⟩
 ·obtain ⟨q1,q2,q3,f⟩:=h
  intro x e
  simp only [List.mem_cons,List.not_mem_nil,or_false] at e
  rcases e with rfl | rfl | rfl | rfl<;>assumption
theorem Zgd (n:Nod) (i:Inp) (s:Stt):(.val (.string n.name)::Ak n.kind::Ak n.schema::Ak n.result::Ak n.number::Ak n.time::Ak n.limit :: .val (.string n.text)::Bt (Bt (Bt [Ak 0,Ak 0,Ak 0,Ak 0,.list [] .full,.list [] .full,.list [] .full,.list [] .full,.list [] .full,.list [] .full,.list [] .full,.list [] .full,Ak 0,Ak 0,Ak 0,.list [] .full,Ak 0,.list [] .full,Ak 0,.list [] .full,Ak 0,Ak 0,Ak 0,.val (.string ⟨#[]⟩),.list [] .full,.list [] .full,Ak 0,.val (.bool false),.val (.bool false),Ak 0,Ak 0,Ak 0,.val (.string ⟨#[]⟩),.list [] .full,.list [] .full,Ak 0,Ak 0,.list [] .full,.list [] .full,.list [] .full,.list [] .full,.list [] .full] 0 (n.type.cs++[.list (n.types.map Rm) .none,.list (n.exprs.map Vv) .none,.list (n.mapping.map FT) .none,.list (n.calls.map Ob) .none,.list (n.next.map Ci) .none])) 12 (Ak i.kind::Ak i.time::Ak i.stamp.1 :: .list (i.stamp.2.map Ci) .none::Ak i.message.stamp.1 :: .list (i.message.stamp.2.map Ci) .none::Ak i.message.mass :: .list (i.message.origins.map Ci) .none::(i.message.body.cs++Ak i.call :: .val (.bool i.undo) :: .val (.bool i.done)::i.body.cs))) 35 [Ak s.number,Ak s.time,.list (s.slots.map AZ) .none,.list [] .full,.list [] .full,.list [] .full,.list [] .full])=AY n i s (.list [] .full) (.list [] .full) (.list [] .full) (.list [] .full):=by
 obtain ⟨_,_,_,_,_,_,_,_,nt,_,_,_,_,_⟩:=n;obtain ⟨_,_,_,⟨_,_,_,ib⟩,_,_,_,ic⟩:=i;cases nt;cases ib;cases ic
 rfl
theorem Zdf {n:Nod} {i:Inp} {s:Stt} {a b c d:AV}:(AY n i s a b c d)[46]? = some a:=by
 obtain ⟨_,_,_,_,_,_,_,_,nt,_,_,_,_,_⟩:=n;obtain ⟨_,_,_,⟨_,_,_,ib⟩,_,_,_,ic⟩:=i;cases nt;cases ib;cases ic
 rfl
theorem Zdo (n:Nod) (i:Inp) (s:Stt) (a b c d x:AV):(AY n i s a b c d).set 46 x=AY n i s x b c d:=by
 obtain ⟨_,_,_,_,_,_,_,_,nt,_,_,_,_,_⟩:=n;obtain ⟨_,_,_,⟨_,_,_,ib⟩,_,_,_,ic⟩:=i;cases nt;cases ib;cases ic
 rfl
theorem ZcJ {n:Nod} {i:Inp} {s:Stt} {a b c d:AV}:(AY n i s a b c d)[47]? = some b:=by
 obtain ⟨_,_,_,_,_,_,_,_,nt,_,_,_,_,_⟩:=n;obtain ⟨_,_,_,⟨_,_,_,ib⟩,_,_,_,ic⟩:=i;cases nt;cases ib;cases ic
 rfl
theorem ZdX (n:Nod) (i:Inp) (s:Stt) (a b c d x:AV):(AY n i s a b c d).set 47 x=AY n i s a x c d:=by
 obtain ⟨_,_,_,_,_,_,_,_,nt,_,_,_,_,_⟩:=n;obtain ⟨_,_,_,⟨_,_,_,ib⟩,_,_,_,ic⟩:=i;cases nt;cases ib;cases ic
 rfl
theorem ZcE {n:Nod} {i:Inp} {s:Stt} {a b c d:AV}:(AY n i s a b c d)[48]? = some c:=by
 obtain ⟨_,_,_,_,_,_,_,_,nt,_,_,_,_,_⟩:=n;obtain ⟨_,_,_,⟨_,_,_,ib⟩,_,_,_,ic⟩:=i;cases nt;cases ib;cases ic
 rfl
theorem Zc7 (n:Nod) (i:Inp) (s:Stt) (a b c d x:AV):(AY n i s a b c d).set 48 x=AY n i s a b x d:=by
 obtain ⟨_,_,_,_,_,_,_,_,nt,_,_,_,_,_⟩:=n;obtain ⟨_,_,_,⟨_,_,_,ib⟩,_,_,_,ic⟩:=i;cases nt;cases ib;cases ic
 rfl
theorem Zdm {n:Nod} {i:Inp} {s:Stt} {a b c d:AV}:(AY n i s a b c d)[49]? = some d:=by
 obtain ⟨_,_,_,_,_,_,_,_,nt,_,_,_,_,_⟩:=n;obtain ⟨_,_,_,⟨_,_,_,ib⟩,_,_,_,ic⟩:=i;cases nt;cases ib;cases ic
 rfl
theorem ZdC (n:Nod) (i:Inp) (s:Stt) (a b c d x:AV):(AY n i s a b c d).set 49 x=AY n i s a b c x:=by
 obtain ⟨_,_,_,_,_,_,_,_,nt,_,_,_,_,_⟩:=n;obtain ⟨_,_,_,⟨_,_,_,ib⟩,_,_,_,ic⟩:=i;cases nt;cases ib;cases ic
 rfl
attribute [go_sem] Zgd Zdo ZdX Zc7 ZdC
theorem Stt.eta (s:Stt):Stt.mk s.number s.time s.slots=s:=rfl
attribute [go_sem] Zc3 Zck ZbY Zd5 ZaX UH Stt.eta
def IW (sm:Int × List Int) (k:Int) (nd:ByteArray) (a:AV) (tx:ByteArray):List AV:=[Ak sm.1,.list (sm.2.map Ci) .none,Ak k,.val (.string nd),a,.val (.string tx)]
theorem Zdb (sm:Int × List Int) (k:Int) (nd:ByteArray) (a:AV) (tx:ByteArray):(IW sm k nd a tx).length=6:=rfl
theorem ZdM (sm:Int × List Int) (k:Int) (nd:ByteArray) (a:AV) (tx:ByteArray) (q:AV):(IW sm k nd a tx).getD 0 q=Ak sm.1/\(IW sm k nd a tx).getD 1 q = .list (sm.2.map Ci) .none/\(IW sm k nd a tx).getD 2 q=Ak k/\(IW sm k nd a tx).getD 3 q = .val (.string nd)/\(IW sm k nd a tx).getD 4 q=a/\(IW sm k nd a tx).getD 5 q = .val (.string tx):=⟨rfl,rfl,rfl,rfl,rfl,rfl⟩
theorem Zci (sm:Int × List Int) (k:Int) (nd:ByteArray) (a:AV) (tx:ByteArray) (x:AV):Bt (IW sm k nd a tx) 4 [x]=IW sm k nd x tx:=rfl
theorem Z1 (sm:Int × List Int) (k:Int) (nd:ByteArray) (a:AV) (tx:ByteArray) (nb nr nl:Nat):(∀ x∈IW sm k nd a tx,Under nb nr nl x)<->Under nb nr nl a:=by
 unfold IW
 simp +decide only [go_sem]
attribute [go_sem] Zdb ZdM Zci Z1
theorem YF {n:Nod} {i:Inp} {s:Stt} {a b c d:List AV} {oa ob oc od:Ev.Own}:(AY n i s (.list a oa) (.list b ob) (.list c oc) (.list d od)).map AV.pubCell=AY n i s (.list a .none) (.list b .none) (.list c .none) (.list d .none):=by
 obtain ⟨_,_,_,_,_,_,_,_,nt,_,_,_,_,_⟩:=n;obtain ⟨_,_,_,⟨_,_,_,ib⟩,_,_,_,ic⟩:=i;cases nt;cases ib;cases ic;rfl
theorem LO {w0:World} {N:Nat} {M0:Mem} {W0:World} {e:Env} {B bs:List (List AV)} {R:List RowA} {L:List LoopA} {la:Nat} {n:Nod} {i:Inp} {s:Stt} {a b c d:List AV} {oa ob oc od:Ev.Own} (hl:la<B.length):Cv w0 N M0 W0 e ⟨B.set la (AY n i s (.list a oa) (.list b ob) (.list c oc) (.list d od))++bs,R,L⟩ ⟨B.set la (AY n i s (.list a .none) (.list b .none) (.list c .none) (.list d .none))++bs,R,L⟩:=by
 have:=W2 (w0:=w0) (n:=N) (M0:=M0) (W0:=W0) (e:=e) (st:=⟨B.set la (AY n i s (.list a oa) (.list b ob) (.list c oc) (.list d od))++bs,R,L⟩) la (show _=some (AY n i s (.list a oa) (.list b ob) (.list c oc) (.list d od)) from (by rw [List.getElem?_append_left (by simpa using hl),List.getElem?_set_self hl])) YF
 dsimp only at this
 rw [List.set_append_left _ _ (show la<(B.set la _).length by rw [List.length_set];exact hl),List.set_set] at this
 exact this
theorem MV {P:Program} {w0:World} {N:Nat} {M0:Mem} {W0:World} {ro:Option Nat} {Q:AQ} {cd:Code} {e:Env} {B bs:List (List AV)} {R:List RowA} {L:List LoopA} {la:Nat} {n:Nod} {i:Inp} {s:Stt} {a b c d:List AV} {oa ob oc od:Ev.Own} (hl:la<B.length) (h:D8 P w0 N M0 W0 ro cd Q e ⟨B.set la (AY n i s (.list a .none) (.list b .none) (.list c .none) (.list d .none))++bs,R,L⟩):D8 P w0 N M0 W0 ro cd Q e ⟨B.set la (AY n i s (.list a oa) (.list b ob) (.list c oc) (.list d od))++bs,R,L⟩:=Zd3 (LO hl) h
theorem JJ {w0:World} {N:Nat} {M0:Mem} {W0:World} {e:Env} {B:List (List AV)} {R:List RowA} {L:List LoopA} {la:Nat} {n:Nod} {i:Inp} {s:Stt} {a b c d:List AV} {oa ob oc od:Ev.Own} (hl:la<B.length):Cv w0 N M0 W0 e ⟨B.set la (AY n i s (.list a oa) (.list b ob) (.list c oc) (.list d od)),R,L⟩ ⟨B.set la (AY n i s (.list a .none) (.list b .none) (.list c .none) (.list d .none)),R,L⟩:=by
 have:=W2 (w0:=w0) (n:=N) (M0:=M0) (W0:=W0) (e:=e) (st:=⟨B.set la (AY n i s (.list a oa) (.list b ob) (.list c oc) (.list d od)),R,L⟩) la (show _=some (AY n i s (.list a oa) (.list b ob) (.list c oc) (.list d od)) from (List.getElem?_set_self hl)) YF
 dsimp only at this
 rw [List.set_set] at this
 exact this
theorem Kw {P:Program} {w0:World} {N:Nat} {M0:Mem} {W0:World} {ro:Option Nat} {Q:AQ} {cd:Code} {e:Env} {B:List (List AV)} {R:List RowA} {L:List LoopA} {la:Nat} {n:Nod} {i:Inp} {s:Stt} {a b c d:List AV} {oa ob oc od:Ev.Own} (hl:la<B.length) (h:D8 P w0 N M0 W0 ro cd Q e ⟨B.set la (AY n i s (.list a .none) (.list b .none) (.list c .none) (.list d .none)),R,L⟩):D8 P w0 N M0 W0 ro cd Q e ⟨B.set la (AY n i s (.list a oa) (.list b ob) (.list c oc) (.list d od)),R,L⟩:=Zd3 (JJ hl) h
theorem XP {sm:Int × List Int} {k:Int} {nd tx:ByteArray} {a:List AV} {oa:Ev.Own}:(IW sm k nd (.list a oa) tx).map AV.pubCell=IW sm k nd (.list a .none) tx:=rfl
theorem ZgK {w0:World} {N:Nat} {M0:Mem} {W0:World} {e:Env} {B bs:List (List AV)} {R:List RowA} {L:List LoopA} {la:Nat} {sm:Int × List Int} {k:Int} {nd tx:ByteArray} {a:List AV} {oa:Ev.Own} (hl:la<B.length):Cv w0 N M0 W0 e ⟨B.set la (IW sm k nd (.list a oa) tx)++bs,R,L⟩ ⟨B.set la (IW sm k nd (.list a .none) tx)++bs,R,L⟩:=by
 have:=W2 (w0:=w0) (n:=N) (M0:=M0) (W0:=W0) (e:=e) (st:=⟨B.set la (IW sm k nd (.list a oa) tx)++bs,R,L⟩) la (show _=some (IW sm k nd (.list a oa) tx) from (by rw [List.getElem?_append_left (by simpa using hl),List.getElem?_set_self hl])) XP
 dsimp only at this
 rw [List.set_append_left _ _ (show la<(B.set la _).length by rw [List.length_set];exact hl),List.set_set] at this
 exact this
theorem Zea {w0:World} {N:Nat} {M0:Mem} {W0:World} {e:Env} {B:List (List AV)} {R:List RowA} {L:List LoopA} {la:Nat} {sm:Int × List Int} {k:Int} {nd tx:ByteArray} {a:List AV} {oa:Ev.Own} (hl:la<B.length):Cv w0 N M0 W0 e ⟨B.set la (IW sm k nd (.list a oa) tx),R,L⟩ ⟨B.set la (IW sm k nd (.list a .none) tx),R,L⟩:=by
 have:=W2 (w0:=w0) (n:=N) (M0:=M0) (W0:=W0) (e:=e) (st:=⟨B.set la (IW sm k nd (.list a oa) tx),R,L⟩) la (show _=some (IW sm k nd (.list a oa) tx) from (List.getElem?_set_self hl)) XP
 dsimp only at this
 rw [List.set_set] at this
 exact this
theorem ZbG (w0:World) (B:Ao) (Rw:Ap) (L:Aq) (lf lt:Nat) (e k:AV) (p i:AV) (nd tx0:AV) (tx:ByteArray) (h1:B[lf]? = some [e,p,k,nd,i,tx0]) (h2:B[lt]? = some [.val (.string tx)]) :
  ACalls Tryz.prog w0 114 [.box lf 0,.box lt 0] ⟨B,Rw,L⟩ fun x st=>st=⟨B.set lf [e,p,k,nd,i,.val (.string tx)],Rw,L⟩:=by
 refine B7 (rs:=[]) Tryz.func114 rfl rfl Tryz.ntmps114 (AL Tryz.func114 rfl (by decide)) (Nat.le_of_ble_eq_true rfl) ?_
 intro M0 W0 f b c a d
 simp only [Ax]
 apply As 1 []
 rw [An];simp +decide only [go_sem,AH h1,AH h2]
theorem Zar (w0:World) (B:Ao) (Rw:Ap) (L:Aq) (m:Msg) (nm:ByteArray) (kd:Int) (c:FuncId) (caps:List AV) (cs cs':List AV) (y:Int × List Int) (hy:AW m.stamp=some y) (hl:cs.length=6) (hp:cs.map AV.pubCell=cs') (hp2:cs'.map AV.pubCell=cs') (hca:caps.map AV.pubA=caps)
  (hu1:∀ x∈cs',Under B.length Rw.length L.length x)
  (hc:∀ (X:Ao),X.length=2->ACalls Tryz.prog w0 c (.box (B.length+2) 0::caps) ⟨B++(X++[[Ak y.1,.list (y.2.map Ci) .none,Ak kd,.val (.string nm),.list [] .full,.val (.string (⟨#[]⟩:ByteArray))]]),Rw,L⟩ fun x st=>st=⟨B++(X++[cs]),Rw,L⟩) :
  ACalls Tryz.prog w0 112 [.agg (Ak m.stamp.1 :: .list (m.stamp.2.map Ci) .none::Ak m.mass :: .list (m.origins.map Ci) .none::m.body.cs),.val (.string nm),Ak kd,.list [.clo c caps] .none] ⟨B,Rw,L⟩ fun x st=>x = .agg cs'/\st=⟨B,Rw,L⟩:=by
 refine hd [.cell 8 75] Tryz.func112 Tryz.ntmps112 fun M0 W0 q n o a p r hs=>?_
 simp only [Ax]
 refine rg [1,2,3,4,8] hs ?_
 apply Am;intro K1 f
 apply As 2 [3,8,9]
 rw [An];simp +decide only [go_sem]
 refine Av _ (Eh w0 _ _ _ m.stamp y hy) (hv hs) ?_
 rw [An];simp +decide only [go_sem]
 (repeat' apply Ad)<;>first | refine f _ _ ?_ | exact cl
 clear f
 apply Am;intro K2 h
 refine rg [8,9,18,19,20] hs ?_
 apply Ar
 refine AA (fun l e st=>(l=1/\e=[(8,true,.box (B.length+1) 0),(9,true,.box (B.length+2) 0),(18,true,.list [.clo c caps] .none),(19,true,Ak 1),(20,true,Ak 0)]/\st=⟨B++[Ak m.stamp.1 :: .list (m.stamp.2.map Ci) .none::Ak m.mass :: .list (m.origins.map Ci) .none::m.body.cs,[Ak 0,.list [] .full,Ak 0,.val (.string ⟨#[]⟩),.list [] .full,.val (.string ⟨#[]⟩)],[Ak y.1,.list (y.2.map Ci) .none,Ak kd,.val (.string nm),.list [] .full,.val (.string ⟨#[]⟩)]],Rw,L⟩)\/(l=0/\e=[(8,true,.box (B.length+1) 0),(9,true,.box (B.length+2) 0),(18,true,.list [.clo c caps] .none),(19,true,Ak 1),(20,true,Ak 1)]/\st=⟨B++[Ak m.stamp.1 :: .list (m.stamp.2.map Ci) .none::Ak m.mass :: .list (m.origins.map Ci) .none::m.body.cs,[Ak 0,.list [] .full,Ak 0,.val (.string ⟨#[]⟩),.list [] .full,.val (.string ⟨#[]⟩)],cs],Rw,L⟩)) 1 (.inl ⟨rfl,rfl,rfl⟩) ?_
 rintro l e st (⟨rfl,rfl,rfl⟩ | ⟨rfl,rfl,rfl⟩) KR hKR
 ·apply Am;intro K3 b
  apply As 1 [8,9,18,19,20,21]
  rw [An];simp +decide only [go_sem]
  refine b _ _ ?_
  apply Am;intro K4 g
  refine A7 true (by simp +decide only [go_sem]) (by simp +decide only [go_sem]) (fun hb=>?_) (fun hb=>by cases hb)
  apply Bq;simp only [go_sem]
  refine g _ _ ?_
  apply Am;intro K5 i
  apply Ar
  apply Am;intro K6 j
  apply As 1 [8,9,11,18,19,20]
  rw [An];simp +decide only [go_sem]
  (repeat' apply Ad)<;>first | refine j _ _ ?_ | exact cl
  apply As 2 [8,9,18,19,20]
  rw [An];simp +decide only [go_sem]
  refine BE _ (hc [_,_] rfl) (by simp +decide only [go_sem,hca]) ?_;rintro _ _ rfl
  rw [An];simp +decide only [go_sem]
  (repeat' apply Ad)<;>first | refine i _ _ ?_ | exact cl
  apply As 1 [8,9,18,19,20]
  rw [An];simp +decide only [go_sem]
  (repeat' apply Ad)<;>first | exact hKR 0 _ _ (by omega) (.inr ⟨rfl,rfl,rfl⟩) | exact cl
 ·apply Am;intro K3 b
  apply As 1 [8,9,18,19,20,21]
  rw [An];simp +decide only [go_sem]
  refine b _ _ ?_
  apply Am;intro K4 g
  refine A7 false (by simp +decide only [go_sem]) (by simp +decide only [go_sem]) (fun hb=>by cases hb) (fun hb=>?_)
  apply Gn;simp +decide only [go_sem]
  refine h _ _ ?_
  apply Am;intro K7 k
  apply As 1 [8]
  have d:List.take 6 cs=cs:=List.take_of_length_le (by omega)
  rw [An];simp +decide only [go_sem,hl,d]
  refine k _ _ ?_
  apply BB;simp +decide only [go_sem,hl,d]
  refine J2 a ⟨_,rfl⟩ (List.prefix_refl _) (List.prefix_refl _) ?_ ?_
  ·rw [hp];have e:AV.pubA (.agg cs') = .agg (cs'.map AV.pubCell):=rfl
   rw [e,hp2];exact .agg hu1
  ·rw [hp];have e:AV.pubA (.agg cs') = .agg (cs'.map AV.pubCell):=rfl
   rw [e,hp2];exact ⟨rfl,rfl⟩
theorem WB (w0:World) (B:Ao) (Rw:Ap) (L:Aq) (m:Msg) (nm tx:ByteArray) (y:Int × List Int) (hy:AW m.stamp=some y) :
  ACalls Tryz.prog w0 81 [.agg (Ak m.stamp.1 :: .list (m.stamp.2.map Ci) .none::Ak m.mass :: .list (m.origins.map Ci) .none::m.body.cs),.val (.string nm),.val (.string tx)] ⟨B,Rw,L⟩ fun x st=>x = .agg [Ak y.1,.list (y.2.map Ci) .none,Ak 4,.val (.string nm),.list [] .none,.val (.string tx)]/\st=⟨B,Rw,L⟩:=by
 refine hd [.cell 6 75] Tryz.func81 Tryz.ntmps81 fun M0 W0 i d e a g h hs=>?_
 simp only [Ax]
 refine rg [1,3,5,6] hs ?_
 apply Am;intro K1 b
 apply As 2 [6]
 rw [An];simp +decide only [go_sem]
 have f:∀ (X:Ao),X.length=2->ACalls Tryz.prog w0 114 (.box ((B++[Ak m.stamp.1 :: .list (m.stamp.2.map Ci) .none::Ak m.mass :: .list (m.origins.map Ci) .none::m.body.cs,[.val (.string tx)],[Ak 0,.list [] .full,Ak 0,.val (.string ⟨#[]⟩),.list [] .full,.val (.string ⟨#[]⟩)]]).length+2) 0::[.box (B.length+1) 0]) ⟨(B++[Ak m.stamp.1 :: .list (m.stamp.2.map Ci) .none::Ak m.mass :: .list (m.origins.map Ci) .none::m.body.cs,[.val (.string tx)],[Ak 0,.list [] .full,Ak 0,.val (.string ⟨#[]⟩),.list [] .full,.val (.string ⟨#[]⟩)]])++(X++[[Ak y.1,.list (y.2.map Ci) .none,Ak 4,.val (.string nm),.list [] .full,.val (.string (⟨#[]⟩:ByteArray))]]),Rw,L⟩ fun x st=>st=⟨(B++[Ak m.stamp.1 :: .list (m.stamp.2.map Ci) .none::Ak m.mass :: .list (m.origins.map Ci) .none::m.body.cs,[.val (.string tx)],[Ak 0,.list [] .full,Ak 0,.val (.string ⟨#[]⟩),.list [] .full,.val (.string ⟨#[]⟩)]])++(X++[[Ak y.1,.list (y.2.map Ci) .none,Ak 4,.val (.string nm),.list [] .full,.val (.string tx)]]),Rw,L⟩:=by
  intro X c
  obtain ⟨u,v,rfl⟩:∃ u v,X=[u,v]:=by
   match X,c with
   | [u,v],_=>exact ⟨u,v,rfl⟩
  have:=ZbG w0 ((B++[Ak m.stamp.1 :: .list (m.stamp.2.map Ci) .none::Ak m.mass :: .list (m.origins.map Ci) .none::m.body.cs,[.val (.string tx)],[Ak 0,.list [] .full,Ak 0,.val (.string ⟨#[]⟩),.list [] .full,.val (.string ⟨#[]⟩)]])++([u,v]++[[Ak y.1,.list (y.2.map Ci) .none,Ak 4,.val (.string nm),.list [] .full,.val (.string (⟨#[]⟩:ByteArray))]])) Rw L (B.length+5) (B.length+1) (Ak y.1) (Ak 4) (.list (y.2.map Ci) .none) (.list [] .full) (.val (.string nm)) (.val (.string ⟨#[]⟩)) tx (by simp [List.getElem?_append_right]) (by simp [List.getElem?_append_right])
  simp only [List.append_assoc,List.cons_append,List.nil_append,List.length_append,List.length_cons,List.length_nil] at this ⊢
  simpa [List.set_append_right] using this
 refine Av _ (Zar w0 _ _ _ m nm 4 _ _ _ _ y hy rfl rfl rfl rfl (by simp +decide only [go_sem]) f) (hv hs) ?_
 rw [An];simp +decide only [go_sem]
 (repeat' apply Ad)<;>first | refine b _ _ ?_ | exact cl
 apply BB;simp +decide only [go_sem]
 exact J2 a ⟨_,rfl⟩ (List.prefix_refl _) (List.prefix_refl _) (by simp +decide only [go_sem]) ⟨rfl,rfl⟩
def Jk (m:Msg) (nm tx:ByteArray):Option Fte:=(AW m.stamp).bind fun y=>some (Fte.mk y 4 nm [] tx)
theorem LG (w0:World) (B:Ao) (Rw:Ap) (L:Aq) (m:Msg) (nm tx:ByteArray) (r:Fte) (h:Jk m nm tx=some r) :
  ACalls Tryz.prog w0 81 [Dn m,.val (.string nm),.val (.string tx)] ⟨B,Rw,L⟩ fun x st=>x=F3 r/\st=⟨B,Rw,L⟩:=by
 rw [Jk] at h
 obtain ⟨y,a,h⟩:=bind_some h
 cases h
 exact WB w0 B Rw L m nm tx y a
def LA (rec:Vl->Option Vl) (n:Nat) (b:Vl) (b2_k22_4:List Vl) (b2_k22_5:List (ByteArray × Vl)):Option Vl :=
 some (Vl.mk b.kind b.int b.scale b.text b2_k22_4 b2_k22_5)
def Hm (rec:Vl->Option Vl) (n:Nat) (h:Vl):Nat->Int->(List Vl)->(List (ByteArray × Vl))->Option Vl
 | 0,_,_,_=>none
 | m+1,b,b2_l25_4,b2_l25_5 =>
  if decide (b<(h.fields.length:Int)) then
   (Dw h.fields b).bind fun g =>
   (rec g.2).bind fun q =>
   if (b2_l25_5.length+1)*104<=140737488355328/\b2_l25_5.length+1<=4611686018427387904 then
    if BN (b+1) then
     (Hm rec n h m) (b+1) b2_l25_4 (b2_l25_5++([(g.1,q)]))
    else none
   else none
  else
   LA rec n h b2_l25_4 b2_l25_5
def Np (rec:Vl->Option Vl) (n:Nat) (b:Vl) (b2_k5_4:List Vl):Option Vl :=
 Hm rec n b n 0 b2_k5_4 ([])
def Ic (rec:Vl->Option Vl) (n:Nat) (g:Vl):Nat->Int->(List Vl)->Option Vl
 | 0,_,_=>none
 | m+1,b,b2_l8_4 =>
  if decide (b<(g.list.length:Int)) then
   (Dw g.list b).bind fun h =>
   (rec h).bind fun q =>
   if (b2_l8_4.length+1)*88<=140737488355328/\b2_l8_4.length+1<=4611686018427387904 then
    if BN (b+1) then
     (Ic rec n g m) (b+1) (b2_l8_4++([q]))
    else none
   else none
  else
   Np rec n g b2_l8_4
def Pq (rec:Vl->Option Vl) (n:Nat) (b:Vl):Option Vl :=
 Ic rec n b n 0 ([])
def B8:Nat->Vl->Option Vl
 | 0,_=>none
 | n+1,b=>Pq (B8 n) n b
def RB (w0:World) (F:Vl->Option Vl):Prop:=∀ (B:Ao) (Rw:Ap) (L:Aq) (b:Vl) (r:Vl),F b=some r->ACalls Tryz.prog w0 57 [.agg (b.cs)] ⟨B,Rw,L⟩ fun x st=>x = .agg (r.cs)/\st=⟨B,Rw,L⟩
theorem WZ (w0:World) (rec:Vl->Option Vl) (ih:RB w0 rec) (n:Nat):RB w0 (Pq rec n):=by
 intro B Rw L a0 r h
 rw [Pq] at h
 refine hd [.cell 2 49] Tryz.func57 Tryz.ntmps57 fun M0 W0 D x y u J w hs=>?_
 simp only [Ax]
 refine rg [1,2] hs ?_
 refine rg [1,2,3] hs ?_
 have hs:=Ad (Vl.cs_eqs a0) hs
 refine rg [1,2,3] hs ?_
 refine AD (fun e st=>∃ (g:List Vl) (k:Ev.Own),Ck e st B Rw L [(1,true,.box B.length 0),(2,true,.box (B.length+1) 0),(3,true,.box (B.length+2) 0)] [a0.cs,CQ,[Ak a0.kind,Ak a0.int,Ak a0.scale,.val (.string a0.text),.list (g.map En) k,.list ([]) .full]] [(6,g.length,k)] (Np rec n a0 g=some r)) ?_ ?_
 ·intro K6 F
  refine rg [1,2,3,12,13,14] hs ?_
  apply Ar
  refine AA (fun m e st=>∃ (v:Int) (p:List Vl) (q:Ev.Own),Ck e st B Rw L [(1,true,.box B.length 0),(2,true,.box (B.length+1) 0),(3,true,.box (B.length+2) 0),(12,true,.list (a0.list.map En) .none),(13,true,Ak (a0.list.length:Int)),(14,true,Ak v)] [a0.cs,CQ,[Ak a0.kind,Ak a0.int,Ak a0.scale,.val (.string a0.text),.list (p.map En) q,.list ([]) .full]] [(6,p.length,q)] (Ic rec n a0 m v p=some r)) n ⟨0,([]),.full,([]),Rw,ef hs,ef hs,Owns.of_eq ((w).full 6 0) Fh,h⟩ ?_
  rintro ml8 e st ⟨v,p,q,Xl8,Rl8,rfl,rfl,w,h⟩ Ul8 Vl8
  cases ml8 with
  | zero=>cases h
  | succ ml8 =>
  rw [Ic] at h
  exact go (tg (a:=([1,2,3,12,13,14,15],([1,2,3,12,13,14],[1,2,3,5,12,13,14],[5,1,2,3,12,13,14],[1,2,3,12,13,14],()),[1,2,3],()))) h hs D x y u w (q2 (ae P7 KJ) ih) (q2 F (fun e s=>Vl8 ml8 e s (Nat.lt_succ_self _)))
 ·clear h;rintro e st ⟨g,k,Xk5,Rk5,rfl,rfl,w,h⟩
  rw [Np] at h
  have E:=w.unders
  simp only [List.mem_cons,List.not_mem_nil,or_false,forall_eq_or_imp,forall_eq] at E
  refine td D x y u w ?_
  refine AD (fun e st=>∃ (i:List Vl) (j:List (ByteArray × Vl)) (o:Ev.Own) (l:Ev.Own),Ck e st B Rw L [(2,true,.box (B.length+1) 0),(3,true,.box (B.length+2) 0)] [a0.cs,CQ,[Ak a0.kind,Ak a0.int,Ak a0.scale,.val (.string a0.text),.list (i.map En) o,.list (j.map Di) l]] [(6,i.length,o),(7,j.length,l)] (LA rec n a0 i j=some r)) ?_ ?_
  ·intro K23 z
   refine rg [2,3,27,28,29] hs ?_
   apply Ar
   refine AA (fun m e st=>∃ (t:Int) (c:List Vl) (b:List (ByteArray × Vl)) (f:Ev.Own) (d:Ev.Own),Ck e st B Rw L [(2,true,.box (B.length+1) 0),(3,true,.box (B.length+2) 0),(27,true,.list (a0.fields.map Di) .none),(28,true,Ak (a0.fields.length:Int)),(29,true,Ak t)] [a0.cs,CQ,[Ak a0.kind,Ak a0.int,Ak a0.scale,.val (.string a0.text),.list (c.map En) f,.list (b.map Di) d]] [(6,c.length,f),(7,b.length,d)] (Hm rec n a0 m t c b=some r)) n ⟨0,g,([]),k,.full,([]),Rk5,ef hs,ef hs,Owns.of_eq (((w).full 7 0).swap (List.Perm.swap _ _ _)) Fh,h⟩ ?_
   rintro ml25 e st ⟨t,c,b,f,d,Xl25,Rl25,rfl,rfl,w,h⟩ Ul25 Vl25
   cases ml25 with
   | zero=>cases h
   | succ ml25 =>
   rw [Hm] at h
   have E:=w.unders
   simp only [List.mem_cons,List.not_mem_nil,or_false,forall_eq_or_imp,forall_eq] at E
   obtain ⟨H,G⟩:=E
   refine td D x y u w ?_
   refine rg [2,3,27,28,29,30] hs ?_
   apply Am;intro K27 C
   refine B6 h hs ?_ ?_<;>intro hs h
   rotate_left
   ·refine sx [2,3] hs z ?_
    exact ⟨c,b,f,d,([]),Rl25,ef hs,ef hs,Owns.of_eq (((w).swap (List.Perm.swap _ _ _)).swap (List.Perm.swap _ _ _)) Fh,h⟩
   exact go (tg (a:=([2,3,27,28,29],[2,3,7,27,28,29],[9,2,3,27,28,29],[2,3,27,28,29],()))) h hs D x y u w (q2 (ae SG MC) ih) (q2 C (fun e s=>Vl25 ml25 e s (Nat.lt_succ_self _)))
  ·clear h;rintro e st ⟨i,j,o,l,Xk22,Rk22,rfl,rfl,w,h⟩
   rw [LA] at h
   exact go (tg (a:=([2],()))) h hs D x y u w trivial trivial
theorem CZ (w0:World):∀ n:Nat,RB w0 (B8 n)
 | 0=>fun _ _ _ _ _ h=>(nomatch h)
 | n+1=>WZ w0 (B8 n) (CZ w0 n) n
def DV (n:Nat) (b:Msg):Option Msg :=
 (AW b.stamp).bind fun h =>
 if b.origins.length*8<=140737488355328 then
  (B8 n b.body).bind fun g =>
  some (Msg.mk h b.mass b.origins g)
 else none
theorem Gk (w0:World) (n:Nat) (B:Ao) (Rw:Ap) (L:Aq) (a0:Msg) (r:Msg) (h:DV n a0=some r) :
  ACalls Tryz.prog w0 33 [.agg (Qu a0)] ⟨B,Rw,L⟩ fun x st=>x = .agg (Qu r)/\st=⟨B,Rw,L⟩:=by
 rw [DV] at h
 refine hd [.cell 2 51] Tryz.func33 Tryz.ntmps33 fun M0 W0 f c d b g e hs=>?_
 simp only [Ax]
 exact go (tg (a:=([1,2],[12,2],()))) h hs f c d b e (q3 (Eh w0) (N1 w0) (CZ w0 n)) trivial
end Go.Proofs.YtbfenpeblbonlaaGreatDoor
namespace Go.Ev
open Go Go.RowKit
theorem QN {i j:Nat} (h:i≠j):∀ (B:Ao) (a b:List AV),(B.set i a).set j b=(B.set j b).set i a:=fun B a b=>List.set_comm _ _ h
theorem JL (i:Nat):∀ (B:Ao) (a b:List AV),(B.set i a).set i b=B.set i b:=fun B a b=>List.set_set a
theorem Lt {B:List (List AV)} {l:Nat} {cs:List AV} (h:B[l]? = some cs) (i j:Nat):∀ (X:Ao) (a b c:List AV),((B.set i a).set j b++X).set l c=((B.set i a).set j b).set l c++X:=fun X a b c=>List.set_append_left _ _ (by rw [List.length_set,List.length_set];exact (Aj.1 h).1)
theorem Xo {B:List (List AV)} {l j:Nat} {cs:List AV} (h:B[l]? = some cs) (hne:j≠l) :
  (∀ a b X R L o,Dv ⟨(B.set l a).set j b++X,R,L⟩ (.box l o)=true)/\(∀ a b R L o,Dv ⟨(B.set l a).set j b,R,L⟩ (.box l o)=true)/\(∀ a b X R L o,Bi ⟨(B.set l a).set j b++X,R,L⟩ (.box l o)=a)/\(∀ a b R L o,Bi ⟨(B.set l a).set j b,R,L⟩ (.box l o)=a) /\
  (∀ a b X,((B.set l a).set j b++X)[l]? = some a)/\(∀ a b,((B.set l a).set j b)[l]? = some a)/\(∀ a b X,((B.set l a).set j b++X).getD l []=a)/\(∀ a b,((B.set l a).set j b).getD l []=a):=by
 have c:∀ a,(B.set l a)[l]? = some a:=fun a=>List.getElem?_set_self (Aj.1 h).1
 exact ⟨fun a b X R L o=>(FD (c a) hne).1 X R L o b,fun a b R L o=>(FD (c a) hne).2.1 R L o b,fun a b X R L o=>(FD (c a) hne).2.2.1 X R L o b,fun a b R L o=>(FD (c a) hne).2.2.2.1 R L o b,
  fun a b X=>(FD (c a) hne).2.2.2.2.1 X b,fun a b=>(FD (c a) hne).2.2.2.2.2.1 b,fun a b X=>(FD (c a) hne).2.2.2.2.2.2.1 X b,fun a b=>(FD (c a) hne).2.2.2.2.2.2.2 b⟩
theorem TD {B:List (List AV)} {l i:Nat} {cs:List AV} (h:B[l]? = some cs) (hne:i≠l) :
  (∀ a b X R L o,Dv ⟨(B.set i a).set l b++X,R,L⟩ (.box l o)=true)/\(∀ a b R L o,Dv ⟨(B.set i a).set l b,R,L⟩ (.box l o)=true)/\(∀ a b X R L o,Bi ⟨(B.set i a).set l b++X,R,L⟩ (.box l o)=b)/\(∀ a b R L o,Bi ⟨(B.set i a).set l b,R,L⟩ (.box l o)=b) /\
  (∀ a b X,((B.set i a).set l b++X)[l]? = some b)/\(∀ a b,((B.set i a).set l b)[l]? = some b)/\(∀ a b X,((B.set i a).set l b++X).getD l []=b)/\(∀ a b,((B.set i a).set l b).getD l []=b):=by
 have c:∀ a b,((B.set i a).set l b)[l]? = some b:=fun a b=>List.getElem?_set_self (by rw [List.length_set];exact (Aj.1 h).1)
 exact ⟨fun a b X R L o=>(AH (c a b)).1 X R L o,fun a b R L o=>(AH (c a b)).2.1 R L o,fun a b X R L o=>(AH (c a b)).2.2.1 X R L o,fun a b R L o=>(AH (c a b)).2.2.2.1 R L o,
  fun a b X=>(AH (c a b)).2.2.2.2.1 X,c,fun a b X=>(AH (c a b)).2.2.2.2.2.2.1 X,fun a b=>(AH (c a b)).2.2.2.2.2.2.2.1⟩
theorem YG (B:Ao) (i j:Nat) (c d:List AV):((B.set i c).set j d).length=B.length:=by simp only [List.length_set]
@[go_sem] theorem Zka (B X:Ao) (R:Ap) (L:Aq) (i j k o:Nat) (c d:List AV):Dv ⟨(B.set i c).set j d++X,R,L⟩ (.box (B.length+k) o)=decide (k<X.length):=by have h:=ZaU ((B.set i c).set j d) X R L k o;rwa [YG] at h
@[go_sem] theorem ZjG (B X:Ao) (R:Ap) (L:Aq) (i j o:Nat) (c d:List AV):Dv ⟨(B.set i c).set j d++X,R,L⟩ (.box B.length o)=decide (0<X.length):=by have h:=Y0 ((B.set i c).set j d) X R L o;rwa [YG] at h
@[go_sem] theorem Zco (B X:Ao) (i j k:Nat) (c d:List AV):((B.set i c).set j d++X).getD (B.length+k) []=X.getD k []:=by have h:=V7 (B.set i c) X j k d;rwa [List.length_set] at h
@[go_sem] theorem Za4 (B X:Ao) (i j:Nat) (c d:List AV):((B.set i c).set j d++X).getD B.length []=X.getD 0 []:=by have h:=UE (B.set i c) X j d;rwa [List.length_set] at h
@[go_sem] theorem ZiB (B X:Ao) (R:Ap) (L:Aq) (i j k o:Nat) (c d:List AV):Bi ⟨(B.set i c).set j d++X,R,L⟩ (.box (B.length+k) o)=X.getD k []:=Zco B X i j k c d
@[go_sem] theorem ZfY (B X:Ao) (R:Ap) (L:Aq) (i j o:Nat) (c d:List AV):Bi ⟨(B.set i c).set j d++X,R,L⟩ (.box B.length o)=X.getD 0 []:=Za4 B X i j c d
@[go_sem] theorem ZmG (B X:Ao) (i j k:Nat) (c d x:List AV):((B.set i c).set j d++X).set (B.length+k) x=(B.set i c).set j d++X.set k x:=by have h:=ZcG (B.set i c) X j k d x;rwa [List.length_set] at h
@[go_sem] theorem Zlv (B X:Ao) (i j:Nat) (c d x:List AV):((B.set i c).set j d++X).set B.length x=(B.set i c).set j d++X.set 0 x:=by have h:=Za0 (B.set i c) X j d x;rwa [List.length_set] at h
@[go_sem] theorem ZmM (B X:Ao) (i j k:Nat) (c d:List AV):((B.set i c).set j d++X)[B.length+k]? = X[k]? := by have h:=EF (B.set i c) X j k d;rwa [List.length_set] at h
@[go_sem] theorem Zma (B X:Ao) (i j:Nat) (c d:List AV):((B.set i c).set j d++X)[B.length]? = X[0]? := by have h:=DR (B.set i c) X j d;rwa [List.length_set] at h
end Go.Ev
namespace Go.Proofs.YtbfenpeblbonlaaGreatDoor
open Go Go.RowKit Go.Ev
section
variable {P:Program} {w0:World} {n:Nat} {l:List Oper} {ef dn:List Nat} {F:St->Prop} {T:Env->St->Prop} {k:Nat} {ev:Env} {s:St}
theorem gm1 {i:Nat} (_:Tg i) (hr:WE l ef dn=[i]) (hn:(ef.all fun i=>dn.contains i)=false) (hF:F s) (h:∃ o,l[i]? = some o/\o.guard=none/\IB n o.dst/\∃ Post:AV->St->Prop,SZ P w0 (CV true l o ev) s o Post/\∀ v s',Post v s'->Ev.Good P w0 n l ef F T k (i::dn) (IX ev o.dst true v) s'):Ev.Good P w0 n l ef F T (k+1) dn ev s :=
 Ev.Good.mk [i] hr hF (fun q=>by rw [hn] at q;cases q) (fun j hj=>by obtain rfl:=List.mem_singleton.1 hj;exact h)
theorem gm0 {L:List Nat} {nb:Nat} {e2:Env} (_:Tg L) (hr:WE l ef dn=[]) (hF:F s) (hT:C9 L ev=e2):Ev.Good P w0 n l ef F (fun ev s'=>Conv w0 n nb ev s' e2 s) (k+1) dn ev s :=
 Ev.Good.mk [] hr hF (fun _=>EB L hT) (fun i hi=>by cases hi)
theorem stI {o:Oper} {v:AV} {s':St} (h:Cd P w0 ev s o v s'):Cd P w0 ev s o v s':=h
theorem kpI {L:List Nat} {e e':Env} (h:C9 L e=e'):C9 L e=e':=h
end
theorem gd {T F p:Prop} (tL:T) (hs:F) (k:T->F->p:=by
  intro tL hs
  repeat' first
    | ((with_reducible refine gm1 (tgh tL) kr rfl ?_ ?_)<;>replace tL:=tgt tL)
    | (with_reducible apply gm0 tL kr)
    | (apply Bl rfl rfl ev
       case' hs=>((simp +decide only [go_sem,Nat.reduceAdd,Cd,hs]);(repeat' apply Ad)<;>first | rfl | exact cl)
       case' hk=>simp +decide only [go_sem,Nat.reduceAdd,hs])
    | ((with_reducible refine stI ?_);simp +decide only [go_sem,Nat.reduceAdd,Cd,hs];(repeat' apply Ad)<;>first | rfl | exact cl)
    | ((with_reducible apply kpI);first | (simp +decide only [go_sem,Nat.reduceAdd,hs];done) | (simp +decide only [go_sem,Nat.reduceAdd,hs];rfl) | (simp +decide only [go_sem,Nat.reduceAdd,and_self,imp_self,hs];done) | (simp +decide only [go_sem,Nat.reduceAdd,and_self,imp_self,hs];rfl))
    | exact ⟨[],_,rfl⟩
    | exact ⟨[],_,_,rfl⟩
    | exact ⟨[],_,_,_,rfl⟩
    | exact ⟨_,_,rfl⟩
    | exact ⟨_,_,_,rfl⟩
    | exact ⟨[],_,by simp only [List.append_nil,List.nil_append]⟩
    | exact ⟨[],_,_,by simp only [List.append_nil,List.nil_append]⟩
    | exact ⟨_,_,by simp only [List.append_nil,List.nil_append]⟩):p:=k tL hs
theorem Zc1 {o:Ev.Own} {a b:Nat} (h:a<=b) (u:o.under a):o.under b:=by
 cases o with
 | row id=>exact Nat.lt_of_lt_of_le u h
 | _=>trivial
theorem Zew {B B' X:List (List AV)} {R0 rows:List RowA} {L:List LoopA} {Post:AV->St->Prop} {v:AV} (hr:R0.length<=rows.length) (hc:Ev.Calm B.length rows.length L.length ⟨B',rows,L⟩) (hB:B'.length=B.length) (hu:Under B.length rows.length L.length v.pubA) (hp:Post v.pubA ⟨B',rows,L⟩) :
  Go.Ev.finG ⟨B,R0,L⟩ Post v ⟨B'++X,rows,L⟩:=by
 have e:St.cut ⟨B'++X,rows,L⟩ B.length rows.length L.length=⟨B',rows,L⟩:=by simp [St.cut,<-hB]
 exact ⟨by simp [hB],hr,by simp,by simp only [e];exact hc,hu,by simp only [e];exact hp⟩
def J3 (N:Nat) (n:Nod) (F:List Fte) (G:List Msg) (m:Msg) (tx:ByteArray):Option (List Fte × List Msg) :=
 if (F.length+1)*96<=140737488355328/\F.length+1<=4611686018427387904/\(G.length+1)*152<=140737488355328/\G.length+1<=4611686018427387904 then (Jk m n.name tx).bind fun f=>(DV N m).bind fun g=>some (F++[f],G++[g]) else none
theorem ZhZ {Rw R1:List RowA} {s1 s2 m1 n2:Nat} {oF o1 oG:Ev.Own} (h1:Owns Rw R1 [(s1,m1,o1)] oF) (h2:Owns Rw Rw [(s2,n2,oG)] oG) (hap:∀ id,oF = .row id->oG ≠ .row id):Owns R1 R1 [(s2,n2,oG)] oG:=by
 refine ⟨Nat.le_refl _,fun _ _ _=>rfl,fun i r a q c=>?_,fun x b=>?_,List.pairwise_singleton .., by simp,.nil⟩
 ·rcases q with q | q
  ·have:=(Aj.1 a).1;omega
  ·have d:i<Rw.length:=by
    rcases h2.each _ (List.mem_singleton.2 rfl) with w | ⟨id,w1,_,w3⟩
    ·simp only at w;rw [w] at q;cases q
    ·simp only at w1;rw [w1] at q;cases q;exact (Aj.1 w3).1
   rw [h1.keep i d (fun e=>hap i e q)] at a
   exact h2.calm i r a (.inr q) c
 ·rw [List.mem_singleton.1 b]
  rcases h2.each _ (List.mem_singleton.2 rfl) with w | ⟨id,w1,_,w3⟩
  ·exact .inl w
  ·exact .inr ⟨id,w1,.inr w1,by rw [h1.keep id (Aj.1 w3).1 (fun e=>hap id e w1)];exact w3⟩
theorem I4 (w0:World) (N:Nat) (B:Ao) (Rw:Ap) (L:Aq) (la:Nat) (n:Nod) (i:Inp) (s:Stt) (a b:AV) (F:List Fte) (G:List Msg) (oF oG:Ev.Own) (hla:B[la]? = some (AY n i s a b (.list (F.map F3) oF) (.list (G.map Dn) oG)))
  (hG:Owns Rw Rw [(6,F.length,oF)] oF) (hH:Owns Rw Rw [(10,G.length,oG)] oG) (hap:∀ id,oF = .row id->oG ≠ .row id) (m:Msg) (tx:ByteArray) (r:List Fte × List Msg) (h:J3 N n F G m tx=some r) :
  ACalls Tryz.prog w0 61 [.box la 0,.agg (Ak m.stamp.1 :: .list (m.stamp.2.map Ci) .none::Ak m.mass :: .list (m.origins.map Ci) .none::m.body.cs),.val (.string tx)] ⟨B,Rw,L⟩ fun x st=>x = .tup []/\∃ (R1 R2:Ap) (o1 o2:Ev.Own),st=⟨B.set la (AY n i s a b (.list (r.1.map F3) o1) (.list (r.2.map Dn) o2)),R2,L⟩/\Owns Rw R1 [(6,r.1.length,o1)] oF/\Owns R1 R2 [(10,r.2.length,o2)] oG:=by
 rw [J3] at h
 obtain ⟨E,h⟩:=Au h
 obtain ⟨f,Q,h⟩:=bind_some h
 obtain ⟨g,D,h⟩:=bind_some h
 have hgt:=Option.some.inj h;subst hgt
 refine ACalls.finG (B7 (rs:=[]) Tryz.func61 rfl rfl Tryz.ntmps61 (AL Tryz.func61 rfl (by decide)) (Nat.le_of_ble_eq_true rfl) ?_)
 intro M0 W0 Z H J k V
 dsimp only at Z H J k V
 simp only [Ax]
 have Y:=(Aj.1 hla).1
 have e:=AC hla
 obtain ⟨u,l,hG,d⟩:=hG.append (P:=Tryz.prog) WU (by rw [QI];rfl) (by decide) 1 E.1 E.2.1
 replace d:=fun (ys:List AV) B L o2=>d (F.map F3) ys B L o2 Fh
 replace d:=fun (y:AV) B L o2=>d [y] B L o2 Fh ev
 try simp only [List.mem_singleton,List.mem_cons,List.not_mem_nil,or_false,forall_eq_or_imp,forall_eq,List.map_append,List.map_cons,List.map_nil] at d
 have o:Owns l l [(10,G.length,oG)] oG:=ZhZ hG hH hap
 obtain ⟨w,j,o,c⟩:=o.append (P:=Tryz.prog) Z8 (by rw [U4];rfl) (by decide) 1 E.2.2.1 E.2.2.2
 replace c:=fun (ys:List AV) B L o2=>c (G.map Dn) ys B L o2 Fh
 replace c:=fun (y:AV) B L o2=>c [y] B L o2 Fh ev
 try simp only [List.mem_singleton,List.mem_cons,List.not_mem_nil,or_false,forall_eq_or_imp,forall_eq,List.map_append,List.map_cons,List.map_nil] at c
 refine MI (B':=B.set la (AY n i s a b (.list (F.map F3) oF) (.list (G.map Dn) oG))) (by simp only [Bd hla]) ?_
 apply Am;intro K1 v
 apply As 1 [0,2,4]
 rw [An];simp +decide only [go_sem,Nat.reduceAdd]
 refine v _ _ ?_
 clear v
 apply Am;intro K2 z
 apply JG G6 [15,19] [5] [0,4] kr (fun p=>∃ (X:Ao) (t:Ap) (C:AV),p=⟨(B.set la (AY n i s a b C (.list (G.map Dn) oG)))++([Ak m.stamp.1 :: .list (m.stamp.2.map Ci) .none::Ak m.mass :: .list (m.origins.map Ci) .none::m.body.cs]++X),t,L⟩) 3 (B.length+1)
 ·simp +decide only [go_sem,Nat.reduceAdd]
 ·refine ⟨2,?_⟩
  rw [An];simp +decide only [go_sem,Nat.reduceAdd,Bh,e,d]
  have hs:=Ad d e
  (repeat' apply Ad)<;>first | refine Av _ (LG w0 _ _ _ m n.name tx f Q) (hv hs) ?_ | exact cl
  rw [An];simp +decide only [go_sem,Nat.reduceAdd,e,d]
  (repeat' apply Ad)<;>first | rfl | exact cl
 ·rintro p ⟨X,t,C,rfl⟩
  refine ⟨2,?_⟩
  rw [An];simp +decide only [go_sem,Nat.reduceAdd,Bh,List.append_eq,List.cons_append,List.nil_append,e,d]
  have hs:=Ad d e
  (repeat' apply Ad)<;>first | refine Av _ (LG w0 _ _ _ m n.name tx f Q) (hv hs) ?_ | exact cl
  rw [An];simp +decide only [go_sem,Nat.reduceAdd,e,d]
  (repeat' apply Ad)<;>first | rfl | ((repeat (first | exact .nil | refine .cons (ef hs) ?_));done) | exact cl
 ·exact gd (tg (a:=(15,19,([0,4]:List Nat)))) (Ad d e)
 simp +decide only [go_sem,Nat.reduceAdd,e,d]
 refine z _ _ ?_
 clear z
 apply JG G6 [9,13] [5] [] kr (fun p=>∃ (X:Ao) (t:Ap) (C:AV),p=⟨(B.set la (AY n i s a b (.list (F.map F3++[F3 f]) u) C))++([Ak m.stamp.1 :: .list (m.stamp.2.map Ci) .none::Ak m.mass :: .list (m.origins.map Ci) .none::m.body.cs]++X),t,L⟩) 3 (B.length+1)
 ·simp +decide only [go_sem,Nat.reduceAdd]
 ·refine ⟨2,?_⟩
  rw [An];simp +decide only [go_sem,Nat.reduceAdd,Bh,e,c]
  have hs:=Ad c e
  (repeat' apply Ad)<;>first | refine Av _ (Gk w0 N _ _ _ m g D) (hv hs) ?_ | exact cl
  rw [An];simp +decide only [go_sem,Nat.reduceAdd,e,c]
  (repeat' apply Ad)<;>first | rfl | exact cl
 ·rintro p ⟨X,t,C,rfl⟩
  refine ⟨2,?_⟩
  rw [An];simp +decide only [go_sem,Nat.reduceAdd,Bh,List.append_eq,List.cons_append,List.nil_append,e,c]
  have hs:=Ad c e
  (repeat' apply Ad)<;>first | refine Av _ (Gk w0 N _ _ _ m g D) (hv hs) ?_ | exact cl
  rw [An];simp +decide only [go_sem,Nat.reduceAdd,e,c]
  (repeat' apply Ad)<;>first | rfl | ((repeat (first | exact .nil | refine .cons (ef hs) ?_));done) | exact cl
 ·exact gd (tg (a:=(9,13,([]:List Nat)))) (Ad c e)
 simp +decide only [go_sem,Nat.reduceAdd,e,c]
 (repeat' with_reducible apply Ad)<;>first | exact cl | skip
 have aa:=hG.len
 have K:=o.len
 have u1:u.under j.length:=Zc1 K (hG.unders _ (List.mem_singleton.2 rfl))
 have u2:w.under j.length:=o.unders _ (List.mem_singleton.2 rfl)
 have O:Under B.length j.length L.length a/\Under B.length j.length L.length b:=by
  have U:=k.boxes _ (List.mem_of_getElem? hla)
  have q:∀ y∈(AY n i s a b (.list (F.map F3) oF) (.list (G.map Dn) oG)),Under B.length Rw.length L.length y:=U
  rw [UH] at q
  exact ⟨BP (Nat.le_refl _) (by omega) (Nat.le_refl _) q.1,BP (Nat.le_refl _) (by omega) (Nat.le_refl _) q.2.1⟩
 refine Zew (by omega) ⟨o.rowsCalm (Nat.le_refl _) (hG.rowsCalm (Nat.le_refl _) k.rows),?_,(DY k (by omega)).loops⟩ (by simp only [List.length_set]) (by simp +decide only [go_sem,Nat.reduceAdd]) ⟨rfl,l,j,u,w,rfl,?_,?_⟩
 ·refine (AK (DY k (show Rw.length<=j.length by omega)) ?_).boxes
  simp +decide only [go_sem,Nat.reduceAdd]
  (repeat' apply Ad)<;>first | exact O.1 | exact O.2 | exact u1 | exact u2 | trivial
 ·first | exact hG | exact hG.len1 (by simp only [List.length_append,List.length_cons,List.length_nil])
 ·first | exact o | exact o.len1 (by simp only [List.length_append,List.length_cons,List.length_nil])
theorem XN (w0:World) (B:Ao) (Rw:Ap) (L:Aq) (tx:ByteArray) (lp:Nat) :
  ACalls Tryz.prog w0 97 [.val (.string tx),.box lp 0] ⟨B,Rw,L⟩ fun r st=>r = .clo 98 [.box lp 0,.box B.length 0]/\st=⟨B++[[.val (.string tx)]],Rw,L⟩:=by
 refine B7 (rs:=[.tmp 3]) Tryz.func97 rfl rfl Tryz.ntmps97 (AL Tryz.func97 rfl (by decide)) (Nat.le_of_ble_eq_true rfl) ?_
 intro M0 W0 g d e c f
 simp only [Ax]
 apply Am;intro K1 a
 apply As 1 [1,2,3]
 rw [An];simp +decide only [go_sem]
 (repeat' apply Ad)<;>first | refine a _ _ ?_ | exact cl
 clear a
 apply Am;intro K2 b
 apply As 1 [3]
 rw [An];simp +decide only [go_sem]
 (repeat' apply Ad)<;>first | refine b _ _ ?_ | exact cl
 apply BB;simp +decide only [go_sem]
structure CM where
 i:Nat
 k:Nat
 v:Nat
structure CE where
 num:Nat
 t:Int
 m:CM
structure CS where
 num:Nat
 es:List CE
structure CP where
 T:Int
 lim:Nat
 req:Nat
 res:Nat
structure CP.ok (p:CP):Prop where
 T0:0<=p.T
 T1:p.T<=30
 lim:p.lim<=6
 req:3<=p.req/\p.req<=5
 res:4<=p.res/\p.res<=12
inductive CI where
 | msg (m:CM) (now:Int)
 | rep (i:Nat) (now:Int) (call:Nat) (done undo:Bool) (w:Nat)
 | clk (i:Nat) (now:Int)
inductive CR where
 | full | type | refused | timeout
structure CO where
 st:CS
 out:Option (Nat × CM × Nat)
 req:Option (CM × Nat)
 rej:List (CM × CR)
def LC (c:Nat) (es:List CE):Option CE:=es.find? fun e=>e.num == c
def Hn (now:Int) (e:CE):Bool:=decide (0<e.t)&&decide (e.t<=now)
def Du (p:CP) (s:CS):CI->CO
 | .msg m now =>
  if p.lim<=s.es.length then ⟨s,none,none,[(m,.full)]⟩
  else if p.req<m.k then ⟨s,none,none,[(m,.type)]⟩
  else ⟨⟨s.num+1,s.es++[⟨s.num+1,if 0<p.T then now+p.T else 0,m⟩]⟩,none,some (m,s.num+1),[]⟩
 | .rep i now call done undo w =>
  match if undo then none else LC call s.es with
  | none=>⟨s,none,none,[]⟩
  | some e =>
   let s':CS:=⟨s.num,s.es.filter fun x=>x.num != call⟩
   if done=false then ⟨s',none,none,[(e.m,.refused)]⟩
   else if 9<w\/p.res<e.m.v+w then ⟨s',none,none,[(e.m,.type)]⟩
   else ⟨s',some (i,e.m,w),none,[]⟩
 | .clk i now=>⟨⟨s.num,s.es.filter fun e => !Hn now e⟩,none,none,(s.es.filter (Hn now)).map fun e=>(e.m,.timeout)⟩
structure CS.ok (p:CP) (now:Int) (k:Nat) (s:CS):Prop where
 now0:0<=now
 num:s.num<=k
 len:s.es.length<=p.lim
 inc:s.es.Pairwise fun a b=>a.num<b.num
 rng:∀ e∈s.es,1<=e.num/\e.num<=s.num
 tim:∀ e∈s.es,(p.T=0/\e.t=0)\/(0<p.T/\0<e.t/\e.t<=now+p.T)
 ord:s.es.Pairwise fun a b=>a.t<=b.t
 msg:∀ e∈s.es,e.m.i<k/\e.m.k<6/\e.m.v<4
def CI.now:CI->Int
 | .msg _ now=>now
 | .rep _ now _ _ _ _=>now
 | .clk _ now=>now
def CI.ok (k:Nat):CI->Prop
 | .msg m _=>m.i=k/\m.k<6/\m.v<4
 | .rep i _ c _ _ w=>i=k/\c<16/\w<12
 | .clk i _=>i=k
theorem CS.ok.up {p:CP} {now now':Int} {k k':Nat} {s:CS} (h:s.ok p now k) (h1:now<=now') (h2:k<=k'):s.ok p now' k' :=
 ⟨Int.le_trans h.now0 h1,by have:=h.num;omega,h.len,h.inc,h.rng,fun e a=>(h.tim e a).imp_right fun q=>⟨q.1,q.2.1,by omega⟩,h.ord,fun e a=>⟨by have:=(h.msg e a).1;omega,(h.msg e a).2⟩⟩
theorem CS.ok.sub {p:CP} {now:Int} {k:Nat} {s:CS} (h:s.ok p now k) {l:List CE} (hl:l.Sublist s.es):CS.ok p now k ⟨s.num,l⟩ :=
 ⟨h.now0,h.num,Nat.le_trans hl.length_le h.len,h.inc.sublist hl,fun e a=>h.rng e (hl.subset a),fun e a=>h.tim e (hl.subset a),h.ord.sublist hl,fun e a=>h.msg e (hl.subset a)⟩
theorem CS.ok0 (p:CP):CS.ok p 0 0 ⟨0,[]⟩:=⟨Int.le_refl _,Nat.le_refl _,Nat.zero_le _,.nil,by simp,by simp,.nil,by simp⟩
theorem Yn {p:CP} (hp:p.ok) {now:Int} {k:Nat} {s:CS} (h:s.ok p now k) {j:CI} (hj:j.ok k) (hn:now<=j.now):(Du p s j).st.ok p j.now (k+1):=by
 cases j with
 | msg m t =>
  have f:=h.up hn (Nat.le_succ k)
  have hn:now<=t:=hn
  simp only [Du]
  split
  ·exact f
  ·split
   ·exact f
   ·rename_i h1 h2
    refine ⟨f.now0,by have:=h.num;simp only;omega,by simp only [List.length_append,List.length_cons,List.length_nil];omega,?_,?_,?_,?_,?_⟩
    ·refine List.pairwise_append.2 ⟨h.inc,List.pairwise_singleton .., fun a g b l=>?_⟩
     rw [List.mem_singleton.1 l];have:=(h.rng a g).2;simp only;omega
    ·intro e he
     rcases List.mem_append.1 he with he | he
     ·have:=h.rng e he;simp only;omega
     ·rw [List.mem_singleton.1 he];simp only;omega
    ·intro e he
     rcases List.mem_append.1 he with he | he
     ·exact f.tim e he
     ·rw [List.mem_singleton.1 he]
      have:=hp.T0
      by_cases c:0<p.T
      ·rw [Ah c];have:=f.now0;simp only [CI.now] at this ⊢; exact .inr ⟨c,by omega,by omega⟩
      ·rw [Ai c];exact .inl ⟨by omega,rfl⟩
    ·refine List.pairwise_append.2 ⟨h.ord,List.pairwise_singleton .., fun a g b l=>?_⟩
     rw [List.mem_singleton.1 l]
     rcases h.tim a g with q | q
     ·simp only;rw [Aa];omega
     ·simp only;rw [Ah q.1];omega
    ·intro e he
     rcases List.mem_append.1 he with he | he
     ·exact f.msg e he
     ·rw [List.mem_singleton.1 he];obtain ⟨q1,q2⟩:=hj;exact ⟨by simp only;omega,q2⟩
 | rep i t c d u w =>
  have f:=h.up (p:=p) hn (Nat.le_succ k)
  simp only [Du]
  split
  ·exact f
  ·split
   ·exact f.sub List.filter_sublist
   ·split
    ·exact f.sub List.filter_sublist
    ·exact f.sub List.filter_sublist
 | clk i t=>exact (h.up hn (Nat.le_succ k)).sub List.filter_sublist
def ZZ (p:CP):CS->List CI->List CO
 | _,[]=>[]
 | s,j::l=>Du p s j::ZZ p (Du p s j).st l
end Go.Proofs.YtbfenpeblbonlaaGreatDoor
namespace Go.Ev
open Go Go.RowKit
def Mem.start:Mem:=⟨0,0,fun _=>0,fun _=>0,fun _=>0,fun _=>0,fun _=>0,fun _=>0,0,fun _=>0⟩
theorem Za8 (W:World):RelSt W Mem.start ⟨[],[],[]⟩ W where
 below := .refl _ _
 N:=rfl
 NR:=rfl
 top:=fun _ _=>rfl
 inj:=fun _ _ h=>absurd h (Nat.not_lt_zero _)
 box:=fun _ _ h=>by simp at h
 row:=fun _ _ h=>by simp at h
 rowinj:=fun _ _ h=>absurd h (Nat.not_lt_zero _)
 loop:=⟨rfl,fun _ _ h=>absurd h (Nat.not_lt_zero _),fun _ _ h=>by simp at h⟩
theorem Tt {P:Program} {f:FuncId} {W:World} {vals:Array Value} {args:List AV} {r:Value} (h:ACalls P W f args ⟨[],[],[]⟩ fun v st=>v = .val r/\st=⟨[],[],[]⟩) (hr:RowR W Mem.start W vals args) :
  Calls P f vals W fun e w'=>e = .returned r/\Below W.heap.size W w' :=
 (h.2 Mem.start W vals (Za8 W) hr).mono fun en w' ⟨v,M',a,st,h1,⟨h2,_⟩,_,h4,h5⟩=>by
  subst h2
  have:=h5.val_inv.1
  subst this
  exact ⟨h1,h4.below⟩
end Go.Ev
namespace Go.Proofs.YtbfenpeblbonlaaGreatDoor
open Go Go.Shelf Go.ChangeShapes Go.WideShapes Go.ChangeAt Go.RowKit Go.Lib Go.Ev
open Go.ChangeMaps (open_string shut_string)
set_option maxRecDepth 100000
theorem Zgx:ownKnob Tryz.prog.godebug=none:=by kernel_rfl
def ZlW:DataW Unit->List Value
 | .lit (.int k z)=>[.int k z]
 | .agg l=>l.flatMap fun | .lit (.int k z)=>[.int k z] | _=>[]
 | _=>[]
def ZlC:DataW Unit->List Value
 | .agg l=>l.flatMap ZlW
 | _=>[]
theorem UM {W:World} (h:Lib.VarReads Tryz.prog W Pm Rows.laid_internal_strconv_uint64pow10):Pow10 W:=by
 obtain ⟨g,t,cs,b,p,d,f,c,a⟩:=h
 obtain rfl:=Option.some.inj ((show Tryz.prog.globalNamed Pm=some 3 by kernel_rfl).symm.trans d)
 obtain rfl:=Option.some.inj ((show (Tryz.prog.globals[3]?).map (·.type)=some 322 by kernel_rfl).symm.trans f)
 have e:(Rows.laid_internal_strconv_uint64pow10:DataW Unit)=Lib.tabData .u64 Lib.pow10Tab:=by kernel_rfl
 rw [e] at a
 unfold Pow10 Lib.TabIs
 rw [c,<-Lib.cells_of_tab (n:=20) (k := .u64) (zs:=Lib.pow10Tab) Tryz.underlying322 Tryz.underlying276 (by kernel_rfl) (by kernel_rfl) a]
set_option maxRecDepth 100000
mutual
def Vl.wf:Vl->Prop
 | .mk k i s t l f=>BN k/\BN i/\BN s/\t.size<=maxLen/\l.length<=maxLen/\f.length<=maxLen/\ZlM l/\ZkS f
def ZlM:List Vl->Prop
 | []=>True
 | v::r=>v.wf/\ZlM r
def ZkS:List (ByteArray × Vl)->Prop
 | []=>True
 | (n,v)::r=>n.size<=maxLen/\v.wf/\ZkS r
end
mutual
def Ty.wf:Ty->Prop
 | .mk k lo hi s w e f=>BN k/\BN lo/\BN hi/\BN s/\(∀ x∈w,x.size<=maxLen)/\w.length<=maxLen/\e.length<=maxLen/\f.length<=maxLen/\Zmd e/\Zil f
def Zmd:List Ty->Prop
 | []=>True
 | v::r=>v.wf/\Zmd r
def Zil:List (Int × ByteArray × Int × Ty × List Vl)->Prop
 | []=>True
 | (n,s,d,t,l)::r=>(BN n/\s.size<=maxLen/\BN d/\t.wf/\l.length<=maxLen/\∀ v∈l,v.wf)/\Zil r
end
def Part.wf (p:Part):Prop:=BN p.kind/\BN p.index/\p.name.size<=maxLen
def Sch.wf (s:Sch):Prop:=s.name.size<=maxLen/\BN s.version/\s.type.wf
section
variable {H:Type} {enc:TypeId × Value->H} {W:World}
def RC (W:World) (cs:List Value) (xs:List AV):Prop:=cs.length=xs.length/\∀ i (h1:i<cs.length) (h2:i<xs.length),R W Mem.start W cs[i] xs[i]
theorem RC.nil:RC W [] []:=⟨rfl,fun i a=>absurd a (by simp)⟩
theorem RC.cons {v:Value} {x:AV} {cs:List Value} {xs:List AV} (h:R W Mem.start W v x) (k:RC W cs xs):RC W (v::cs) (x::xs):=⟨by simp [k.1],fun i a b=>by
 cases i with
 | zero=>exact h
 | succ i=>simpa using k.2 i (by simpa using a) (by simpa using b)⟩
theorem RC.agg {cs:List Value} {xs:List AV} (h:RC W cs xs) (h1:∀ x∈xs,x.one=true):R W Mem.start W (.agg cs.toArray) (.agg xs) := .agg (by simpa using h.1) h1 (fun i a b=>by simpa using h.2 i (by simpa using a) b)
noncomputable abbrev Td (enc:TypeId × Value->H) (W:World) (n:Nat) (t:TypeId) (cs:List Value):Option (DataW H × List MemPlace):=DataW.trod enc Tryz.prog W 0 (fun _=>true) true n t cs
theorem Rq (d:DataW H):1<=Rows.uptoBulk d:=by
 cases d with
 | lit l=>cases l<;>simp [Rows.uptoBulk]
 | _=>simp [Rows.uptoBulk]
theorem V4 {α:Type} (m:α->Nat):∀ (l:List α) (es:List (DataW H × List MemPlace)),l.length=es.length->(∀ i (h1:i<l.length) (h2:i<es.length),m l[i]<=Rows.uptoBulk es[i].1)->(l.map m).sum<=Rows.uptoBulkAll (es.map (·.1))
 | [],_,_,_=>by simp
 | y::r,[],h,_=>by simp at h
 | y::r,e::es,h,k=>by
  have a:=k 0 (by simp) (by simp)
  have:=V4 m r es (by simpa using h) (fun i h1 h2=>by have:=k (i+1) (by simpa using h1) (by simpa using h2);simpa using this)
  simp only [List.map_cons,List.sum_cons,Rows.uptoBulkAll,List.getElem_cons_zero] at a ⊢
  omega
theorem ZcN {α:Type} (f:α->AV) (p:α->Prop) (m:α->Nat) {t e:TypeId} {sz:Nat} (ht:Tryz.prog.underlying t=some (.slice e)) (hc:Tryz.prog.cellsOf e=sz) (hsz:0<sz) {n:Nat}
  (H0:∀ cs x,Td enc W n e cs=some x->∃ y u,p y/\u.cells.toList=cs/\R W Mem.start W u (f y)/\m y<=Rows.uptoBulk x.1) {cs:List Value} {x:DataW H × List MemPlace} (h:Td enc W (n+1) t cs=some x) :
  ∃ (l:List α) (v:Value),(∀ y∈l,p y)/\l.length<=maxLen/\cs=[v]/\R W Mem.start W v (.list (l.map f) .none)/\(l.map m).sum+1<=Rows.uptoBulk x.1:=by
 rcases DataW.trod_slice ht h with ⟨rfl,_⟩ | ⟨a,len,cap,elems,rest,n',hn,rfl,rfl,hb,hl,hm,hlen,hel,hsp,_⟩
 ·exact ⟨[],_,by simp,by simp,rfl,.nil (fun id=>by simp),by simpa using Rq x.1⟩
 ·cases hn
  by_cases hcap:cap=0
  ·subst hcap
   obtain rfl:len=0:=by omega
   exact ⟨[],_,by simp,by simp,rfl,.emp (fun id=>by simp),by simpa using Rq _⟩
  have hspot:a.spot=none:=by
   have get:∀ (c:DataW H × List MemPlace) (r:List Value->Option (DataW H × List MemPlace)),(W.cells? 0 (a.add (0*Tryz.prog.cellsOf e)) (Tryz.prog.cellsOf e)).bind r=some c->a.spot=none:=fun c r Z=>by
    obtain ⟨cs',E,_⟩:=Option.bind_eq_some_iff.1 Z
    obtain ⟨_,F,D⟩:=World.cells?_some E
    have h4:=D 0 (by omega)
    rw [List.getElem?_eq_getElem (by omega)] at h4
    have Y:(a.add (0*Tryz.prog.cellsOf e)).add 0=a:=by simp [Addr.add]
    rw [Y] at h4
    unfold World.cell? at h4
    split at h4
    ·split at h4
     ·cases h4
     ·rename_i q;simpa using q
    ·cases h4
   by_cases h0:0<len
   ·have:=hel 0 h0
    rw [List.getElem?_eq_getElem (by omega)] at this
    exact get _ _ this
   ·obtain ⟨E,F⟩:=hsp rfl
    have:=F 0 (by omega)
    rw [List.getElem?_eq_getElem (by omega)] at this
    obtain rfl:len=0:=by omega
    exact get _ _ this
  obtain ⟨b,off,sp⟩:=a
  simp only at hspot
  subst hspot
  have C:∀ i,i<len->∃ y u,p y/\R W Mem.start W u (f y)/\(∀ h:i<elems.length,m y<=Rows.uptoBulk elems[i].1)/\u.cells.size=sz/\∀ j,j<sz->W.cell? ⟨b,off+i*sz+j,none⟩=u.cells[j]? := fun i k=>by
   have E:=hel i k
   rw [List.getElem?_eq_getElem (by omega)] at E
   obtain ⟨cs',F,D⟩:=Option.bind_eq_some_iff.1 E
   obtain ⟨y,u,h4,V,h6,K⟩:=H0 _ _ D
   obtain ⟨_,O,Q⟩:=World.cells?_some F
   rw [hc] at O Q
   refine ⟨y,u,h4,h6,fun _=>K,by rw [<-O,<-V,Array.length_toList],fun j G=>?_⟩
   have:=Q j G
   rw [<-V,Array.getElem?_toList] at this
   rw [<-this]
   congr 1
   have U:∀ (o m:Nat),(⟨b,o,none⟩:Addr).add m=⟨b,o+m,none⟩:=fun o m=>by unfold Addr.add;split<;>simp_all
   rw [U,U]
  classical
  let y:Nat->Option (α × Value):=fun i=>if k:i<len then some (Classical.choose (C i k),Classical.choose (Classical.choose_spec (C i k))) else none
  have N:len=0\/Nonempty (α × Value):=by
   by_cases h0:0<len
   ·obtain ⟨z,u,_⟩:=C 0 h0;exact .inr ⟨(z,u)⟩
   ·exact .inl (by omega)
  rcases N with h0 | ⟨⟨d⟩⟩
  ·subst h0
   exact ⟨[],_,by simp,by simp,rfl,.list (xs:=[]) 0 (fun _=>undef) (Nat.zero_le _) hm (fun i k=>absurd k (by simp)) (fun i k=>absurd k (by simp)) trivial,by simpa using Rq _⟩
  ·let g:Nat->α × Value:=fun i=>if k:i<len then (Classical.choose (C i k),Classical.choose (Classical.choose_spec (C i k))) else d
   have J:∀ i,i<len->p (g i).1/\R W Mem.start W (g i).2 (f (g i).1)/\(∀ h:i<elems.length,m (g i).1<=Rows.uptoBulk elems[i].1)/\(g i).2.cells.size=sz/\∀ j,j<sz->W.cell? ⟨b,off+i*sz+j,none⟩=(g i).2.cells[j]? := fun i k=>by
    have:=Classical.choose_spec (Classical.choose_spec (C i k))
    simp only [g,dif_pos k]
    exact this
   have s:(((List.range len).map fun i=>(g i).1).map f).length=len:=by simp
   refine ⟨(List.range len).map fun i=>(g i).1,.slice (some ⟨b,off,none⟩) len cap,fun z hz=>?_,by simp;omega,rfl,?_,?_⟩
   ·obtain ⟨i,k,rfl⟩:=List.mem_map.1 hz
    exact (J i (by simpa using k)).1
   ·have:=Ev.R.list (w0:=W) (M:=Ev.Mem.start) (w:=W) (b:=b) (off:=off) (cap:=cap) (xs:=((List.range len).map fun i=>(g i).1).map f) (o := .none) sz (fun i=>(g i).2) (by rw [s];exact hl) hm
     (fun i k=>by
      rw [s] at k
      obtain ⟨_,_,_,D,h4⟩:=J i k
      refine ⟨D,fun j G=>⟨.inl ?_,h4 j G⟩⟩
      have:=h4 j G
      rw [Array.getElem?_eq_getElem (by rw [D];exact G)] at this
      exact World.block_lt_of_cell? W _ this) (fun i k=>by
      rw [s] at k
      simp only [List.getElem_map,List.getElem_range]
      exact (J i k).2.1) trivial
    rw [s] at this
    exact this
   ·have:=V4 m ((List.range len).map fun i=>(g i).1) elems (by simp;omega) (fun i E F=>by
     simp only [List.getElem_map,List.getElem_range]
     exact (J i (by omega)).2.2.1 F)
    simp only [Rows.uptoBulk]
    omega
end
section
variable {H:Type} {enc:TypeId × Value->H} {W:World} {base:Nat} {v:Value} {d:DataW H} {p:List MemPlace}
theorem Zjk {t:TypeId} {fs:Array Field} (ht:Tryz.prog.underlying t=some (.struct fs)) (hv:Value.okWide Tryz.prog W .any base t v):∃ cs,v = .agg cs:=by
 unfold Value.okWide at hv
 rw [ht] at hv
 obtain ⟨cs,h,_⟩:=hv
 exact ⟨cs,h⟩
end
end Go.Proofs.YtbfenpeblbonlaaGreatDoor
namespace Go.Proofs.YtbfenpeblbonlaaGreatDoor
open Go Go.RowKit Go.Ev
theorem Bj {α:Type} {l:List α} {k:Nat} (h:k<l.length):Dw l (k:Int)=some l[k]:=Zjc h
theorem A4 {a b:Nat}:decide ((a:Int)<(b:Int))=decide (a<b):=by simp
theorem A8 {k:Nat} (h:k<1000000000000):BN ((k:Int)+1):=by unfold BN;omega
theorem Ty.size_pos (t:Ty):0<t.size:=by cases t;simp [Ty.size];omega
theorem Ty.size_eq (t:Ty):t.size=1+Zv t.elem+O2 t.fields:=by cases t;simp [Ty.size,Ty.elem,Ty.fields]
theorem Ti:∀ (l:List (Int × ByteArray × Int × Ty × List Vl)) (p:Int × ByteArray × Int × Ty × List Vl),p∈l->p.2.2.2.1.size<=O2 l
 | [],_,h=>by simp at h
 | (a,b,c,t,d)::r,p,h=>by
  rcases List.mem_cons.1 h with rfl | h
  ·simp [O2]
  ·have:=Ti r p h
   simp [O2];omega
theorem Ty.field_size (t:Ty) (p) (h:p∈t.fields):p.2.2.2.1.size<t.size:=by have:=Ti _ _ h;have:=t.size_eq;omega
theorem Vl.list_size (v x:Vl) (h:x∈v.list):x.size<v.size:=by have:=NB _ _ h;have:=v.size_eq;omega
theorem Vl.field_size (v:Vl) (p) (h:p∈v.fields):p.2.size<v.size:=by have:=NG _ _ h;have:=v.size_eq;omega
mutual
def Ty.depth:Ty->Nat
 | .mk _ _ _ _ _ e f=>1+max (Xr e) (Vk f)
def Xr:List Ty->Nat
 | []=>0
 | t::r=>max t.depth (Xr r)
def Vk:List (Int × ByteArray × Int × Ty × List Vl)->Nat
 | []=>0
 | (_,_,_,t,_)::r=>max t.depth (Vk r)
end
mutual
def Vl.ok:Vl->Prop
 | .mk _ _ _ t l f=>t.size<=1048576/\ZlR l/\ZkY f
def ZlR:List Vl->Prop
 | []=>True
 | v::r=>v.ok/\ZlR r
def ZkY:List (ByteArray × Vl)->Prop
 | []=>True
 | (n,v)::r=>n.size<=1048576/\v.ok/\ZkY r
end
def Vl.small (v:Vl):Prop:=v.size<=1048575/\v.depth<=1048576/\v.ok
mutual
def Ty.ok:Ty->Prop
 | .mk _ _ _ _ w e f=>w.length<=1048576/\(∀ x∈w,x.size<=1048576)/\Zk9 e/\ZhY f
def Zk9:List Ty->Prop
 | []=>True
 | v::r=>v.ok/\Zk9 r
def ZhY:List (Int × ByteArray × Int × Ty × List Vl)->Prop
 | []=>True
 | (_,n,_,t,d)::r=>(n.size<=1048576/\t.ok/\d.length<=1048576/\∀ v∈d,v.small)/\ZhY r
end
theorem Ty.depth_eq (t:Ty):t.depth=1+Max.max (Xr t.elem) (Vk t.fields):=by cases t;simp [Ty.depth,Ty.elem,Ty.fields]
theorem Vl.eta (v:Vl):Vl.mk v.kind v.int v.scale v.text v.list v.fields=v:=by cases v;rfl
theorem Ty.eta (v:Ty):Ty.mk v.kind v.min v.max v.scale v.words v.elem v.fields=v:=by cases v;rfl
theorem UQ (rec:Vl->Option Vl) (n:Nat) (v:Vl) (hs:v.fields.length<=1000000000000) (hr:∀ p∈v.fields,rec p.2=some p.2) (b:List Vl):∀ (k m i:Nat),i+k=v.fields.length->k<m->Hm rec n v m i b (v.fields.take i)=some (Vl.mk v.kind v.int v.scale v.text b v.fields)
 | k,0,i,_,h=>absurd h (Nat.not_lt_zero _)
 | 0,m+1,i,hi,_=>by
  rw [Hm,A4,Ac]
  simp only [Bool.false_eq_true,if_false,LA]
  rw [List.take_of_length_le (by omega)]
 | k+1,m+1,i,hi,hm=>by
  have a:i<v.fields.length:=by omega
  rw [Hm,A4,Ag a]
  simp only [if_true,Bj a,Ae,hr _ (List.getElem_mem a)]
  rw [Ah (by rw [List.length_take];omega),Ah (A8 (by omega))]
  have e:v.fields.take i++[(v.fields[i].1,v.fields[i].2)]=v.fields.take (i+1):=by rw [List.take_succ_eq_append_getElem a]
  rw [e]
  exact UQ rec n v hs hr b k m (i+1) (by omega) (by omega)
theorem Ws (rec:Vl->Option Vl) (n:Nat) (v:Vl) (hs:v.fields.length<=1000000000000/\v.list.length<=1000000000000) (hn:v.fields.length<n) (hr:(∀ x∈v.list,rec x=some x)/\∀ p∈v.fields,rec p.2=some p.2):∀ (k m i:Nat),i+k=v.list.length->k<m->Ic rec n v m i (v.list.take i)=some v
 | k,0,i,_,h=>absurd h (Nat.not_lt_zero _)
 | 0,m+1,i,hi,_=>by
  rw [Ic,A4,Ac]
  simp only [Bool.false_eq_true,if_false,Np]
  rw [List.take_of_length_le (by omega)]
  have:=UQ rec n v hs.1 hr.2 v.list v.fields.length n 0 (by omega) hn
  rw [List.take_zero] at this
  exact this.trans (by rw [Vl.eta])
 | k+1,m+1,i,hi,hm=>by
  have a:i<v.list.length:=by omega
  rw [Ic,A4,Ag a]
  simp only [if_true,Bj a,Ae,hr.1 _ (List.getElem_mem a)]
  rw [Ah (by rw [List.length_take];omega),Ah (A8 (by omega))]
  have e:v.list.take i++[v.list[i]]=v.list.take (i+1):=by rw [List.take_succ_eq_append_getElem a]
  rw [e]
  exact Ws rec n v hs hn hr k m (i+1) (by omega) (by omega)
theorem Qd:∀ (n:Nat) (v:Vl),v.size<n->v.wide=true->B8 n v=some v
 | 0,v,h,_=>absurd h (Nat.not_lt_zero _)
 | n+1,v,h,hs=>by
  have g:=SC v
  obtain ⟨f,e,d,c⟩:=v.wide_iff.1 hs
  rw [B8,Pq]
  have:=Ws (B8 n) n v ⟨by omega,by omega⟩ (by omega) ⟨fun x b=>Qd n x (by have:=v.list_size x b;omega) (d x b),fun p a=>Qd n p.2 (by have:=v.field_size p a;omega) (c p a)⟩ v.list.length n 0 (by omega) (by omega)
  rw [List.take_zero] at this
  exact this
theorem O0 (n:Nat) (v:Vl) (h:v.size<n) (hs:v.size<=1000000000):B8 n v=some v:=Qd n v h (M5 _ v (Nat.le_refl _) (by omega))
abbrev TF:=Int × ByteArray × Int × Ty × List Vl
theorem ZL {a b:ByteArray} (h:a.data.toList=b.data.toList):a=b:=by
 cases a;cases b;simp at h;rw [h]
theorem Vl.ext' {a b:Vl} (h1:a.kind=b.kind) (h2:a.int=b.int) (h3:a.scale=b.scale) (h4:a.text=b.text) (h5:a.list=b.list) (h6:a.fields=b.fields):a=b:=by
 rw [<-a.eta,<-b.eta,h1,h2,h3,h4,h5,h6]
theorem TF.ext' {p q:TF} (h1:p.1=q.1) (h2:p.2.1=q.2.1) (h3:p.2.2.1=q.2.2.1) (h4:p.2.2.2.1=q.2.2.2.1) (h5:p.2.2.2.2=q.2.2.2.2):p=q:=by
 obtain ⟨a,b,c,d,e⟩:=p
 obtain ⟨h,g,j,f,i⟩:=q
 simp only at h1 h2 h3 h4 h5
 rw [h1,h2,h3,h4,h5]
theorem Ty.ext' {a b:Ty} (h1:a.kind=b.kind) (h2:a.min=b.min) (h3:a.max=b.max) (h4:a.scale=b.scale) (h5:a.words=b.words) (h6:a.elem=b.elem) (h7:a.fields=b.fields):a=b:=by
 rw [<-a.eta,<-b.eta,h1,h2,h3,h4,h5,h6,h7]
def L6 (n:Nat)  : Option Int :=
 some (0)
def Ec (n:Nat) (h:List Int):Nat->Int->Option Int
 | 0,_=>none
 | m+1,b =>
  if decide (b<(h.length:Int)) then
   (Dw h b).bind fun g =>
   if !(decide (g=0)) then
    some (g)
   else
    if BN (b+1) then
     (Ec n h m) (b+1)
    else none
  else
   L6 n 
def EJ (n:Nat) (b:List Int):Option Int :=
 Ec n b n 0
theorem Md (w0:World) (n:Nat) (B:Ao) (Rw:Ap) (L:Aq) (a0:List Int) (r:Int) (h:EJ n a0=some r) :
  ACalls Tryz.prog w0 52 [.list (a0.map Ci) .none] ⟨B,Rw,L⟩ fun x st=>x=Ak r/\st=⟨B,Rw,L⟩:=by
 rw [EJ] at h
 refine hd [.tmp 2] Tryz.func52 Tryz.ntmps52 fun M0 W0 j f g b k d hs=>?_
 simp only [Ax]
 refine rg [0] hs ?_
 refine rg [0,3] hs ?_
 refine AD (fun e st=>Ck e st B Rw L [(3,true,Ak 0)] [] [] (L6 n  = some r)) ?_ ?_
 ·intro K5 i
  refine rg [3,6,7,8] hs ?_
  apply Ar
  refine AA (fun m e st=>∃ (c:Int),Ck e st B Rw L [(3,true,Ak 0),(6,true,.list (a0.map Ci) .none),(7,true,Ak (a0.length:Int)),(8,true,Ak c)] [] [] (Ec n a0 m c=some r)) n ⟨0,([]),Rw,ef hs,ef hs,d,h⟩ ?_
  rintro ml7 e st ⟨c,Xl7,Rl7,rfl,rfl,d,h⟩ Ul7 Vl7
  cases ml7 with
  | zero=>cases h
  | succ ml7 =>
  rw [Ec] at h
  exact go (tg (a:=([3,6,7,8,9],([3,6,7,8],[3,5,6,7,8],[3,5,6,7,8,14],([2],()),[3,6,7,8],[3,6,7,8],()),[3],()))) h hs j f g b d trivial (q2 i (fun e s=>Vl7 ml7 e s (Nat.lt_succ_self _)))
 ·clear h;rintro e st ⟨Xk4,Rk4,rfl,rfl,d,h⟩
  rw [L6] at h
  refine td j f g b d ?_
  refine rg [2] hs ?_
  exact rt h hs b d
def Et (n:Nat) (b:List (ByteArray × Vl)) (g:List (ByteArray × Vl)):Option Int :=
 if decide ((b.length:Int)<(g.length:Int)) then
  some ((-1))
 else
  some (0)
def BQ (n:Nat) (h:List (ByteArray × Vl)) (q:List (ByteArray × Vl)) (a2:(ByteArray × Vl)->(ByteArray × Vl)->Option Int):Nat->Int->Option Int
 | 0,_=>none
 | m+1,b =>
  if decide (b<(h.length:Int)) then
   (Dw h b).bind fun y =>
   if decide ((q.length:Int)<=b) then
    some (1)
   else
    (Dw q b).bind fun x18 =>
    (a2 y x18).bind fun g =>
    if !(decide (g=0)) then
     some (g)
    else
     if BN (b+1) then
      (BQ n h q a2 m) (b+1)
     else none
  else
   Et n h q 
def DL (n:Nat) (b:List (ByteArray × Vl)) (g:List (ByteArray × Vl)) (h:(ByteArray × Vl)->(ByteArray × Vl)->Option Int):Option Int :=
 BQ n b g h n 0
theorem ME (w0:World) (n:Nat) (B:Ao) (Rw:Ap) (L:Aq) (a0:List (ByteArray × Vl)) (a1:List (ByteArray × Vl)) (fa2:FuncId) (ca2:List AV) (a2:(ByteArray × Vl)->(ByteArray × Vl)->Option Int) (ha2:∀ (x0:ByteArray × Vl) (x1:ByteArray × Vl) r,a2 x0 x1=some r->∀ B' rows,B <+: B'->Rw <+: rows->ACalls Tryz.prog w0 fa2 ([.agg (.val (.string x0.1)::(x0.2.cs)),.agg (.val (.string x1.1)::(x1.2.cs))]++ca2) ⟨B',rows,L⟩ fun v s=>v=Ak r/\s=⟨B',rows,L⟩) (r:Int) (h:DL n a0 a1 a2=some r) :
  ACalls Tryz.prog w0 106 [.list (a0.map Di) .none,.list (a1.map Di) .none,.clo fa2 ca2] ⟨B,Rw,L⟩ fun x st=>x=Ak r/\st=⟨B,Rw,L⟩:=by
 rw [DL] at h
 refine hd [.tmp 6] Tryz.func106 Tryz.ntmps106 fun M0 W0 j g i c l f hs=>?_
 simp only [Ax]
 have b:=Cc (l (.clo fa2 ca2) (by simp))
 refine rg [0,1,2] hs ?_
 refine AD (fun e st=>Ck e st B Rw L [(0,true,.list (a0.map Di) .none),(1,true,.list (a1.map Di) .none)] [] [] (Et n a0 a1  = some r)) ?_ ?_
 ·intro K4 k
  refine rg [0,1,2,11,12,13] hs ?_
  apply Ar
  refine AA (fun m e st=>∃ (d:Int),Ck e st B Rw L [(0,true,.list (a0.map Di) .none),(1,true,.list (a1.map Di) .none),(2,true,.clo fa2 ca2),(11,true,.list (a0.map Di) .none),(12,true,Ak (a0.length:Int)),(13,true,Ak d)] [] [] (BQ n a0 a1 a2 m d=some r)) n ⟨0,([]),Rw,ef hs,ef hs,f,h⟩ ?_
  rintro ml6 e st ⟨d,Xl6,Rl6,rfl,rfl,f,h⟩ Ul6 Vl6
  cases ml6 with
  | zero=>cases h
  | succ ml6 =>
  rw [BQ] at h
  refine AO j g i rfl c f (H8 b f) (H8 b f) ?_
  exact go (tg (a:=([0,1,2,11,12,13,14],([0,1,2,11,12,13],[0,1,2,7,8,11,12,13],[0,1,2,7,8,11,12,13,21],([6],()),[0,1,2,7,8,11,12,13],[0,1,2,8,9,11,12,13],[0,1,2,10,11,12,13],[0,1,2,10,11,12,13,31],([6],()),[0,1,2,11,12,13],[0,1,2,11,12,13],()),[0,1],()))) h hs j g i c f (q1 ha2) (q2 k (fun e s=>Vl6 ml6 e s (Nat.lt_succ_self _)))
 ·clear h;rintro e st ⟨Xk3,Rk3,rfl,rfl,f,h⟩
  rw [Et] at h
  refine AO j g i rfl c f (H8 b f) (H8 b f) ?_
  exact go (tg (a:=([38],([6],()),[],[6],()))) h hs j g i c f trivial trivial
def Ew (n:Nat) (b:List Vl) (g:List Vl):Option Int :=
 if decide ((b.length:Int)<(g.length:Int)) then
  some ((-1))
 else
  some (0)
def BR (n:Nat) (h:List Vl) (q:List Vl) (a2:Vl->Vl->Option Int):Nat->Int->Option Int
 | 0,_=>none
 | m+1,b =>
  if decide (b<(h.length:Int)) then
   (Dw h b).bind fun y =>
   if decide ((q.length:Int)<=b) then
    some (1)
   else
    (Dw q b).bind fun x18 =>
    (a2 y x18).bind fun g =>
    if !(decide (g=0)) then
     some (g)
    else
     if BN (b+1) then
      (BR n h q a2 m) (b+1)
     else none
  else
   Ew n h q 
def DD (n:Nat) (b:List Vl) (g:List Vl) (h:Vl->Vl->Option Int):Option Int :=
 BR n b g h n 0
theorem MU (w0:World) (n:Nat) (B:Ao) (Rw:Ap) (L:Aq) (a0:List Vl) (a1:List Vl) (fa2:FuncId) (ca2:List AV) (a2:Vl->Vl->Option Int) (ha2:∀ (x0:Vl) (x1:Vl) r,a2 x0 x1=some r->∀ B' rows,B <+: B'->Rw <+: rows->ACalls Tryz.prog w0 fa2 ([.agg (x0.cs),.agg (x1.cs)]++ca2) ⟨B',rows,L⟩ fun v s=>v=Ak r/\s=⟨B',rows,L⟩) (r:Int) (h:DD n a0 a1 a2=some r) :
  ACalls Tryz.prog w0 105 [.list (a0.map En) .none,.list (a1.map En) .none,.clo fa2 ca2] ⟨B,Rw,L⟩ fun x st=>x=Ak r/\st=⟨B,Rw,L⟩:=by
 rw [DD] at h
 refine hd [.tmp 6] Tryz.func105 Tryz.ntmps105 fun M0 W0 j g i c l f hs=>?_
 simp only [Ax]
 have b:=Cc (l (.clo fa2 ca2) (by simp))
 refine rg [0,1,2] hs ?_
 refine AD (fun e st=>Ck e st B Rw L [(0,true,.list (a0.map En) .none),(1,true,.list (a1.map En) .none)] [] [] (Ew n a0 a1  = some r)) ?_ ?_
 ·intro K4 k
  refine rg [0,1,2,11,12,13] hs ?_
  apply Ar
  refine AA (fun m e st=>∃ (d:Int),Ck e st B Rw L [(0,true,.list (a0.map En) .none),(1,true,.list (a1.map En) .none),(2,true,.clo fa2 ca2),(11,true,.list (a0.map En) .none),(12,true,Ak (a0.length:Int)),(13,true,Ak d)] [] [] (BR n a0 a1 a2 m d=some r)) n ⟨0,([]),Rw,ef hs,ef hs,f,h⟩ ?_
  rintro ml6 e st ⟨d,Xl6,Rl6,rfl,rfl,f,h⟩ Ul6 Vl6
  cases ml6 with
  | zero=>cases h
  | succ ml6 =>
  rw [BR] at h
  refine AO j g i rfl c f (H8 b f) (H8 b f) ?_
  exact go (tg (a:=([0,1,2,11,12,13,14],([0,1,2,11,12,13],[0,1,2,7,8,11,12,13],[0,1,2,7,8,11,12,13,21],([6],()),[0,1,2,7,8,11,12,13],[0,1,2,8,9,11,12,13],[0,1,2,10,11,12,13],[0,1,2,10,11,12,13,31],([6],()),[0,1,2,11,12,13],[0,1,2,11,12,13],()),[0,1],()))) h hs j g i c f (q1 ha2) (q2 k (fun e s=>Vl6 ml6 e s (Nat.lt_succ_self _)))
 ·clear h;rintro e st ⟨Xk3,Rk3,rfl,rfl,f,h⟩
  rw [Ew] at h
  refine AO j g i rfl c f (H8 b f) (H8 b f) ?_
  exact go (tg (a:=([38],([6],()),[],[6],()))) h hs j g i c f trivial trivial
def FX (rec:Vl->Vl->Option Int) (n:Nat) (g:ByteArray × Vl) (b:ByteArray × Vl):Option Int :=
 (rec g.2 b.2).bind fun q =>
 (EJ n ([VV g.1 b.1,q])).bind fun h =>
 some (h)
theorem U1 (w0:World) (rec:Vl->Vl->Option Int) (ih:∀ (B:Ao) (Rw:Ap) (L:Aq) (a0:Vl) (a1:Vl) (r:Int) (h:rec a0 a1=some r),ACalls Tryz.prog w0 74 [.agg (a0.cs),.agg (a1.cs)] ⟨B,Rw,L⟩ fun x st=>x=Ak r/\st=⟨B,Rw,L⟩) (n:Nat) (B:Ao) (Rw:Ap) (L:Aq) (a0:ByteArray × Vl) (a1:ByteArray × Vl) (r:Int) (h:FX rec n a0 a1=some r) :
  ACalls Tryz.prog w0 107 [.agg (.val (.string a0.1)::(a0.2.cs)),.agg (.val (.string a1.1)::(a1.2.cs))] ⟨B,Rw,L⟩ fun x st=>x=Ak r/\st=⟨B,Rw,L⟩:=by
 rw [FX] at h
 refine hd [.tmp 4] Tryz.func107 Tryz.ntmps107 fun M0 W0 f c d b g e hs=>?_
 simp only [Ax]
 exact go (tg (a:=([2,3],[13,4],()))) h hs f c d b e (q3 (QD w0) ih (Md w0 n)) trivial
def Ip (rec:Vl->Vl->Option Int) (n:Nat) (b:Vl) (g:Vl):Option Int :=
 (DD n b.list g.list (fun (h:Vl) (q:Vl)=>rec h q)).bind fun y3 =>
 (DL n b.fields g.fields (fun (h:ByteArray × Vl) (q:ByteArray × Vl)=>FX rec n h q)).bind fun y4 =>
 (EJ n ([if b.kind<g.kind then -1 else if b.kind=g.kind then 0 else 1,if b.int<g.int then -1 else if b.int=g.int then 0 else 1,if b.scale<g.scale then -1 else if b.scale=g.scale then 0 else 1,VV b.text g.text,y3,y4])).bind fun y =>
 some (y)
def CB:Nat->Vl->Vl->Option Int
 | 0,_,_=>none
 | n+1,b,g=>Ip (CB n) n b g
def Oy (w0:World) (F:Vl->Vl->Option Int):Prop:=∀ (B:Ao) (Rw:Ap) (L:Aq) (b:Vl) (g:Vl) (r:Int),F b g=some r->ACalls Tryz.prog w0 74 [.agg (b.cs),.agg (g.cs)] ⟨B,Rw,L⟩ fun x st=>x=Ak r/\st=⟨B,Rw,L⟩
theorem U3 (w0:World) (rec:Vl->Vl->Option Int) (ih:Oy w0 rec) (n:Nat):Oy w0 (Ip rec n):=by
 intro B Rw L a0 a1 r h
 rw [Ip] at h
 refine hd [.tmp 4] Tryz.func74 Tryz.ntmps74 fun M0 W0 o g i c t s hs=>?_
 simp only [Ax]
 refine rg [2,3] hs ?_
 obtain ⟨w,l,h⟩:=bind_some h
 obtain ⟨v,m,h⟩:=bind_some h
 obtain ⟨u,p,h⟩:=bind_some h
 apply Am;intro K2 j
 refine dk 33 8 1 [4] (al hs) G6 ?_
 refine Av _ (I7 w0 _ _ _ a0.kind a1.kind) (hv (al hs)) ?_
 refine nc (al hs) ?_
 refine Av _ (I7 w0 _ _ _ a0.int a1.int) (hv (al hs)) ?_
 refine nc (al hs) ?_
 refine Av _ (I7 w0 _ _ _ a0.scale a1.scale) (hv (al hs)) ?_
 refine nc (al hs) ?_
 refine Av _ (QD w0 _ _ _ a0.text a1.text) (hv (al hs)) ?_
 refine nc (al hs) ?_
 refine Av _ (MU w0 n _ _ _ a0.list a1.list 74 [] (fun (b:Vl) (d:Vl)=>rec b d) (fun b d r e q rows' k f=>by exact ih _ _ _ b d _ e) _ l) (hv (al hs)) ?_
 refine nc (al hs) ?_
 refine Av _ (ME w0 n _ _ _ a0.fields a1.fields 107 [] (fun (b:ByteArray × Vl) (d:ByteArray × Vl)=>FX rec n b d) (fun b d r e q rows' k f=>by exact U1 w0 rec ih n _ _ _ b d _ e) _ m) (hv (al hs)) ?_
 exact go (tg (a:=((),()))) h (al hs) o g i c s (q1 (Md w0 n)) (q1 j)
theorem Nr (w0:World):∀ n:Nat,Oy w0 (CB n)
 | 0=>fun _ _ _ _ _ _ h=>(nomatch h)
 | n+1=>U3 w0 (CB n) (Nr w0 n) n
def F8 (n:Nat) (h:Slt) (b:List Msg) (g:List Vl):Option Slt :=
 (B8 n h.key).bind fun q =>
 some (Slt.mk q h.number h.time b g)
def C4 (n:Nat) (q:Slt):Nat->(List Msg)->(List Vl)->Int->Option Slt
 | 0,_,_,_=>none
 | m+1,h,g,b =>
  if decide (b<(q.values.length:Int)) then
   (Dw q.values b).bind fun x35 =>
   (B8 n x35).bind fun y =>
   if (g.length+1)*88<=140737488355328/\g.length+1<=4611686018427387904 then
    if BN (b+1) then
     (C4 n q m) h (g++([y])) (b+1)
    else none
   else none
  else
   F8 n q h g
def GL (n:Nat) (g:Slt) (b:List Msg):Option Slt :=
 if 0<=(g.values.length:Int)/\(g.values.length:Int)*88<=140737488355328/\(g.values.length:Int)<=4611686018427387904 then
  C4 n g n b ([]) 0
 else none
def Dl (n:Nat) (h:Slt):Nat->(List Msg)->Int->Option Slt
 | 0,_,_=>none
 | m+1,g,b =>
  if decide (b<(h.items.length:Int)) then
   (Dw h.items b).bind fun y =>
   (DV n y).bind fun q =>
   if (g.length+1)*152<=140737488355328/\g.length+1<=4611686018427387904 then
    if BN (b+1) then
     (Dl n h m) (g++([q])) (b+1)
    else none
   else none
  else
   GL n h g
def Cf (n:Nat) (b:Slt):Option Slt :=
 if 0<=(b.items.length:Int)/\(b.items.length:Int)*152<=140737488355328/\(b.items.length:Int)<=4611686018427387904 then
  Dl n b n ([]) 0
 else none
theorem EM (w0:World) (n:Nat) (B:Ao) (Rw:Ap) (L:Aq) (a0:Slt) (r:Slt) (h:Cf n a0=some r) :
  ACalls Tryz.prog w0 59 [.agg (O4 a0)] ⟨B,Rw,L⟩ fun x st=>x = .agg (O4 r)/\st=⟨B,Rw,L⟩:=by
 rw [Cf] at h
 refine hd [.cell 2 92] Tryz.func59 Tryz.ntmps59 fun M0 W0 D y z g U t hs=>?_
 simp only [Ax]
 refine rg [1,2] hs ?_
 obtain ⟨Q,h⟩:=Au h
 have t:=t.make 10 0
 refine rg [1,2,3] hs ?_
 refine AD (fun e st=>∃ (l:List Msg) (k:Ev.Own),Ck e st B Rw L [(1,true,.box B.length 0),(2,true,.box (B.length+1) 0),(3,true,.list (l.map Dn) k)] [O4 a0,[Ak 0,Ak 0,Ak 0,.val (.string (⟨#[]⟩:ByteArray)),.list ([]) .full,.list ([]) .full,Ak 0,Ak 0,.list ([]) .full,.list ([]) .full]] [(10,l.length,k)] (GL n a0 l=some r)) ?_ ?_
 ·intro K7 G
  refine rg [1,2,3,14,15,16] hs ?_
  apply Ar
  refine AA (fun m e st=>∃ (w:List Msg) (u:Int) (v:Ev.Own),Ck e st B Rw L [(1,true,.box B.length 0),(2,true,.box (B.length+1) 0),(3,true,.list (w.map Dn) v),(14,true,.list (a0.items.map Dn) .none),(15,true,Ak (a0.items.length:Int)),(16,true,Ak u)] [O4 a0,[Ak 0,Ak 0,Ak 0,.val (.string (⟨#[]⟩:ByteArray)),.list ([]) .full,.list ([]) .full,Ak 0,Ak 0,.list ([]) .full,.list ([]) .full]] [(10,w.length,v)] (Dl n a0 m w u=some r)) n ⟨([]),0,((.row Rw.length)),([]),((Rw++[.grow 0 10])),ef hs,ef hs,Owns.of_eq (t) Fh,h⟩ ?_
  rintro ml9 e st ⟨w,u,v,Xl9,Rl9,rfl,rfl,t,h⟩ Ul9 Vl9
  cases ml9 with
  | zero=>cases h
  | succ ml9 =>
  rw [Dl] at h
  exact go (tg (a:=([1,2,3,14,15,16,17],([1,2,3,14,15,16],[1,2,3,5,14,15,16],[1,2,3,14,15,16],[1,2,3,14,15,16],()),[1,2,3],()))) h hs D y z g t (q2 (ae Z8 U4) (Gk w0 n)) (q2 G (fun e s=>Vl9 ml9 e s (Nat.lt_succ_self _)))
 ·clear h;rintro e st ⟨l,k,Xk6,Rk6,rfl,rfl,t,h⟩
  rw [GL] at h
  have C:=t.unders
  simp only [List.mem_cons,List.not_mem_nil,or_false,forall_eq_or_imp,forall_eq] at C
  refine td D y z g t ?_
  obtain ⟨N,h⟩:=Au h
  have t:=t.make 6 0
  refine rg [1,2,3,6] hs ?_
  refine AD (fun e st=>∃ (j:List Msg) (i:List Vl) (p:Ev.Own) (q:Ev.Own),Ck e st B Rw L [(1,true,.box B.length 0),(2,true,.box (B.length+1) 0),(3,true,.list (j.map Dn) p),(6,true,.list (i.map En) q)] [O4 a0,[Ak 0,Ak 0,Ak 0,.val (.string (⟨#[]⟩:ByteArray)),.list ([]) .full,.list ([]) .full,Ak 0,Ak 0,.list ([]) .full,.list ([]) .full]] [(10,j.length,p),(6,i.length,q)] (F8 n a0 j i=some r)) ?_ ?_
  ·intro K27 E
   refine rg [1,2,3,6,31,32,33] hs ?_
   apply Ar
   refine AA (fun m e st=>∃ (b:List Msg) (d:List Vl) (o:Int) (c:Ev.Own) (f:Ev.Own),Ck e st B Rw L [(1,true,.box B.length 0),(2,true,.box (B.length+1) 0),(3,true,.list (b.map Dn) c),(6,true,.list (d.map En) f),(31,true,.list (a0.values.map En) .none),(32,true,Ak (a0.values.length:Int)),(33,true,Ak o)] [O4 a0,[Ak 0,Ak 0,Ak 0,.val (.string (⟨#[]⟩:ByteArray)),.list ([]) .full,.list ([]) .full,Ak 0,Ak 0,.list ([]) .full,.list ([]) .full]] [(10,b.length,c),(6,d.length,f)] (C4 n a0 m b d o=some r)) n ⟨l,([]),0,k,((.row Rk6.length)),([]),((Rk6++[.grow 0 6])),ef hs,ef hs,Owns.of_eq ((t).swap (List.Perm.swap _ _ _)) Fh,h⟩ ?_
   rintro ml29 e st ⟨b,d,o,c,f,Xl29,Rl29,rfl,rfl,t,h⟩ Ul29 Vl29
   cases ml29 with
   | zero=>cases h
   | succ ml29 =>
   rw [C4] at h
   have C:=t.unders
   simp only [List.mem_cons,List.not_mem_nil,or_false,forall_eq_or_imp,forall_eq] at C
   obtain ⟨J,H⟩:=C
   refine td D y z g t ?_
   refine rg [1,2,3,6,31,32,33,34] hs ?_
   apply Am;intro K31 F
   refine B6 h hs ?_ ?_<;>intro hs h
   rotate_left
   ·refine sx [1,2,3,6] hs E ?_
    exact ⟨b,d,c,f,([]),Rl29,ef hs,ef hs,Owns.of_eq (((t).swap (List.Perm.swap _ _ _)).swap (List.Perm.swap _ _ _)) Fh,h⟩
   exact go (tg (a:=([1,2,3,6,31,32,33],[1,2,3,6,8,31,32,33],[1,2,3,6,31,32,33],[1,2,3,6,31,32,33],()))) h hs D y z g t (q2 (ae P7 KJ) (CZ w0 n)) (q2 F (fun e s=>Vl29 ml29 e s (Nat.lt_succ_self _)))
  ·clear h;rintro e st ⟨j,i,p,q,Xk26,Rk26,rfl,rfl,t,h⟩
   rw [F8] at h
   have C:=t.unders
   simp only [List.mem_cons,List.not_mem_nil,or_false,forall_eq_or_imp,forall_eq] at C
   obtain ⟨J,H⟩:=C
   refine td D y z g t ?_
   obtain ⟨K,O,h⟩:=bind_some h
   have hs:=Ad (Vl.cs_eqs a0.key) hs
   have hs:=Ad (Vl.cs_eqs K) hs
   exact go (tg (a:=([1,2],[2],()))) h hs D y z g t (q1 (CZ w0 n)) trivial
def IH (n:Nat) (g:Stt) (b:List Slt):Option Stt :=
 some (Stt.mk g.number g.time b)
def EN (n:Nat) (h:Stt):Nat->(List Slt)->Int->Option Stt
 | 0,_,_=>none
 | m+1,g,b =>
  if decide (b<(h.slots.length:Int)) then
   (Dw h.slots b).bind fun y =>
   (Cf n y).bind fun q =>
   if (g.length+1)*152<=140737488355328/\g.length+1<=4611686018427387904 then
    if BN (b+1) then
     (EN n h m) (g++([q])) (b+1)
    else none
   else none
  else
   IH n h g
def GQ (n:Nat) (b:Stt):Option Stt :=
 if 0<=(b.slots.length:Int)/\(b.slots.length:Int)*152<=140737488355328/\(b.slots.length:Int)<=4611686018427387904 then
  EN n b n ([]) 0
 else none
theorem UV (w0:World) (n:Nat) (B:Ao) (Rw:Ap) (L:Aq) (a0:Stt) (r:Stt) (h:GQ n a0=some r) :
  ACalls Tryz.prog w0 37 [.agg (Dx a0)] ⟨B,Rw,L⟩ fun x st=>x = .agg (Dx r)/\st=⟨B,Rw,L⟩:=by
 rw [GQ] at h
 refine hd [.cell 2 56] Tryz.func37 Tryz.ntmps37 fun M0 W0 p l k i t j hs=>?_
 simp only [Ax]
 refine rg [1,2] hs ?_
 obtain ⟨q,h⟩:=Au h
 have j:=j.make 10 0
 refine rg [1,2,3] hs ?_
 refine AD (fun e st=>∃ (c:List Slt) (g:Ev.Own),Ck e st B Rw L [(1,true,.box B.length 0),(2,true,.box (B.length+1) 0),(3,true,.list (c.map AZ) g)] [Dx a0,[Ak 0,Ak 0,.list ([]) .full]] [(10,c.length,g)] (IH n a0 c=some r)) ?_ ?_
 ·intro K7 o
  refine rg [1,2,3,11,12,13] hs ?_
  apply Ar
  refine AA (fun m e st=>∃ (f:List Slt) (b:Int) (d:Ev.Own),Ck e st B Rw L [(1,true,.box B.length 0),(2,true,.box (B.length+1) 0),(3,true,.list (f.map AZ) d),(11,true,.list (a0.slots.map AZ) .none),(12,true,Ak (a0.slots.length:Int)),(13,true,Ak b)] [Dx a0,[Ak 0,Ak 0,.list ([]) .full]] [(10,f.length,d)] (EN n a0 m f b=some r)) n ⟨([]),0,((.row Rw.length)),([]),((Rw++[.grow 0 10])),ef hs,ef hs,Owns.of_eq (j) Fh,h⟩ ?_
  rintro ml9 e st ⟨f,b,d,Xl9,Rl9,rfl,rfl,j,h⟩ Ul9 Vl9
  cases ml9 with
  | zero=>cases h
  | succ ml9 =>
  rw [EN] at h
  exact go (tg (a:=([1,2,3,11,12,13,14],([1,2,3,11,12,13],[1,2,3,5,11,12,13],[1,2,3,11,12,13],[1,2,3,11,12,13],()),[1,2,3],()))) h hs p l k i j (q2 (ae RY MS) (EM w0 n)) (q2 o (fun e s=>Vl9 ml9 e s (Nat.lt_succ_self _)))
 ·clear h;rintro e st ⟨c,g,Xk6,Rk6,rfl,rfl,j,h⟩
  rw [IH] at h
  exact go (tg (a:=([1,2],[2],()))) h hs p l k i j trivial trivial
end Go.Proofs.YtbfenpeblbonlaaGreatDoor
namespace Go.Ev
open Go Go.RowKit
@[go_sem] theorem Zld (m:List Bool) (o:VO) (n:Nat):pubS m (G7 o n)=G7 o n:=by cases o<;>rfl
end Go.Ev
namespace Go.Proofs.YtbfenpeblbonlaaGreatDoor
open Go Go.RowKit Go.Ev
def H7 (n:Nat) (g:Stt) (b:List Slt):Option Stt :=
 some (Stt.mk g.number g.time b)
def EC (n:Nat) (h:Stt):Nat->(List Slt)->Int->Option Stt
 | 0,_,_=>none
 | m+1,g,b =>
  if decide (b<(h.slots.length:Int)) then
   (Dw h.slots b).bind fun y =>
   (Cf n y).bind fun q =>
   if (g.length+1)*152<=140737488355328/\g.length+1<=4611686018427387904 then
    if BN (b+1) then
     (EC n h m) (g++[q]) (b+1)
    else none
   else none
  else
   H7 n h g
def Gl (n:Nat) (b:Stt):Option Stt :=
 if 0<=(b.slots.length:Int)/\(b.slots.length:Int)*152<=140737488355328/\(b.slots.length:Int)<=4611686018427387904 then
  EC n b n ([]) 0
 else none
theorem NX (w0:World) (n:Nat) (B:Ao) (Rw:Ap) (L:Aq) (a0:Stt) (r:Stt) (h:Gl n a0=some r) :
  ACalls Tryz.prog w0 37 [.agg (Dx a0)] ⟨B,Rw,L⟩ fun x st=>∃ (o0:VO) (rows:Ap),x = .agg ([Ak r.number,Ak r.time,G7 o0 r.slots.length])/\st=⟨B,rows,L⟩/\Owns Rw rows [] .none [(o0,10,(r.slots).flatMap fun x=>(AZ x).cells)]:=by
 rw [Gl] at h
 refine ACalls.finV (Qo [true,true,false] (rs:=[.cell 2 56]) Tryz.func37 rfl rfl Tryz.ntmps37 (AL Tryz.func37 rfl (by decide)) (Nat.le_of_ble_eq_true rfl) ?_)
 intro M0 W0 K v w i Q
 dsimp only at K v w i Q
 simp only [Ax]
 have j:=Owns.none Rw
 have hs:=Uu
 refine rg [1,2] hs ?_
 apply Am;intro K2 E
 obtain ⟨U,h⟩:=Au h
 have j:=j.newV 10 []
 refine IL 54 (by decide) ?_
 refine rl [1,2,3] hs E ?_
 clear E
 refine AD (fun e st=>∃ (d:List Slt) (g:VO) (Xk6:Ao) (Rk6:Ap),e=[(1,true,.box B.length 0),(2,true,.box (B.length+1) 0),(3,true,G7 g d.length)]/\st=⟨B++([Dx a0,[Ak 0,Ak 0,.list ([]) .full]]++Xk6),Rk6,L⟩/\Owns Rw Rk6 [] .none [(g,10,d.flatMap fun x=>(AZ x).cells)]/\H7 n a0 d=some r) ?_ ?_
 ·intro K7 G
  refine rg [1,2,3,11,12,13] hs ?_
  apply Ar
  refine AA (fun m e st=>∃ (a:List Slt) (b:Int) (c:VO) (Xl9:Ao) (Rl9:Ap),e=[(1,true,.box B.length 0),(2,true,.box (B.length+1) 0),(3,true,G7 c a.length),(11,true,.list (a0.slots.map AZ) .none),(12,true,Ak (a0.slots.length:Int)),(13,true,Ak b)]/\st=⟨B++([Dx a0,[Ak 0,Ak 0,.list ([]) .full]]++Xl9),Rl9,L⟩/\Owns Rw Rl9 [] .none [(c,10,a.flatMap fun x=>(AZ x).cells)]/\EC n a0 m a b=some r) n ⟨([]),0,((.row Rw.length 0)),([]),((Rw++[.vec 0 10 []])),ef hs,ef hs,Owns.eqV (j) N6,h⟩ ?_
  rintro ml9 e st ⟨a,b,c,Xl9,Rl9,rfl,rfl,j,h⟩ Ul9 Vl9
  cases ml9 with
  | zero=>cases h
  | succ ml9 =>
  rw [EC] at h
  have k:=j.underV
  simp only [List.mem_cons,List.not_mem_nil,or_false,forall_eq_or_imp,forall_eq] at k
  refine AO K v w rfl i j ow ow ?_ (vu @EK)
  refine rg [1,2,3,11,12,13,14] hs ?_
  apply Am;intro K11 q
  refine B6 h hs ?_ ?_<;>intro hs h
  rotate_left
  ·refine sx [1,2,3] hs G ?_
   exact ⟨a,c,([]),Rl9,ef hs,ef hs,Owns.eqV (j) N6,h⟩
  refine sk [1,2,3,11,12,13] hs q ?_
  clear q
  apply Am;intro K13 p
  apply Ar
  obtain ⟨C,D,h⟩:=bind_some h
  obtain ⟨N,H,z⟩:=Bo D
  have u:=Bz (f:=AZ) z
  have hs:=Ad u hs
  refine rg [1,2,3,5,11,12,13] hs ?_
  obtain ⟨y,F,h⟩:=bind_some h
  obtain ⟨t,h⟩:=Au h
  obtain ⟨J,o,j,l⟩:=j.appendV (P:=Tryz.prog) (n:=a.length) (m:=1) RY (by rw [MS];rfl) (by decide) ((CH (f:=AZ) (sz:=10) (fun _=>by simp +decide only [go_sem]) _)) t.1 t.2 [AZ y] rfl ((a++[y]).flatMap fun x=>(AZ x).cells) (by simp only [List.flatMap_append,List.flatMap_cons,List.flatMap_nil,List.append_nil,List.nil_append,RS])
  simp only [List.mem_singleton,forall_eq,Fe,E6,E9,E8,Fb,EP,D2,D4,E3,CJ,CL,D1,DX,DZ,Fa,DW,E5,IM] at l
  have hs:=Ad l hs
  refine rk 2 [1,2,3,11,12,13] hs ?_
  refine Av _ (EM w0 n _ _ _ C _ F) (hv hs) ?_
  refine ne hs p ?_
  clear p
  obtain ⟨O,h⟩:=Au h
  refine rl [1,2,3,11,12,13] hs (fun e s=>Vl9 ml9 e s (Nat.lt_succ_self _)) ?_
  exact ⟨(a++[y]),(b+1),J,([O4 C]),o,ef hs,ef hs,Owns.eqV (j) N6,h⟩
 ·clear h;rintro e st ⟨d,g,Xk6,Rk6,rfl,rfl,j,h⟩
  rw [H7] at h
  have k:=j.underV
  simp only [List.mem_cons,List.not_mem_nil,or_false,forall_eq_or_imp,forall_eq] at k
  refine AO K v w rfl i j ow ow ?_ (vu @EK)
  refine rg [1,2] hs ?_
  refine rg [2] hs ?_
  apply BB;simp +decide only [go_sem,Nat.reduceAdd]
  have hgt:=Option.some.inj h;subst hgt
  have k:=j.underV
  simp only [List.mem_cons,List.not_mem_nil,or_false,forall_eq_or_imp,forall_eq] at k
  refine Zp j i rfl ow (vu @EK) ⟨_,_,?_,rfl,j.sub (List.nil_sublist _)⟩
  first | rfl | (simp +decide only [go_sem,Nat.reduceAdd];done) | (simp +decide only [go_sem,Nat.reduceAdd,Vl.cs,Ty.cs];done)
def SY (m:Msg):Prop:=m.stamp.2.length<=1000/\m.origins.length<=1000/\m.body.size<=1000
def Wc (s:Slt):Prop:=s.key.size<=1000/\(s.items.length<=1000/\∀ m∈s.items,SY m)/\s.values.length<=1000/\∀ v∈s.values,v.size<=1000
def T8 (s:Stt):Prop:=s.slots.length<=1000/\∀ x∈s.slots,Wc x
theorem Qz (n:Nat) (hn:100000<=n) (m:Msg) (h:SY m):DV n m=some m:=by
 have a:=h.1
 have b:=h.2.1
 have c:=h.2.2
 rw [DV,AW,Ab,Ae,Ab,O0 n _ (by omega) (by omega)]
 rfl
theorem ZeC (n:Nat) (hn:100000<=n) (a:Slt) (ha:Wc a) (x:List Msg):∀ (k m i:Nat),i+k=a.values.length->k<m->C4 n a m x (a.values.take i) i=some (Slt.mk a.key a.number a.time x a.values)
 | k,0,i,_,h=>absurd h (Nat.not_lt_zero _)
 | 0,m+1,i,hi,_=>by
  rw [C4,A4,Ac,Ai (by decide),F8,O0 n _ (by have:=ha.1;omega) (by have:=ha.1;omega),Ae,List.take_of_length_le (by omega)]
 | k+1,m+1,i,hi,hm=>by
  have b:i<a.values.length:=by omega
  have c:=ha.2.2.1
  have d:=ha.2.2.2 _ (List.getElem_mem b)
  rw [C4,A4,Ag b,Ah rfl,Bj b,Ae,O0 n _ (by omega) (by omega),Ae,Ah (by rw [List.length_take];omega),Ah (A8 (by omega)),List.take_append_getElem b]
  exact ZeC n hn a ha x k m (i+1) (by omega) (by omega)
theorem Zig (n:Nat) (hn:100000<=n) (a:Slt) (ha:Wc a):∀ (k m i:Nat),i+k=a.items.length->k<m->Dl n a m (a.items.take i) i=some a
 | k,0,i,_,h=>absurd h (Nat.not_lt_zero _)
 | 0,m+1,i,hi,_=>by
  have c:=ha.2.2.1
  rw [Dl,A4,Ac,Ai (by decide),GL,Ab,List.take_of_length_le (by omega)]
  have:=ZeC n hn a ha a.items a.values.length n 0 (by omega) (by omega)
  exact this
 | k+1,m+1,i,hi,hm=>by
  have b:i<a.items.length:=by omega
  have c:=ha.2.1.1
  rw [Dl,A4,Ag b,Ah rfl,Bj b,Ae,Qz n hn _ (ha.2.1.2 _ (List.getElem_mem b)),Ae,Ah (by rw [List.length_take];omega),Ah (A8 (by omega)),List.take_append_getElem b]
  exact Zig n hn a ha k m (i+1) (by omega) (by omega)
theorem MO (n:Nat) (hn:100000<=n) (a:Slt) (ha:Wc a):Cf n a=some a:=by
 have b:=ha.2.1.1
 rw [Cf,Ab]
 exact Zig n hn a ha a.items.length n 0 (by omega) (by omega)
theorem Zik (n:Nat) (hn:100000<=n) (a:Stt) (ha:T8 a):∀ (k m i:Nat),i+k=a.slots.length->k<m->EN n a m (a.slots.take i) i=some a
 | k,0,i,_,h=>absurd h (Nat.not_lt_zero _)
 | 0,m+1,i,hi,_=>by
  rw [EN,A4,Ac,Ai (by decide),IH,List.take_of_length_le (by omega)]
 | k+1,m+1,i,hi,hm=>by
  have b:i<a.slots.length:=by omega
  have c:=ha.1
  rw [EN,A4,Ag b,Ah rfl,Bj b,Ae,MO n hn _ (ha.2 _ (List.getElem_mem b)),Ae,Ah (by rw [List.length_take];omega),Ah (A8 (by omega)),List.take_append_getElem b]
  exact Zik n hn a ha k m (i+1) (by omega) (by omega)
theorem Z7 (n:Nat) (hn:100000<=n) (a:Stt) (ha:T8 a):GQ n a=some a:=by
 have b:=ha.1
 rw [GQ,Ab]
 exact Zik n hn a ha a.slots.length n 0 (by omega) (by omega)
theorem ZcP (n:Nat) (hn:100000<=n) (a:Stt) (ha:T8 a):∀ (k m i:Nat),i+k=a.slots.length->k<m->EC n a m (a.slots.take i) i=some a
 | k,0,i,_,h=>absurd h (Nat.not_lt_zero _)
 | 0,m+1,i,hi,_=>by
  rw [EC,A4,Ac,Ai (by decide),H7,List.take_of_length_le (by omega)]
 | k+1,m+1,i,hi,hm=>by
  have b:i<a.slots.length:=by omega
  have c:=ha.1
  rw [EC,A4,Ag b,Ah rfl,Bj b,Ae,MO n hn _ (ha.2 _ (List.getElem_mem b)),Ae,Ah (by rw [List.length_take];omega),Ah (A8 (by omega)),List.take_append_getElem b]
  exact ZcP n hn a ha k m (i+1) (by omega) (by omega)
theorem Tc (n:Nat) (hn:100000<=n) (a:Stt) (ha:T8 a):Gl n a=some a:=by
 have b:=ha.1
 rw [Gl,Ab]
 exact ZcP n hn a ha a.slots.length n 0 (by omega) (by omega)
def insRS:Go.Shelf.Ren:=⟨fun x=>if x=22 then 95 else if x=29 then 136 else if x=30 then 137 else x,
 fun x=>if x=9 then 92 else if x=24 then 54 else if x=3 then 3 else if x=4 then 4 else if x=0 then 0 else x,fun x=>x⟩
theorem Zmg:∃ z,InsLay Tryz.prog insRS Tryz.f95.name 10 152 z/\z.cells.size=10:=by
 obtain ⟨j,z,g,d,a,c,b⟩:=Nz (by kernel_rfl:V1 Tryz.prog 92 10 152=true)
 exact ⟨z,{
  mixed:=by kernel_rfl
  nmo:=by decide
  f22:=Tryz.func95.trans (congrArg some (by kernel_rfl))
  ov:=fun w x y h=>by
   show (callFunc 136 #[x,y]).run Tryz.prog w=_
   rw [run_callFunc_extern Tryz.func136 (by kernel_rfl) (by kernel_rfl) (by kernel_rfl) (e:=Extern.SlicesOverlaps.overlaps #[54,54] #[4]) (by kernel_rfl)]
   have f:(Extern.SlicesOverlaps.overlaps #[54,54] #[4] #[x,y]).run Tryz.prog w = .ok (.bool false) w:=h
   first | (rw [f];rfl) | simp [f]
  t0:=Tryz.underlying0
  a0:=Tryz.isAgg0
  z0:=Tryz.sizeOf0
  v0:=Tryz.zeroValue0
  t3:=Tryz.underlying3
  a3:=Tryz.isAgg3
  z3:=Tryz.sizeOf3
  v3:=Tryz.zeroValue3
  t4:=Tryz.underlying4
  a4:=Tryz.isAgg4
  z4:=Tryz.sizeOf4
  v4:=Tryz.zeroValue4
  z9:=Tryz.sizeOf92
  t24:=Tryz.underlying54
  a24:=Tryz.isAgg54
  z24:=Tryz.sizeOf54
  v24:=Tryz.zeroValue54
  i9:=by
   show (Tryz.prog.info? 92).map (fun i=>(i.zero,i.size,i.bytes))=_
   rw [g];simp [d,a,c] },b⟩
theorem YA (w0:World) {Rw rows:List RowA} {l:List (Nat × Nat × Ev.Own)} {ho:Ev.Own} {o:VO} {v:List VE} {xs:List (Slt)} (hO:Owns Rw rows l ho ((o,10,xs.flatMap fun x=>(AZ x).cells)::v)) (i:Int)
  (hg:(0<=i/\i<=(xs.length:Int))/\(xs.length+1)*152<=140737488355328/\xs.length+1<=4611686018427387904) (y:Slt) :
  ∃ id' ver' rows',Owns Rw rows' l ho ((.row id' ver',10,(IY xs i y).flatMap fun x=>(AZ x).cells)::v)/\∀ (B:Ao) (L:Aq) (ow:Ev.Own),ACalls Tryz.prog w0 95 [G7 o xs.length,Ak i,.list [AZ y] ow] ⟨B,rows,L⟩ fun r s=>r = .vec id' ver' 0 (IY xs i y).length/\s=⟨B,rows',L⟩:=by
 obtain ⟨⟨n,p⟩,g,e⟩:=hg
 obtain ⟨k,rfl⟩:∃ k:Nat,i=(k:Int):=⟨i.toNat,by omega⟩
 obtain ⟨z,d,j⟩:=Zmg
 have a:∀ x:Slt,((fun x=>(AZ x).cells) x).length=10:=fun x=>by simp +decide only [go_sem]
 have m:(xs.flatMap fun x=>(AZ x).cells).length=xs.length*10:=CH (f:=AZ) (fun _=>by simp +decide only [go_sem]) xs
 have c:(IY xs (k:Int) y).length=xs.length+1:=by
  unfold IY
  rw [List.length_append,List.length_cons,List.length_take,List.length_drop]
  simp only [Int.toNat_natCast]
  omega
 have b:(xs.flatMap fun x=>(AZ x).cells).take (k*10)++[AZ y].flatMap (fun y=>y.pub.cells)++(xs.flatMap fun x=>(AZ x).cells).drop (k*10)=(IY xs (k:Int) y).flatMap fun x=>(AZ x).cells:=by
  unfold IY
  rw [Pg a,Po a,List.flatMap_append,List.flatMap_cons,List.flatMap_cons,List.flatMap_nil,List.append_nil,RS,Int.toNat_natCast,List.append_assoc]
 obtain ⟨id',ver',hrow⟩:∃ id' ver',Oj o rows = .row id' ver':=by
  cases o with
  | nil=>exact ⟨_,_,rfl⟩
  | row id ver=>exact ⟨_,_,rfl⟩
 refine ⟨id',ver',_,hrow▸hO.bump ((IY xs (k:Int) y).flatMap fun x=>(AZ x).cells),fun B L ow=>?_⟩
 have:=UZ (P:=Tryz.prog) (w0:=w0) (st:=⟨B,rows,L⟩) (ow:=ow) (ys:=[AZ y]) (ag:=true) (i:=k) d (AL Tryz.func95 rfl (by decide)) RY (by rw [show insRS.t 9=92 from rfl,MS];rfl) j (by decide) hO.vp m (by omega) (by simp)
  (fun q h=>by rw [List.mem_singleton.1 h];exact ⟨by simp +decide only [go_sem],by simp +decide only [go_sem]⟩) g e
 rw [b] at this
 exact this.mono fun r s ⟨q1,q2⟩=>⟨by rw [q1,c,hrow];rfl,q2⟩
def ZkX:Go.Shelf.Ren:=⟨fun x=>if x=45 then 96 else x,
 fun x=>if x=23 then 92 else if x=22 then 54 else if x=3 then 3 else if x=4 then 4 else if x=0 then 0 else x,fun x=>x⟩
def ZjD:Value := .agg #[.int .i64 0,.int .i64 0,.int .i64 0,.string ⟨#[]⟩,.slice none 0 0,.slice none 0 0,.int .i64 0,.int .i64 0,.slice none 0 0,.slice none 0 0]
theorem Zl1:DelLay Tryz.prog ZkX Tryz.f96.name 10 152 ZjD:={
  mixed:=by kernel_rfl
  nmo:=by kernel_rfl
  f45:=Tryz.func96.trans (congrArg some (by kernel_rfl))
  t0:=Tryz.underlying0
  a0:=Tryz.isAgg0
  z0:=Tryz.sizeOf0
  v0:=Tryz.zeroValue0
  t3:=Tryz.underlying3
  a3:=Tryz.isAgg3
  z3:=Tryz.sizeOf3
  v3:=Tryz.zeroValue3
  t4:=Tryz.underlying4
  a4:=Tryz.isAgg4
  z4:=Tryz.sizeOf4
  v4:=Tryz.zeroValue4
  t22:=Tryz.underlying54
  a22:=Tryz.isAgg54
  z22:=Tryz.sizeOf54
  v22:=Tryz.zeroValue54
  z23:=Tryz.sizeOf92
  v23:=Tryz.zeroValue92
  i23:=by kernel_rfl }
theorem X7 (w0:World) {Rw rows:List RowA} {l:List (Nat × Nat × Ev.Own)} {ho:Ev.Own} {o:VO} {v:List VE} {xs:List (Slt)} (hO:Owns Rw rows l ho ((o,10,xs.flatMap fun x=>(AZ x).cells)::v)) (i:Int)
  (hg:0<=i/\i<(xs.length:Int)) :
  ∃ id' ver' rows',Owns Rw rows' l ho ((.row id' ver',10,(Q5 xs i).flatMap fun x=>(AZ x).cells)::v)/\∀ (B:Ao) (L:Aq),ACalls Tryz.prog w0 96 [G7 o xs.length,Ak i,Ak (i+1)] ⟨B,rows,L⟩ fun r s=>r = .vec id' ver' 0 (Q5 xs i).length/\s=⟨B,rows',L⟩:=by
 obtain ⟨k,rfl⟩:∃ k:Nat,i=(k:Int):=⟨i.toNat,by omega⟩
 have a:∀ x:Slt,((fun x=>(AZ x).cells) x).length=10:=fun x=>by simp +decide only [go_sem]
 have d:(xs.flatMap fun x=>(AZ x).cells).length=xs.length*10:=CH (f:=AZ) (fun _=>by simp +decide only [go_sem]) xs
 have c:(Q5 xs (k:Int)).length=k+(xs.length-(k+1)):=by
  unfold Q5
  rw [List.length_append,List.length_take,List.length_drop]
  simp only [Int.toNat_natCast]
  omega
 have b:(xs.flatMap fun x=>(AZ x).cells).take (k*10)++(xs.flatMap fun x=>(AZ x).cells).drop ((k+1)*10)=(Q5 xs (k:Int)).flatMap fun x=>(AZ x).cells:=by
  unfold Q5
  rw [Pg a,Po a,List.flatMap_append,Int.toNat_natCast]
 obtain ⟨id,ver,rfl,hrow⟩:∃ id ver,o = .row id ver/\rows[id]? = some (.vec ver 10 (xs.flatMap fun x=>(AZ x).cells)):=by
  rcases hO.veach _ (List.mem_cons_self ..) with q | ⟨id,ver,q1,_,q3⟩
  ·have q2:(xs.flatMap fun x=>(AZ x).cells)=[]:=q.2
   rw [q2] at d
   simp at d;omega
  ·exact ⟨id,ver,q1,q3⟩
 refine ⟨id,ver+1,_,hO.setV (ver+1) ((Q5 xs (k:Int)).flatMap fun x=>(AZ x).cells),fun B L=>?_⟩
 have:=YV (P:=Tryz.prog) (w0:=w0) (st:=⟨B,rows,L⟩) (i:=k) (j:=k+1) (n:=xs.length) Zl1 (AL Tryz.func96 rfl (by decide)) rfl (by decide) (by decide) hrow d (by omega) (by omega)
 rw [b] at this
 exact this.mono fun r s ⟨q1,q2⟩=>⟨by rw [q1,c],q2⟩
def Dt (n:Nat) (q:List Slt) (y:Vl) (a2:Slt->Vl->Option Int) (b:Int):Option (Int × Bool) :=
 if decide (b<(q.length:Int)) then
  (Dw q b).bind fun h =>
  (a2 h y).bind fun g =>
  some ((b,decide (g=0)))
 else
  some ((b,false))
def A9 (n:Nat) (h:List Slt) (q:Vl) (y:Slt->Vl->Option Int):Nat->Int->Int->Option (Int × Bool)
 | 0,_,_=>none
 | m+1,g,b =>
  if decide (g<b) then
   if BN (g+b) then
    if 0<=(g+b)/\(g+b)<=18446744073709551615 then
     if 0<=(g+b) then
      if BN ((g+b) / 2) then
       (Dw h ((g+b) / 2)).bind fun x17 =>
       (y x17 q).bind fun y18 =>
       if decide (y18<0) then
        if BN (((g+b) / 2)+1) then
         (A9 n h q y m) (((g+b) / 2)+1) b
        else none
       else
        (A9 n h q y m) g ((g+b) / 2)
      else none
     else none
    else none
   else none
  else
   Dt n h q y g
def DG (n:Nat) (b:List Slt) (g:Vl) (h:Slt->Vl->Option Int):Option (Int × Bool) :=
 A9 n b g h n 0 (b.length:Int)
theorem Ko (w0:World) (n:Nat) (B:Ao) (Rw:Ap) (L:Aq) (a0:List Slt) (a1:Vl) (fa2:FuncId) (ca2:List AV) (a2:Slt->Vl->Option Int) (ha2:∀ (x0:Slt) (x1:Vl) r,a2 x0 x1=some r->∀ B' rows,B <+: B'->Rw <+: rows->ACalls Tryz.prog w0 fa2 ([.agg (O4 x0),.agg (x1.cs)]++ca2) ⟨B',rows,L⟩ fun v s=>v=Ak r/\s=⟨B',rows,L⟩) (r:Int × Bool) (h:DG n a0 a1 a2=some r) :
  ACalls Tryz.prog w0 134 [.list (a0.map AZ) .none,.agg (a1.cs),.clo fa2 ca2] ⟨B,Rw,L⟩ fun x st=>x = .tup [Ak r.1,.val (.bool r.2)]/\st=⟨B,Rw,L⟩:=by
 rw [DG] at h
 refine hd [.tmp 6,.tmp 7] Tryz.func134 Tryz.ntmps134 fun M0 W0 l j k c p i hs=>?_
 simp only [Ax]
 have b:=Cc (p (.clo fa2 ca2) (by simp))
 refine rg [0,2,4] hs ?_
 refine rg [0,2,4,8] hs ?_
 refine rg [0,2,4,8,9,10] hs ?_
 refine AD (fun e st=>∃ (f:Int),Ck e st B Rw L [(0,true,.list (a0.map AZ) .none),(2,true,.clo fa2 ca2),(4,true,.box B.length 0),(8,true,Ak (a0.length:Int)),(9,true,Ak f)] [a1.cs] [] (Dt n a0 a1 a2 f=some r)) ?_ ?_
 ·intro K6 o
  apply Ar
  refine AA (fun m e st=>∃ (g:Int) (d:Int),Ck e st B Rw L [(0,true,.list (a0.map AZ) .none),(2,true,.clo fa2 ca2),(4,true,.box B.length 0),(8,true,Ak (a0.length:Int)),(9,true,Ak g),(10,true,Ak d)] [a1.cs] [] (A9 n a0 a1 a2 m g d=some r)) n ⟨0,(a0.length:Int),([]),Rw,ef hs,ef hs,i,h⟩ ?_
  rintro ml7 e st ⟨g,d,Xl7,Rl7,rfl,rfl,i,h⟩ Ul7 Vl7
  cases ml7 with
  | zero=>cases h
  | succ ml7 =>
  rw [A9] at h
  refine AO l j k rfl c i (H8 b i) (H8 b i) ?_
  exact go (tg (a:=([0,2,4,8,9,10,17],([0,2,4,8,9,10],[0,2,4,8,9,10,11],[8,0,2,4,8,9,10,11,31],([0,2,4,8,9,10],()),[0,2,4,8,9,10],()),[0,2,4,8,9],()))) h hs l j k c i (q1 ha2) (q2 o (fun e s=>Vl7 ml7 e s (Nat.lt_succ_self _)))
 ·clear h;rintro e st ⟨f,Xk5,Rk5,rfl,rfl,i,h⟩
  rw [Dt] at h
  refine AO l j k rfl c i (H8 b i) (H8 b i) ?_
  exact go (tg (a:=(([16,6,7],()),[16,6,7],()))) h hs l j k c i (q1 ha2) trivial
def Ej (n:Nat) (g:Slt) (b:Vl):Option Int :=
 (CB n g.key b).bind fun h =>
 some (h)
theorem Tv (w0:World) (n:Nat) (B:Ao) (Rw:Ap) (L:Aq) (a0:Slt) (a1:Vl) (r:Int) (h:Ej n a0 a1=some r) :
  ACalls Tryz.prog w0 135 [.agg (O4 a0),.agg (a1.cs)] ⟨B,Rw,L⟩ fun x st=>x=Ak r/\st=⟨B,Rw,L⟩:=by
 rw [Ej] at h
 refine hd [.tmp 4] Tryz.func135 Tryz.ntmps135 fun M0 W0 f c d b g e hs=>?_
 simp only [Ax]
 exact go (tg (a:=([2,3],[4],()))) h hs f c d b e (q1 (Nr w0 n)) trivial
def Fv (n:Nat) (q:Stt) (y:Vl):Option (Int × Bool) :=
 (DG n q.slots y (fun (g:Slt) (h:Vl)=>Ej n g h)).bind fun b =>
 some ((b.1,b.2))
theorem L2 (w0:World) (n:Nat) (B:Ao) (Rw:Ap) (L:Aq) (a0:Stt) (a1:Vl) (r:Int × Bool) (h:Fv n a0 a1=some r) :
  ACalls Tryz.prog w0 94 [.agg (Dx a0),.agg (a1.cs)] ⟨B,Rw,L⟩ fun x st=>x = .tup [Ak r.1,.val (.bool r.2)]/\st=⟨B,Rw,L⟩:=by
 rw [Fv] at h
 refine hd [.tmp 4,.tmp 5] Tryz.func94 Tryz.ntmps94 fun M0 W0 q i k a p j hs=>?_
 simp only [Ax]
 refine rg [2,3] hs ?_
 obtain ⟨o,c,h⟩:=bind_some h
 refine rc 2 [4,5] hs ?_;intro K2 b
 refine Av _ (Ko w0 n _ _ _ a0.slots a1 135 [] (fun (d:Slt) (e:Vl)=>Ej n d e) (fun d e r g m rows' f l=>by exact Tv w0 n _ _ _ d e _ g) _ c) (hv hs) ?_
 refine ne hs b ?_
 clear b
 exact rt h hs a j
def Jq (n:Nat) (b:Stt) (b3_k14_2:List Slt):Option (Stt × Int) :=
 some ((Stt.mk b.number b.time b3_k14_2,0))
def Gt (n:Nat) (q:Stt) (y:Slt):Option (Stt × Int) :=
 (Fv n q y.key).bind fun g =>
 if (!g.2)&&(decide (1024<=(q.slots.length:Int))) then
  some ((Stt.mk 0 0 ([]),9))
 else
  (Gl n q).bind fun b =>
  if g.2 then
   none
  else
   (Cf n y).bind fun h =>
   if (0<=g.1/\g.1<=(b.slots.length:Int))/\(b.slots.length+1)*152<=140737488355328/\b.slots.length+1<=4611686018427387904 then
    Jq n b (IY b.slots g.1 h)
   else none
theorem QL (w0:World) (n:Nat) (B:Ao) (Rw:Ap) (L:Aq) (a0:Stt) (a1:Slt) (r:Stt × Int) (h:Gt n a0 a1=some r) :
  ACalls Tryz.prog w0 66 [.agg (Dx a0),.agg (O4 a1)] ⟨B,Rw,L⟩ fun x st=>x = .tup [.agg (Dx r.1),Ak r.2]/\st=⟨B,Rw,L⟩:=by
 rw [Gt] at h
 refine hd [.cell 4 56,.tmp 5] Tryz.func66 Tryz.ntmps66 fun M0 W0 J C D c K d hs=>?_
 simp only [Ax]
 refine rg [2,3,4] hs ?_
 obtain ⟨G,F,h⟩:=bind_some h
 refine rc 2 [2,3,4,6,7] hs ?_;intro K2 s
 refine Av _ (L2 w0 n _ _ _ a0 a1.key _ F) (hv hs) ?_
 refine ne hs s ?_
 clear s
 apply Am;intro K4 o
 refine rg [2,3,4,6,7,23] hs ?_
 refine B6 h hs ?_ ?_<;>intro hs h
 ·have q:=hs.1
  refine rg [4,5] hs ?_
  exact rt h hs c d
 have q:=hs.1
 refine sk [2,3,4,6,7] hs o ?_
 clear o
 obtain ⟨y,z,h⟩:=bind_some h
 refine rc 2 [3,4,6,7,8] hs ?_;intro K8 l
 refine BE _ (NX w0 n _ _ _ a0 _ z) (hv hs) ?_;rintro _ _ ⟨H,Rv12,rfl,rfl,g⟩
 have d:=d.callV g
 refine ne hs l ?_
 clear l
 refine AD (fun e st=>∃ (a:List Slt) (b:VO) (Xk14:Ao) (Rk14:Ap),e=[(4,true,.box (B.length+2) 0),(8,true,.box (B.length+3) 0)]/\st=⟨B++([Dx a0,O4 a1,[Ak 0,Ak 0,.list ([]) .full],[Ak y.number,Ak y.time,G7 b a.length]]++Xk14),Rk14,L⟩/\Owns Rw Rk14 [] .none [(b,10,a.flatMap fun x=>(AZ x).cells)]/\Jq n y a=some r) ?_ ?_
 ·intro K15 t
  refine rg [3,4,6,8,27] hs ?_
  refine B6 h hs ?_ ?_<;>intro hs h
  ·cases h
  obtain ⟨p,m,h⟩:=bind_some h
  obtain ⟨v,h⟩:=Au h
  obtain ⟨u,j,i,d,k⟩:=YA w0 d G.1 v p
  refine IL 0 (by decide) ?_
  refine dk 6 2 2 [4,8] hs G6 ?_
  refine Av _ (EM w0 n _ _ _ a1 _ m) (hv hs) ?_
  refine dx hs ?_
  refine Jd [false,true,true] _ (k _ _ _) (hv hs) ?_;rintro _ _ ⟨rfl,rfl⟩
  refine ne hs t ?_
  exact ⟨(IY y.slots G.1 p),((.row u j)),([]),i,ef hs,ef hs,Owns.eqV (d) N6,h⟩
 ·clear h;rintro e st ⟨a,b,Xk14,Rk14,rfl,rfl,d,h⟩
  rw [Jq] at h
  have E:=d.underV
  simp only [List.mem_cons,List.not_mem_nil,or_false,forall_eq_or_imp,forall_eq] at E
  refine AO J C D rfl c d ow ow ?_ (vu @EK)
  refine rg [4,5] hs ?_
  refine LK (B.length+2) 2 (by first | rfl | (simp only [Ea,Da];rfl) | (simp +decide only [go_sem,Nat.reduceAdd,q])) (by first | rfl | (simp only [QA,List.length_set];rfl)) d true (.inl rfl) (by decide) ((CH (f:=AZ) (sz:=10) (fun _=>by simp +decide only [go_sem]) _)) (QB (f:=AZ) 10 (fun _=>rfl) (fun _=>by simp +decide only [go_sem]) _) (fun w d=>?_)
  simp +decide only [go_sem,Nat.reduceAdd,List.set_cons_zero,List.set_cons_succ]
  exact rt h hs c d
def Hg (n:Nat) (g:Stt) (y:Vl):Option (Slt × Bool) :=
 (Fv n g y).bind fun h =>
 if !h.2 then
  some ((Slt.mk (Vl.mk 0 0 0 (⟨#[]⟩:ByteArray) ([]) ([])) 0 0 ([]) ([]),false))
 else
  (Dw g.slots h.1).bind fun q =>
  (Cf n q).bind fun b =>
  some ((b,true))
theorem WL (w0:World) (n:Nat) (B:Ao) (Rw:Ap) (L:Aq) (a0:Stt) (a1:Vl) (r:Slt × Bool) (h:Hg n a0 a1=some r) :
  ACalls Tryz.prog w0 67 [.agg (Dx a0),.agg (a1.cs)] ⟨B,Rw,L⟩ fun x st=>x = .tup [.agg (O4 r.1),.val (.bool r.2)]/\st=⟨B,Rw,L⟩:=by
 rw [Hg] at h
 refine hd [.cell 4 92,.tmp 5] Tryz.func67 Tryz.ntmps67 fun M0 W0 f c d b g e hs=>?_
 simp only [Ax]
 exact go (tg (a:=([2,3,4],[2,4,6,7],[2,4,6,15],([4,5],()),[2,4,6],[4,5],()))) h hs f c d b e (q2 (L2 w0 n) (EM w0 n)) trivial
def Gm (n:Nat) (h:Stt) (q:Vl):Option (Stt × Bool) :=
 (Fv n h q).bind fun b =>
 if !b.2 then
  AM
 else
  (Gl n h).bind fun g =>
  if BN (b.1+1) then
   if 0<=b.1/\b.1<(g.slots.length:Int) then
    some ((Stt.mk g.number g.time (Q5 g.slots b.1),true))
   else none
  else none
theorem H9 (w0:World) (n:Nat) (B:Ao) (Rw:Ap) (L:Aq) (a0:Stt) (a1:Vl) (r:Stt × Bool) (h:Gm n a0 a1=some r) :
  ACalls Tryz.prog w0 68 [.agg (Dx a0),.agg (a1.cs)] ⟨B,Rw,L⟩ fun x st=>x = .tup [.agg (Dx r.1),.val (.bool r.2)]/\st=⟨B,Rw,L⟩:=by
 rw [Gm] at h
 refine hd [.cell 4 56,.tmp 5] Tryz.func68 Tryz.ntmps68 fun M0 W0 D w y d C c hs=>?_
 simp only [Ax]
 refine rg [2,3,4] hs ?_
 obtain ⟨z,s,h⟩:=bind_some h
 refine rc 2 [2,4,6,7] hs ?_;intro K2 l
 refine Av _ (L2 w0 n _ _ _ a0 a1 _ s) (hv hs) ?_
 refine ne hs l ?_
 clear l
 apply Am;intro K4 i
 refine rg [2,4,6,16] hs ?_
 refine B6 h hs ?_ ?_<;>intro hs h
 ·have k:=hs.1
  exact nS h
 have k:=hs.1
 refine sk [2,4,6] hs i ?_
 clear i
 obtain ⟨E,q,h⟩:=bind_some h
 refine rc 2 [4,6,8] hs ?_;intro K7 g
 refine BE _ (NX w0 n _ _ _ a0 _ q) (hv hs) ?_;rintro _ _ ⟨v,Rv11,rfl,rfl,a⟩
 have c:=c.callV a
 refine ne hs g ?_
 clear g
 apply Am;intro K12 b
 obtain ⟨t,h⟩:=Au h
 obtain ⟨j,h⟩:=Au h
 obtain ⟨u,p,o,c,e⟩:=X7 w0 c z.1 j
 refine IL 0 (by decide) ?_
 refine rk 2 [4,8] hs ?_
 refine Jd [false,true,true] _ (e _ _) (hv hs) ?_;rintro _ _ ⟨rfl,rfl⟩
 refine ne hs b ?_
 clear b
 refine rg [4,5] hs ?_
 refine LK (B.length+2) 2 (by first | rfl | (simp only [Ea,Da];rfl) | (simp +decide only [go_sem,Nat.reduceAdd,k])) (by first | rfl | (simp only [QA,List.length_set];rfl)) c true (.inl rfl) (by decide) ((CH (f:=AZ) (sz:=10) (fun _=>by simp +decide only [go_sem]) _)) (QB (f:=AZ) 10 (fun _=>rfl) (fun _=>by simp +decide only [go_sem]) _) (fun m c=>?_)
 simp +decide only [go_sem,Nat.reduceAdd,List.set_cons_zero,List.set_cons_succ]
 exact rt h hs d c
end Go.Proofs.YtbfenpeblbonlaaGreatDoor
namespace Go.Ev
open Go Go.RowKit Go.Shelf Go.Sort Go.Lib Go.Proofs
section
variable {P:Program} {w0:World} {M:Mem} {w:World} {st:St}
theorem RelSt.turn {α:Type} [Inhabited α] (h:RelSt w0 M st w) {id ver:Nat} {cs cs':List AV} (hid:st.rows[id]? = some (.vec ver 1 cs)) (enc:α->Value) (D:Array α) {w':World} {q:Nat} {os:Array Obj}
  (hw:w'=grow (putRow enc (Go.Sort.ahead w q) (M.blk id) 0 D) os) (hD:D.size<=M.cap id) (hle:cs'.length<=D.size) (hone:∀ x∈cs',x.one=true) (hR:∀ i (h2:i<cs'.length),R w0 M w (enc D[i]!) cs'[i]) :
  Ext w0 M w M w'/\RelSt w0 M { st with rows:=st.rows.set id (.vec ver 1 cs') } w':=by
 obtain ⟨t,F,y,u,E,v,C,c,ty,m,n,s,o,r⟩:=h.row id _ hid
 have g:M.blk id<w.heap.size:=(Array.getElem?_eq_some_iff.1 m).1
 have a:w'.heap=w.heap.modify (M.blk id) (onCells (putCells enc 0 D))++os:=by rw [hw];rfl
 have f:w'.os=w.os/\w'.tape=w.tape/\w'.output=w.output:=by rw [hw];exact ⟨rfl,rfl,rfl⟩
 have d:∀ b,b<w.heap.size->b≠M.blk id->w'.heap[b]? = w.heap[b]? := fun b k l=>by
  rw [a,Array.getElem?_append_left (by simpa using k),Array.getElem?_modify,Ai (fun q=>l q.symm)]
 have j:(putCells enc 0 D c).size=c.size:=by simp [putCells]
 refine h.setVec (c':=putCells enc 0 D c) (ty:=ty) hid ⟨f.1,f.2.1,f.2.2,by rw [a];simp,fun b k=>d b (Nat.lt_of_lt_of_le k h.base_le) (by omega)⟩ d
  (by rw [a,Array.getElem?_append_left (by simpa using g),Array.getElem?_modify,Ah rfl,m];rfl) (by rw [j];exact n) (by rw [j,n];omega) hone (fun i z h2=>?_)
 have p:i<D.size:=by omega
 have e:(putCells enc 0 D c)[i]=enc D[i]! := by
  simp only [putCells,Array.getElem_mapIdx,Nat.zero_le,true_and,Nat.zero_add,Ah p,Nat.sub_zero]
 rw [e]
 exact hR i h2
abbrev bl (x:ByteArray):List UInt8:=x.data.toList
def Zaq (xs:List ByteArray):List ByteArray:=((xs.map bl).mergeSort fun x y=>decide (x<=y)).map fun l=>⟨l.toArray⟩
theorem W6 (xs:List ByteArray):(Zaq xs).length=xs.length:=by simp [Zaq]
end
end Go.Ev
namespace Go.Proofs
open Go.Shelf
def Tryz.lays119_ren:Go.Shelf.Ren:=⟨fun | 119=>292 | n=>n,fun | 21=>21 | 4=>4 | n=>n,fun | n=>n⟩
theorem Tryz.lays119:Go.Proofs.Lays.n119 Tryz.prog Tryz.lays119_ren:={
 mixed:=by kernel_rfl
 f119:=Tryz.func292.trans (congrArg some (by kernel_rfl))
 t4:=Tryz.underlying4
 a4:=Tryz.isAgg4
 z4:=Tryz.sizeOf4
 v4:=Tryz.zeroValue4
 t21:=Tryz.underlying21
 a21:=Tryz.isAgg21
 z21:=Tryz.sizeOf21
 v21:=Tryz.zeroValue21 }
theorem Tryz.utf8_ValidRune (r:Int) (w:World) :
  Calls Tryz.prog 292 #[.int .i32 r] w fun e w'=>e = .returned (.bool (Lib.validRune r))/\w'=w:=Any.utf8_ValidRune Tryz.lays119 r w
def Tryz.lays137_ren:Go.Shelf.Ren:=⟨fun | 137=>291 | 217=>326 | 266=>343 | n=>n,fun | 9=>9 | 5=>5 | 3=>3 | n=>n,fun | n=>n⟩
theorem Tryz.lays137:Go.Proofs.Lays.n137 Tryz.prog Tryz.lays137_ren:={
 mixed:=by kernel_rfl
 f137:=Tryz.func291.trans (congrArg some (by kernel_rfl))
 f217:=Tryz.func326.trans (congrArg some (by kernel_rfl))
 f266:=Tryz.func343.trans (congrArg some (by kernel_rfl))
 t3:=Tryz.underlying3
 a3:=Tryz.isAgg3
 z3:=Tryz.sizeOf3
 v3:=Tryz.zeroValue3
 t5:=Tryz.underlying5
 a5:=Tryz.isAgg5
 z5:=Tryz.sizeOf5
 v5:=Tryz.zeroValue5
 t9:=Tryz.underlying9
 a9:=Tryz.isAgg9
 z9:=Tryz.sizeOf9
 v9:=Tryz.zeroValue9 }
open Go.RowKit in
theorem Tryz.strings_IndexByte (s:ByteArray) (c:Int) (w:World) :
  Calls Tryz.prog 291 #[.string s,.int .u8 c] w fun e w'=>e = .returned (.int .i64 (Lib.indexByte s.data.toList c.toNat.toUInt8))/\w'=w:=Any.strings_IndexByte Tryz.lays137 s c w
def Tryz.lays99_ren:Go.Shelf.Ren:=⟨fun | 99=>215 | 206=>253 | n=>n,fun | 9=>9 | 4=>4 | 3=>3 | n=>n,fun | n=>n⟩
theorem Tryz.lays99:Go.Proofs.Lays.n99 Tryz.prog Tryz.lays99_ren:={
 mixed:=by kernel_rfl
 f99:=Tryz.func215.trans (congrArg some (by kernel_rfl))
 f206:=Tryz.func253.trans (congrArg some (by kernel_rfl))
 t3:=Tryz.underlying3
 a3:=Tryz.isAgg3
 z3:=Tryz.sizeOf3
 v3:=Tryz.zeroValue3
 t4:=Tryz.underlying4
 a4:=Tryz.isAgg4
 z4:=Tryz.sizeOf4
 v4:=Tryz.zeroValue4
 t9:=Tryz.underlying9
 a9:=Tryz.isAgg9
 z9:=Tryz.sizeOf9
 v9:=Tryz.zeroValue9 }
open Go.RowKit Go.Lib in
theorem Tryz.strings_HasPrefix (s p:ByteArray) (w:World) :
  Calls Tryz.prog 215 #[.string s,.string p] w fun e w'=>e = .returned (.bool (Lib.hasPrefix s.data.toList p.data.toList))/\w'=w:=Any.strings_HasPrefix Tryz.lays99 s p w
def Tryz.lays152_ren:Go.Shelf.Ren:=⟨fun | 152=>249 | 137=>291 | 119=>292 | 224=>293 | 225=>294 | 217=>326 | 266=>343 | n=>n,fun | 9=>9 | 21=>21 | 3=>3 | 4=>4 | 5=>5 | 0=>0 | 46=>235 | n=>n,fun | n=>n⟩
theorem Tryz.lays152:Go.Proofs.Lays.n152 Tryz.prog Tryz.lays152_ren:={
 mixed:=by kernel_rfl
 f119:=Tryz.func292.trans (congrArg some (by kernel_rfl))
 f137:=Tryz.func291.trans (congrArg some (by kernel_rfl))
 f152:=Tryz.func249.trans (congrArg some (by kernel_rfl))
 f217:=Tryz.func326.trans (congrArg some (by kernel_rfl))
 f224:=Tryz.func293.trans (congrArg some (by kernel_rfl))
 f225:=Tryz.func294.trans (congrArg some (by kernel_rfl))
 f266:=Tryz.func343.trans (congrArg some (by kernel_rfl))
 t0:=Tryz.underlying0
 a0:=Tryz.isAgg0
 z0:=Tryz.sizeOf0
 v0:=Tryz.zeroValue0
 t3:=Tryz.underlying3
 a3:=Tryz.isAgg3
 z3:=Tryz.sizeOf3
 v3:=Tryz.zeroValue3
 t4:=Tryz.underlying4
 a4:=Tryz.isAgg4
 z4:=Tryz.sizeOf4
 v4:=Tryz.zeroValue4
 t5:=Tryz.underlying5
 a5:=Tryz.isAgg5
 z5:=Tryz.sizeOf5
 v5:=Tryz.zeroValue5
 t9:=Tryz.underlying9
 a9:=Tryz.isAgg9
 z9:=Tryz.sizeOf9
 v9:=Tryz.zeroValue9
 t21:=Tryz.underlying21
 a21:=Tryz.isAgg21
 z21:=Tryz.sizeOf21
 v21:=Tryz.zeroValue21
 t46:=Tryz.underlying235
 a46:=Tryz.isAgg235
 z46:=Tryz.sizeOf235
 v46:=Tryz.zeroValue235 }
open Go.RowKit Go.Lib in
theorem Tryz.strings_IndexRune_ascii (s:ByteArray) (r:Int) (w:World) (h0:0<=r) (h1:r<128) :
  Calls Tryz.prog 249 #[.string s,.int .i32 r] w fun e w'=>e = .returned (.int .i64 (Lib.indexByte s.data.toList r.toNat.toUInt8))/\w'=w:=Any.strings_IndexRune_ascii Tryz.lays152 s r w h0 h1
def Tryz.lays226_ren:Go.Shelf.Ren:=⟨fun | 226=>250 | n=>n,fun | 3=>3 | 4=>4 | n=>n,fun | n=>n⟩
theorem Tryz.lays226:Go.Proofs.Lays.n226 Tryz.prog Tryz.lays226_ren:={
 mixed:=by kernel_rfl
 f226:=Tryz.func250.trans (congrArg some (by kernel_rfl))
 t3:=Tryz.underlying3
 a3:=Tryz.isAgg3
 z3:=Tryz.sizeOf3
 v3:=Tryz.zeroValue3
 t4:=Tryz.underlying4
 a4:=Tryz.isAgg4
 z4:=Tryz.sizeOf4
 v4:=Tryz.zeroValue4 }
open Go.RowKit Go.Lib in
theorem Tryz.strings_shouldUseASCIISet (n:Int) (w:World) :
  Calls Tryz.prog 250 #[.int .i64 n] w fun e w'=>e = .returned (.bool (decide (8<n)))/\w'=w:=Any.strings_shouldUseASCIISet Tryz.lays226 n w
def Tryz.lays153_ren:Go.Shelf.Ren:=⟨fun | 153=>214 | 152=>249 | 226=>250 | 227=>251 | 228=>252 | 137=>291 | 119=>292 | 224=>293 | 225=>294 | 217=>326 | 266=>343 | n=>n,fun | 9=>9 | 3=>3 | 4=>4 | 5=>5 | 21=>21 | 117=>327 | 116=>326 | 0=>0 | 46=>235 | 124=>359 | n=>n,fun | n=>n⟩
theorem Tryz.lays153:Go.Proofs.Lays.n153 Tryz.prog Tryz.lays153_ren:={
 mixed:=by kernel_rfl
 f119:=Tryz.func292.trans (congrArg some (by kernel_rfl))
 f137:=Tryz.func291.trans (congrArg some (by kernel_rfl))
 f152:=Tryz.func249.trans (congrArg some (by kernel_rfl))
 f153:=Tryz.func214.trans (congrArg some (by kernel_rfl))
 f217:=Tryz.func326.trans (congrArg some (by kernel_rfl))
 f224:=Tryz.func293.trans (congrArg some (by kernel_rfl))
 f225:=Tryz.func294.trans (congrArg some (by kernel_rfl))
 f226:=Tryz.func250.trans (congrArg some (by kernel_rfl))
 f227:=Tryz.func251.trans (congrArg some (by kernel_rfl))
 f228:=Tryz.func252.trans (congrArg some (by kernel_rfl))
 f266:=Tryz.func343.trans (congrArg some (by kernel_rfl))
 t0:=Tryz.underlying0
 a0:=Tryz.isAgg0
 z0:=Tryz.sizeOf0
 v0:=Tryz.zeroValue0
 t3:=Tryz.underlying3
 a3:=Tryz.isAgg3
 z3:=Tryz.sizeOf3
 v3:=Tryz.zeroValue3
 t4:=Tryz.underlying4
 a4:=Tryz.isAgg4
 z4:=Tryz.sizeOf4
 v4:=Tryz.zeroValue4
 t5:=Tryz.underlying5
 a5:=Tryz.isAgg5
 z5:=Tryz.sizeOf5
 v5:=Tryz.zeroValue5
 t9:=Tryz.underlying9
 a9:=Tryz.isAgg9
 z9:=Tryz.sizeOf9
 v9:=Tryz.zeroValue9
 t21:=Tryz.underlying21
 a21:=Tryz.isAgg21
 z21:=Tryz.sizeOf21
 v21:=Tryz.zeroValue21
 t46:=Tryz.underlying235
 a46:=Tryz.isAgg235
 z46:=Tryz.sizeOf235
 v46:=Tryz.zeroValue235
 t116:=Tryz.underlying326
 a116:=Tryz.isAgg326
 z116:=Tryz.sizeOf326
 t117:=Tryz.underlying327
 a117:=Tryz.isAgg327
 z117:=Tryz.sizeOf327
 v117:=Tryz.zeroValue327
 t124:=Tryz.underlying359
 a124:=Tryz.isAgg359
 z124:=Tryz.sizeOf359
 v124:=Tryz.zeroValue359 }
open Go.RowKit Go.Lib in
theorem Tryz.strings_IndexAny_long (hv116:∀ w,(zeroValue 326).run Tryz.prog w = .ok (.agg (Array.replicate 256 (.bool false))) w) (s chars:ByteArray) (w:World) (h2:2<=chars.size) (h8:8<s.size) (hs:s.size<4294967281) (hcs:chars.size<4294967281) (hascii:∀ (j:Nat) b,chars.data.toList[j]? = some b->b.toNat<128) :
  Calls Tryz.prog 214 #[.string s,.string chars] w fun e w'=>e = .returned (.int .i64 (Lib.indexAny s.data.toList chars.data.toList))/\w'=((w.alloc (.cells (Lib.setCells chars.data.toList) 326)).alloc (.cells (Lib.setCells chars.data.toList) 326)):=Any.strings_IndexAny_long Tryz.lays153 hv116 (by kernel_rfl) s chars w h2 h8 hs hcs hascii
end Go.Proofs
namespace Go.Proofs.YtbfenpeblbonlaaGreatDoor
open Go Go.RowKit Go.Ev
def ZA (x:List UInt8):List (List UInt8)->List (List UInt8)
 | []=>[x]
 | y::r=>if decide (x<=y)=true then x::y::r else y::ZA x r
def T9:List (List UInt8)->List (List UInt8)
 | []=>[]
 | x::r=>ZA x (T9 r)
theorem RV (x:List UInt8):∀ l,(ZA x l).Perm (x::l)
 | []=>List.Perm.refl _
 | y::r=>by
  unfold ZA
  split
  ·exact List.Perm.refl _
  ·exact ((RV x r).cons y).trans (List.Perm.swap _ _ _)
theorem Ta:∀ l,(T9 l).Perm l
 | []=>List.Perm.refl _
 | x::r=>(RV x _).trans ((Ta r).cons x)
theorem Zaz (x:List UInt8):∀ l:List (List UInt8),l.Pairwise (fun a b=>a<=b)->(ZA x l).Pairwise (fun a b=>a<=b)
 | [],_=>by simp [ZA]
 | y::r,h=>by
  obtain ⟨d,e⟩:=List.pairwise_cons.1 h
  unfold ZA
  split
  ·rename_i c
   have c:x<=y:=of_decide_eq_true c
   refine List.pairwise_cons.2 ⟨fun z hz=>?_,h⟩
   rcases List.mem_cons.1 hz with rfl | hz
   ·exact c
   ·exact List.le_trans c (d z hz)
  ·rename_i c
   have c:y<=x:=by
    rcases List.le_total x y with q | q
    ·exact absurd (Ag q) c
    ·exact q
   refine List.pairwise_cons.2 ⟨fun z hz=>?_,Zaz x r e⟩
   rcases List.mem_cons.1 ((RV x r).mem_iff.1 hz) with rfl | hz
   ·exact c
   ·exact d z hz
theorem Ww:∀ l,(T9 l).Pairwise (fun a b=>a<=b)
 | [] => .nil
 | x::r=>Zaz x _ (Ww r)
theorem ZbT (l:List (List UInt8)):(l.mergeSort fun x y=>decide (x<=y))=T9 l:=by
 refine List.Perm.eq_of_pairwise (le:=fun a b=>a<=b) (fun a b _ _ d e=>List.le_antisymm d e) ?_ (Ww l) ((List.mergeSort_perm l _).trans (Ta l).symm)
 have:=List.pairwise_mergeSort (le:=fun x y:List UInt8=>decide (x<=y)) (fun a b c d e=>Ag (List.le_trans (of_decide_eq_true d) (of_decide_eq_true e))) (fun a b=>by
  rcases List.le_total a b with q | q<;>simp [q]) l
 exact this.imp fun h=>of_decide_eq_true h
def Kz (xs:List ByteArray):List ByteArray:=(T9 (xs.map bl)).map fun l=>⟨l.toArray⟩
theorem Zeh (xs:List ByteArray):Zaq xs=Kz xs:=by rw [Zaq,ZbT];rfl
theorem Hv (xs:List ByteArray):(Kz xs).length=xs.length:=by rw [<-Zeh,W6]
def Em (b:Slt) (g:Slt):Int :=
 if b.time<g.time then -1 else if b.time=g.time then 0 else 1
theorem PU (w0:World) (B:Ao) (Rw:Ap) (L:Aq) (a0:Slt) (a1:Slt) (r:Int) (h:Em a0 a1=r) :
  ACalls Tryz.prog w0 103 [.agg (O4 a0),.agg (O4 a1)] ⟨B,Rw,L⟩ fun x st=>x=Ak r/\st=⟨B,Rw,L⟩:=by
 rw [Em] at h
 refine hd [.tmp 4] Tryz.func103 Tryz.ntmps103 fun M0 W0 f c d b g e hs=>?_
 simp only [Ax]
 exact go (tg (a:=([2,3],[4],()))) h hs f c d b e (q1 (I7 w0)) trivial
theorem PK (w0:World) (B:Ao) (Rw:Ap) (L:Aq) (a0:Slt) (a1:Slt) :
  ACalls Tryz.prog w0 103 [.agg (O4 a0),.agg (O4 a1)] ⟨B,Rw,L⟩ fun x st=>x=Ak (Em a0 a1)/\st=⟨B,Rw,L⟩:=PU w0 B Rw L a0 a1 _ rfl
def BJ (n:Nat) (b:(List Slt)->Int->Option ((List Slt))) (g:Int) (h:List Slt):Option ((List Slt)) :=
 if BN (g+1) then
  b h (g+1)
 else none
def BF (n:Nat) (h:(List Slt)->Int->Option ((List Slt))) (a1:Int) (q:Int):Nat->(List Slt)->Int->Option ((List Slt))
 | 0,_,_=>none
 | m+1,g,b =>
  if decide (a1<b) then
   (Dw g b).bind fun x15 =>
   if BN (b-1) then
    (Dw g (b-1)).bind fun y =>
    if decide ((Em x15 y)<0) then
     if BN (b-1) then
      if BN (b-1) then
       (Dw (g.set b.toNat y) (b-1)).bind fun x28 =>
       if BN (b-1) then
        (BF n h a1 q m) ((g.set b.toNat y).set (b-1).toNat x15) (b-1)
       else none
      else none
     else none
    else
     BJ n h q g
   else none
  else
   BJ n h q g
def AU (n:Nat) (h:Int) (q:Int):Nat->(List Slt)->Int->Option ((List Slt))
 | 0,_,_=>none
 | m+1,g,b =>
  if decide (b<q) then
   BF n (AU n h q m) h b n g b
  else
   some (g)
def Bm (n:Nat) (g:List Slt) (b:Int) (h:Int):Option ((List Slt)) :=
 if BN (b+1) then
  AU n b h n g (b+1)
 else none
theorem F2 (w0:World) (n:Nat) (B:Ao) (Rw:Ap) (L:Aq) (oa0:VO) (a0:List Slt) (hGa0:Owns Rw Rw [] (Ub oa0) [(oa0,10,a0.flatMap fun x=>(AZ x).cells)]) (a1:Int) (a2:Int) (r:(List Slt)) (h:Bm n a0 a1 a2=some r) :
  ACalls Tryz.prog w0 192 [G7 oa0 a0.length,Ak a1,Ak a2,.clo 103 []] ⟨B,Rw,L⟩ fun x st=>x = .tup []/\∃ (R1:Ap),st=⟨B,R1,L⟩/\Owns Rw R1 [] (Ub oa0) [(oa0,10,r.flatMap fun x=>(AZ x).cells)]/\r.length=a0.length:=by
 rw [Bm] at h
 refine ACalls.finG (B7 (rs:=[]) Tryz.func192 rfl rfl Tryz.ntmps192 (AL Tryz.func192 rfl (by decide)) (Nat.le_of_ble_eq_true rfl) ?_)
 intro M0 W0 hN ag ah V hu
 dsimp only at hN ag ah V hu
 simp only [Ax]
 have N:=hGa0
 have hs:=Uu
 obtain ⟨bj,h⟩:=Au h
 refine rg [0,1,2,3,8] hs ?_
 apply Ar
 refine AA (fun m e st=>∃ (O:List Slt) (H:Int) (Xl3:Ao) (Rl3:Ap),e=[(0,true,G7 oa0 O.length),(1,true,Ak a1),(2,true,Ak a2),(3,true,.clo 103 []),(8,true,Ak H)]/\st=⟨B++([]++Xl3),Rl3,L⟩/\Owns Rw Rl3 [] (Ub oa0) [(oa0,10,O.flatMap fun x=>(AZ x).cells)]/\O.length=a0.length/\AU n a1 a2 m O H=some r) n ⟨a0,(a1+1),([]),Rw,ef hs,ef hs,Owns.eqV (N) N6,by first | rfl | assumption | (simp only [List.length_set];first | rfl | assumption | omega) | omega,h⟩ ?_
 rintro ml3 e st ⟨O,H,Xl3,Rl3,rfl,rfl,N,am,h⟩ Ul3 Vl3
 cases ml3 with
 | zero=>cases h
 | succ ml3 =>
 rw [AU] at h
 have Z:=N.underV
 simp only [List.mem_cons,List.not_mem_nil,or_false,forall_eq_or_imp,forall_eq] at Z
 refine EA hN ag ah rfl (DY V N.len) N ow ow ?_ (vu @EK)
 apply Am;intro K4 ao
 refine rg [0,1,2,3,8,14] hs ?_
 refine B6 h hs ?_ ?_<;>intro hs h
 rotate_left
 ·have K:=hs.1
  refine EZ (C9 [] _) ?_ (BI _ _)
  apply Gn;simp +decide only [go_sem,Nat.reduceAdd]
  (repeat' with_reducible apply Ad)<;>first | exact cl | skip
  have hgt:=Option.some.inj h;subst hgt
  have Z:=N.underV
  simp only [List.mem_cons,List.not_mem_nil,or_false,forall_eq_or_imp,forall_eq] at Z
  refine Zi N (DY V N.len) rfl ev ⟨?_,_,?_,N.sub (List.nil_sublist _),by first | rfl | assumption | (simp only [List.length_set];first | rfl | assumption | omega) | omega⟩ (vu @EK)
  all_goals first | rfl | (simp +decide only [go_sem,Nat.reduceAdd,K];done) | (simp +decide only [go_sem,Nat.reduceAdd,Vl.cs,Ty.cs,K];done)
 have K:=hs.1
 refine sk [0,1,2,3,8] hs ao ?_
 clear ao
 refine AD (fun e st=>∃ (Q:List Slt) (Xk8:Ao) (Rk8:Ap),e=[(0,true,G7 oa0 Q.length),(1,true,Ak a1),(2,true,Ak a2),(3,true,.clo 103 []),(8,true,Ak H)]/\st=⟨B++([]++Xk8),Rk8,L⟩/\Owns Rw Rk8 [] (Ub oa0) [(oa0,10,Q.flatMap fun x=>(AZ x).cells)]/\Q.length=a0.length/\BJ n (AU n a1 a2 ml3) H Q=some r) ?_ ?_
 ·intro K9 aq
  apply Ar
  refine rg [0,1,2,3,8,9] hs ?_
  apply Ar
  refine AA (fun m e st=>∃ (g:List Slt) (d:Int) (Xl11:Ao) (Rl11:Ap),e=[(0,true,G7 oa0 g.length),(1,true,Ak a1),(2,true,Ak a2),(3,true,.clo 103 []),(8,true,Ak H),(9,true,Ak d)]/\st=⟨B++([]++Xl11),Rl11,L⟩/\Owns Rw Rl11 [] (Ub oa0) [(oa0,10,g.flatMap fun x=>(AZ x).cells)]/\g.length=a0.length/\BF n (AU n a1 a2 ml3) a1 H m g d=some r) n ⟨O,H,([]),Rl3,ef hs,ef hs,Owns.eqV (N) N6,by first | rfl | assumption | (simp only [List.length_set];first | rfl | assumption | omega) | omega,h⟩ ?_
  rintro ml11 e st ⟨g,d,Xl11,Rl11,rfl,rfl,N,am,h⟩ Ul11 Vl11
  cases ml11 with
  | zero=>cases h
  | succ ml11 =>
  rw [BF] at h
  have Z:=N.underV
  simp only [List.mem_cons,List.not_mem_nil,or_false,forall_eq_or_imp,forall_eq] at Z
  refine EA hN ag ah rfl (DY V N.len) N ow ow ?_ (vu @EK)
  apply Am;intro K12 ak
  apply Am;intro K13 ad
  rcases Bool.eq_false_or_eq_true (decide (a1<d)) with hf14 | hf14
  ·replace h:=Cj h hf14
   obtain ⟨Y,ap,h⟩:=bind_some h
   obtain ⟨a4,ax,aa⟩:=Bo ap
   obtain ⟨bf,a9,hqx15,a5,G⟩:=N.rowV (by rw [(CH (f:=AZ) (sz:=10) (fun _=>by simp +decide only [go_sem]) _)];exact Nat.mul_pos (by omega) (by decide))
   subst hqx15
   have z:=QQ (f:=AZ) (sz:=10) (fun _=>by simp +decide only [go_sem]) aa
   have E:=GB (f:=fun x=>(AZ x).cells) 10 (fun _=>by simp +decide only [go_sem]) aa
   have w:=CH (f:=AZ) (sz:=10) (fun _=>by simp +decide only [go_sem]) g
   simp only [Fe,E6,E9,E8,Fb,EP,D2,D4,E3,CJ,CL,D1,DX,DZ,Fa,DW,E5,IM,Fj] at z E G w
   obtain ⟨bb,h⟩:=Au h
   obtain ⟨U,ar,h⟩:=bind_some h
   obtain ⟨a3,a7,af⟩:=Bo ar
   obtain ⟨bg,a6,hqx19,ay,y⟩:=N.rowV (by rw [(CH (f:=AZ) (sz:=10) (fun _=>by simp +decide only [go_sem]) _)];exact Nat.mul_pos (by omega) (by decide))
   cases hqx19
   have C:=QQ (f:=AZ) (sz:=10) (fun _=>by simp +decide only [go_sem]) af
   have D:=GB (f:=fun x=>(AZ x).cells) 10 (fun _=>by simp +decide only [go_sem]) af
   have F:=CH (f:=AZ) (sz:=10) (fun _=>by simp +decide only [go_sem]) g
   simp only [Fe,E6,E9,E8,Fb,EP,D2,D4,E3,CJ,CL,D1,DX,DZ,Fa,DW,E5,IM,Fj] at C D y F
   have hs:=Ad hf14 hs
   have hs:=Ad z hs
   have hs:=Ad E hs
   have hs:=Ad G hs
   have hs:=Ad w hs
   have hs:=Ad C hs
   have hs:=Ad D hs
   have hs:=Ad y hs
   have hs:=Ad F hs
   refine dk 17 2 1 [0,1,2,3,8,9,34] hs G6 ?_
   refine Av _ (PK w0 _ _ _ Y U) (hv hs) ?_
   refine dn hs ad ?_
   clear ad
   refine B6 h hs ?_ ?_<;>intro hs h
   rotate_left
   ·have J:=hs.1
    refine sx [0,1,2,3,8] hs aq ?_
    exact ⟨g,([]),Rl11,ef hs,ef hs,Owns.eqV (N) N6,by first | rfl | assumption | (simp only [List.length_set];first | rfl | assumption | omega) | omega,h⟩
   have J:=hs.1
   refine sk [0,1,2,3,8,9] hs ak ?_
   clear ak
   apply Am;intro K23 aj
   apply Ar
   obtain ⟨ba,h⟩:=Au h
   obtain ⟨bc,h⟩:=Au h
   have u:=Ov (f:=AZ) (sz:=10) (fun _=>by simp +decide only [go_sem]) U (k:=0) (c:=O4 U) aa (by simp +decide only [go_sem]) (by simp +decide only [go_sem,Bt,Vl.cs,Ty.cs];first | rfl | simp [Vl.cs_length,Ty.cs_length])
   obtain ⟨ai,N,b⟩:=N.storeV ((g.set d.toNat U).flatMap fun x=>(AZ x).cells)
   have q:Bt ((g).flatMap fun x=>(AZ x).cells) (d.toNat*10) (O4 U)=(g.set d.toNat U).flatMap fun x=>(AZ x).cells:=u
   simp only [Fe,E6,E9,E8,Fb,EP,D2,D4,E3,CJ,CL,D1,DX,DZ,Fa,DW,E5,IM,Fj] at u q b
   obtain ⟨bi,au,h⟩:=bind_some h
   obtain ⟨a8,av,ab⟩:=Bo au
   obtain ⟨bh,az,hqx28,aw,o⟩:=N.rowV (by rw [(CH (f:=AZ) (sz:=10) (fun _=>by simp +decide only [go_sem]) _)];exact Nat.mul_pos (by omega) (by decide))
   cases hqx28
   have p:=QQ (f:=AZ) (sz:=10) (fun _=>by simp +decide only [go_sem]) ab
   have j:=GB (f:=fun x=>(AZ x).cells) 10 (fun _=>by simp +decide only [go_sem]) ab
   have l:=CH (f:=AZ) (sz:=10) (fun _=>by simp +decide only [go_sem]) (g.set d.toNat U)
   simp only [Fe,E6,E9,E8,Fb,EP,D2,D4,E3,CJ,CL,D1,DX,DZ,Fa,DW,E5,IM,Fj] at p j o l
   have v:=Ov (f:=AZ) (sz:=10) (fun _=>by simp +decide only [go_sem]) Y (k:=0) (c:=O4 Y) ab (by simp +decide only [go_sem]) (by simp +decide only [go_sem,Bt,Vl.cs,Ty.cs];first | rfl | simp [Vl.cs_length,Ty.cs_length])
   obtain ⟨ae,N,a⟩:=N.storeV (((g.set d.toNat U).set (d-1).toNat Y).flatMap fun x=>(AZ x).cells)
   have t:Bt ((g.set d.toNat U).flatMap fun x=>(AZ x).cells) ((d-1).toNat*10) (O4 Y)=((g.set d.toNat U).set (d-1).toNat Y).flatMap fun x=>(AZ x).cells:=v
   simp only [Fe,E6,E9,E8,Fb,EP,D2,D4,E3,CJ,CL,D1,DX,DZ,Fa,DW,E5,IM,Fj] at v t a
   apply Zct G6 [15,17] [0,1,2,3,8,9] kr (fun dn s=>(dn=[]/\s=⟨B++[],Rl11,L⟩)\/(dn=[15]/\s=⟨B++[],ai,L⟩)\/(dn=[17,15]/\s=⟨B++[],ae,L⟩)) 3 (B.length+0)
   ·simp +decide only [go_sem,Nat.reduceAdd]
   ·refine ⟨1,?_⟩
    rw [An];simp +decide only [go_sem,Nat.reduceAdd,Bh,K,hf14,z,E,G,w,C,D,y,F,J,u,q,b,p,j,o,l,v,t,a]
    (repeat' apply Ad)<;>first | rfl | exact cl
   ·rintro dn s (⟨rfl,rfl⟩ | ⟨rfl,rfl⟩ | ⟨rfl,rfl⟩)
    ·refine ⟨[],by kernel_rfl,1,?_⟩
     rw [An];simp +decide only [go_sem,Nat.reduceAdd,Bh,List.append_eq,List.cons_append,List.nil_append,K,hf14,z,E,G,w,C,D,y,F,J,u,q,b,p,j,o,l,v,t,a]
     have hs:=Ad u hs
     have hs:=Ad q hs
     have hs:=Ad b hs
     have hs:=Ad p hs
     have hs:=Ad j hs
     have hs:=Ad o hs
     have hs:=Ad l hs
     have hs:=Ad v hs
     have hs:=Ad t hs
     have hs:=Ad a hs
     (repeat' apply Ad)<;>first | rfl | ((repeat (first | exact .nil | refine .cons (ef hs) ?_));done) | exact cl
    ·refine ⟨[0,1,5,6,7,8,9,10,11,12,13,14],by kernel_rfl,1,?_⟩
     rw [An];simp +decide only [go_sem,Nat.reduceAdd,Bh,List.append_eq,List.cons_append,List.nil_append,K,hf14,z,E,G,w,C,D,y,F,J,u,q,b,p,j,o,l,v,t,a]
     have hs:=Ad u hs
     have hs:=Ad q hs
     have hs:=Ad b hs
     have hs:=Ad p hs
     have hs:=Ad j hs
     have hs:=Ad o hs
     have hs:=Ad l hs
     have hs:=Ad v hs
     have hs:=Ad t hs
     have hs:=Ad a hs
     (repeat' apply Ad)<;>first | rfl | ((repeat (first | exact .nil | refine .cons (ef hs) ?_));done) | exact cl
    ·refine ⟨[0,1,2,3,4,5,6,7,8,9,10,11,12,13,14,16],by kernel_rfl,1,?_⟩
     rw [An];simp +decide only [go_sem,Nat.reduceAdd,Bh,List.append_eq,List.cons_append,List.nil_append,K,hf14,z,E,G,w,C,D,y,F,J,u,q,b,p,j,o,l,v,t,a]
     have hs:=Ad u hs
     have hs:=Ad q hs
     have hs:=Ad b hs
     have hs:=Ad p hs
     have hs:=Ad j hs
     have hs:=Ad o hs
     have hs:=Ad l hs
     have hs:=Ad v hs
     have hs:=Ad t hs
     have hs:=Ad a hs
     (repeat' apply Ad)<;>first | rfl | ((repeat (first | exact .nil | refine .cons (ef hs) ?_));done) | exact cl
   ·have hs:=Ad u hs
    have hs:=Ad q hs
    have hs:=Ad b hs
    have hs:=Ad p hs
    have hs:=Ad j hs
    have hs:=Ad o hs
    have hs:=Ad l hs
    have hs:=Ad v hs
    have hs:=Ad t hs
    have hs:=Ad a hs
    refine GoodD.mk [15] kr (.inl ⟨rfl,ef hs⟩) ?_ ?_
    ·intro h;exact absurd h (by decide)
    ·intro i hi;simp only [List.mem_cons,List.not_mem_nil,or_false] at hi
     subst hi
     ·apply Um rfl rfl ev
      ·simp +decide only [go_sem,Nat.reduceAdd,Cd,K,hf14,z,E,G,w,C,D,y,F,J,u,q,b,p,j,o,l,v,t,a]
       (repeat' apply Ad)<;>first | rfl | exact cl
      simp +decide only [go_sem,Nat.reduceAdd,K,hf14,z,E,G,w,C,D,y,F,J,u,q,b,p,j,o,l,v,t,a]
      refine GoodD.mk [17] kr (.inr (.inl ⟨rfl,ef hs⟩)) ?_ ?_
      ·intro h;exact absurd h (by decide)
      ·intro i hi;simp only [List.mem_cons,List.not_mem_nil,or_false] at hi
       subst hi
       ·apply Um rfl rfl ev
        ·simp +decide only [go_sem,Nat.reduceAdd,Cd,K,hf14,z,E,G,w,C,D,y,F,J,u,q,b,p,j,o,l,v,t,a]
         (repeat' apply Ad)<;>first | rfl | exact cl
        simp +decide only [go_sem,Nat.reduceAdd,K,hf14,z,E,G,w,C,D,y,F,J,u,q,b,p,j,o,l,v,t,a]
        refine GoodD.mk [] kr (.inr (.inr (⟨rfl,ef hs⟩))) ?_ ?_
        ·intro _;apply EB [0,1,2,3,8,9];first | (simp +decide only [go_sem,Nat.reduceAdd,K,hf14,z,E,G,w,C,D,y,F,J,u,q,b,p,j,o,l,v,t,a];done) | (simp +decide only [go_sem,Nat.reduceAdd,K,hf14,z,E,G,w,C,D,y,F,J,u,q,b,p,j,o,l,v,t,a];rfl)
        ·intro i hi;cases hi
   simp +decide only [go_sem,Nat.reduceAdd,K,hf14,z,E,G,w,C,D,y,F,J,u,q,b,p,j,o,l,v,t,a]
   (repeat' apply Ad)<;>first | refine aj _ _ ?_ | exact cl
   clear aj
   obtain ⟨bd,h⟩:=Au h
   have hs:=Ad u hs
   have hs:=Ad q hs
   have hs:=Ad b hs
   have hs:=Ad p hs
   have hs:=Ad j hs
   have hs:=Ad o hs
   have hs:=Ad l hs
   have hs:=Ad v hs
   have hs:=Ad t hs
   have hs:=Ad a hs
   refine rl [0,1,2,3,8,9] hs (fun e s=>Vl11 ml11 e s (Nat.lt_succ_self _)) ?_
   exact ⟨((g.set d.toNat U).set (d-1).toNat Y),(d-1),([]),ae,ef hs,ef hs,Owns.eqV (N) N6,by first | rfl | assumption | (simp only [List.length_set];first | rfl | assumption | omega) | omega,h⟩
  ·replace h:=Cm h hf14
   have hs:=Ad hf14 hs
   refine dk 17 2 1 [0,1,2,3,8,9,34] hs G6 ?_
   refine La ?_
   refine dn hs ad ?_
   clear ad
   refine A7 false ev (ef hs) (fun hb34=>by cases hb34) (fun hb34=>?_)
   refine sx [0,1,2,3,8] hs aq ?_
   exact ⟨g,([]),Rl11,ef hs,ef hs,Owns.eqV (N) N6,by first | rfl | assumption | (simp only [List.length_set];first | rfl | assumption | omega) | omega,h⟩
 ·clear h;rintro e st ⟨Q,Xk8,Rk8,rfl,rfl,N,am,h⟩
  rw [BJ] at h
  have Z:=N.underV
  simp only [List.mem_cons,List.not_mem_nil,or_false,forall_eq_or_imp,forall_eq] at Z
  refine EA hN ag ah rfl (DY V N.len) N ow ow ?_ (vu @EK)
  obtain ⟨be,h⟩:=Au h
  refine rl [0,1,2,3,8] hs (fun e s=>Vl3 ml3 e s (Nat.lt_succ_self _)) ?_
  exact ⟨Q,(H+1),([]),Rk8,ef hs,ef hs,Owns.eqV (N) N6,by first | rfl | assumption | (simp only [List.length_set];first | rfl | assumption | omega) | omega,h⟩
def E2 (n:Nat) (b:(List Slt)->Int->Option ((List Slt))) (g:Int) (h:List Slt):Option ((List Slt)) :=
 if BN (g*2) then
  b h (g*2)
 else none
def E4 (n:Nat) (g:(List Slt)->Int->Option ((List Slt))) (q:Int) (b:Int) (h:List Slt):Option ((List Slt)) :=
 if BN (0+b) then
  if decide ((0+b)<q) then
   none
  else
   E2 n g b h
 else none
def E1 (n:Nat) (g:(List Slt)->Int->Option ((List Slt))) (q:Int) (b:Int):Nat->(List Slt)->Option ((List Slt))
 | 0,_=>none
 | m+1,h =>
  if decide ((2*b)<=q) then
   if BN (0+b) then
    none
   else none
  else
   E4 n g q b h
def Bg (n:Nat) (h:Int):Nat->(List Slt)->Int->Option ((List Slt))
 | 0,_,_=>none
 | m+1,g,b =>
  if decide (b<h) then
   if BN (2*b) then
    E1 n (Bg n h m) h b n g
   else none
  else
   some (g)
def Eb (n:Nat) (q:Int) (b:List Slt) (g:Int):Option ((List Slt)) :=
 (Bm n b g q).bind fun h =>
 Bg n q n h 20
def Df (n:Nat) (y:Int):Nat->(List Slt)->Int->Int->Option ((List Slt))
 | 0,_,_,_=>none
 | m+1,h,g,b =>
  if decide (b<=y) then
   (Bm n h g b).bind fun q =>
   if BN (b+20) then
    (Df n y m) q b (b+20)
   else none
  else
   Eb n y h g
def Ez (n:Nat) (b:List Slt) (g:Int):Option ((List Slt)) :=
 Df n g n b 0 20
theorem LW (w0:World) (n:Nat) (B:Ao) (Rw:Ap) (L:Aq) (oa0:VO) (a0:List Slt) (hGa0:Owns Rw Rw [] (Ub oa0) [(oa0,10,a0.flatMap fun x=>(AZ x).cells)]) (a1:Int) (r:(List Slt)) (h:Ez n a0 a1=some r) :
  ACalls Tryz.prog w0 144 [G7 oa0 a0.length,Ak a1,.clo 103 []] ⟨B,Rw,L⟩ fun x st=>x = .tup []/\∃ (R1:Ap),st=⟨B,R1,L⟩/\Owns Rw R1 [] (Ub oa0) [(oa0,10,r.flatMap fun x=>(AZ x).cells)]/\r.length=a0.length:=by
 rw [Ez] at h
 refine ACalls.finG (B7 (rs:=[]) Tryz.func144 rfl rfl Tryz.ntmps144 (AL Tryz.func144 rfl (by decide)) (Nat.le_of_ble_eq_true rfl) ?_)
 intro M0 W0 G v w d hu
 dsimp only at G v w d hu
 simp only [Ax]
 have c:=hGa0
 have hs:=Uu
 refine rg [0,1,2,6] hs ?_
 refine rg [0,1,2,6,7,8] hs ?_
 refine AD (fun e st=>∃ (o:List Slt) (u:Int) (Xk4:Ao) (Rk4:Ap),e=[(0,true,G7 oa0 o.length),(1,true,Ak a1),(2,true,.clo 103 []),(6,true,Ak 20),(7,true,Ak u)]/\st=⟨B++([]++Xk4),Rk4,L⟩/\Owns Rw Rk4 [] (Ub oa0) [(oa0,10,o.flatMap fun x=>(AZ x).cells)]/\o.length=a0.length/\Eb n a1 o u=some r) ?_ ?_
 ·intro K5 aa
  apply Ar
  refine AA (fun m e st=>∃ (k:List Slt) (q:Int) (l:Int) (Xl6:Ao) (Rl6:Ap),e=[(0,true,G7 oa0 k.length),(1,true,Ak a1),(2,true,.clo 103 []),(6,true,Ak 20),(7,true,Ak q),(8,true,Ak l)]/\st=⟨B++([]++Xl6),Rl6,L⟩/\Owns Rw Rl6 [] (Ub oa0) [(oa0,10,k.flatMap fun x=>(AZ x).cells)]/\k.length=a0.length/\Df n a1 m k q l=some r) n ⟨a0,0,20,([]),Rw,ef hs,ef hs,Owns.eqV (c) N6,by first | rfl | assumption | (simp only [List.length_set];first | rfl | assumption | omega) | omega,h⟩ ?_
  rintro ml6 e st ⟨k,q,l,Xl6,Rl6,rfl,rfl,c,y,h⟩ Ul6 Vl6
  cases ml6 with
  | zero=>cases h
  | succ ml6 =>
  rw [Df] at h
  have p:=c.underV
  simp only [List.mem_cons,List.not_mem_nil,or_false,forall_eq_or_imp,forall_eq] at p
  refine EA G v w rfl (DY d c.len) c ow ow ?_ (vu @EK)
  apply Am;intro K7 K
  refine rg [0,1,2,6,7,8,13] hs ?_
  refine B6 h hs ?_ ?_<;>intro hs h
  rotate_left
  ·refine sx [0,1,2,6,7] hs aa ?_
   exact ⟨k,q,([]),Rl6,ef hs,ef hs,Owns.eqV (c) N6,by first | rfl | assumption | (simp only [List.length_set];first | rfl | assumption | omega) | omega,h⟩
  refine sk [0,1,2,6,7,8] hs K ?_
  clear K
  apply Ar
  apply Am;intro K10 F
  obtain ⟨Z,O,h⟩:=bind_some h
  refine IL 0 (by decide) ?_
  refine rk 2 [0,1,2,6,8] hs ?_
  refine Jd [false,true,true,true] _ (F2 w0 n _ _ _ oa0 k c.enterV q l _ O) (hv hs) ?_;rintro _ _ ⟨rfl,Rg12,rfl,D,C⟩
  have c:=c.callG D
  refine ne hs F ?_
  clear F
  have hs:=Ad C hs
  refine rg [0,1,2,6,7,8] hs ?_
  obtain ⟨ae,h⟩:=Au h
  refine rl [0,1,2,6,7,8] hs (fun e s=>Vl6 ml6 e s (Nat.lt_succ_self _)) ?_
  exact ⟨Z,l,(l+20),([]),Rg12,ef hs,ef hs,Owns.eqV (c) N6,by first | rfl | assumption | (simp only [List.length_set];first | rfl | assumption | omega) | omega,h⟩
 ·clear h;rintro e st ⟨o,u,Xk4,Rk4,rfl,rfl,c,y,h⟩
  rw [Eb] at h
  have p:=c.underV
  simp only [List.mem_cons,List.not_mem_nil,or_false,forall_eq_or_imp,forall_eq] at p
  refine EA G v w rfl (DY d c.len) c ow ow ?_ (vu @EK)
  apply Am;intro K15 H
  obtain ⟨Y,U,h⟩:=bind_some h
  refine IL 0 (by decide) ?_
  refine rk 2 [0,1,2,6] hs ?_
  refine Jd [false,true,true,true] _ (F2 w0 n _ _ _ oa0 o c.enterV u a1 _ U) (hv hs) ?_;rintro _ _ ⟨rfl,Rg17,rfl,E,t⟩
  have c:=c.callG E
  refine ne hs H ?_
  clear H
  apply Ar
  have hs:=Ad t hs
  refine AA (fun m e st=>∃ (j:List Slt) (b:Int) (Xl18:Ao) (Rl18:Ap),e=[(0,true,G7 oa0 j.length),(1,true,Ak a1),(2,true,.clo 103 []),(6,true,Ak b)]/\st=⟨B++([]++Xl18),Rl18,L⟩/\Owns Rw Rl18 [] (Ub oa0) [(oa0,10,j.flatMap fun x=>(AZ x).cells)]/\j.length=a0.length/\Bg n a1 m j b=some r) n ⟨Y,20,([]),Rg17,ef hs,ef hs,Owns.eqV (c) N6,by first | rfl | assumption | (simp only [List.length_set];first | rfl | assumption | omega) | omega,h⟩ ?_
  rintro ml18 e st ⟨j,b,Xl18,Rl18,rfl,rfl,c,y,h⟩ Ul18 Vl18
  cases ml18 with
  | zero=>cases h
  | succ ml18 =>
  rw [Bg] at h
  have p:=c.underV
  simp only [List.mem_cons,List.not_mem_nil,or_false,forall_eq_or_imp,forall_eq] at p
  refine EA G v w rfl (DY d c.len) c ow ow ?_ (vu @EK)
  apply Am;intro K19 J
  refine rg [0,1,2,6,30] hs ?_
  refine B6 h hs ?_ ?_<;>intro hs h
  rotate_left
  ·have z:=hs.1
   refine EZ (C9 [] _) ?_ (BI _ _)
   apply Gn;simp +decide only [go_sem,Nat.reduceAdd]
   (repeat' with_reducible apply Ad)<;>first | exact cl | skip
   have hgt:=Option.some.inj h;subst hgt
   have p:=c.underV
   simp only [List.mem_cons,List.not_mem_nil,or_false,forall_eq_or_imp,forall_eq] at p
   refine Zi c (DY d c.len) rfl ev ⟨?_,_,?_,c.sub (List.nil_sublist _),by first | rfl | assumption | (simp only [List.length_set];first | rfl | assumption | omega) | omega⟩ (vu @EK)
   all_goals first | rfl | (simp +decide only [go_sem,Nat.reduceAdd,t,z];done) | (simp +decide only [go_sem,Nat.reduceAdd,Vl.cs,Ty.cs,t,z];done)
  have z:=hs.1
  refine sk [0,1,2,6] hs J ?_
  clear J
  apply Ar
  obtain ⟨ab,h⟩:=Au h
  refine rg [0,1,2,6,7,8] hs ?_
  refine AD (fun e st=>∃ (g:List Slt) (Xk25:Ao) (Rk25:Ap),e=[(0,true,G7 oa0 g.length),(1,true,Ak a1),(2,true,.clo 103 []),(6,true,Ak b),(7,true,Ak 0)]/\st=⟨B++([]++Xk25),Rk25,L⟩/\Owns Rw Rk25 [] (Ub oa0) [(oa0,10,g.flatMap fun x=>(AZ x).cells)]/\g.length=a0.length/\E4 n (Bg n a1 ml18) a1 b g=some r) ?_ ?_
  ·intro K26 N
   apply Ar
   refine AA (fun m e st=>∃ (f:List Slt) (Xl27:Ao) (Rl27:Ap),e=[(0,true,G7 oa0 f.length),(1,true,Ak a1),(2,true,.clo 103 []),(6,true,Ak b),(7,true,Ak 0),(8,true,Ak (2*b))]/\st=⟨B++([]++Xl27),Rl27,L⟩/\Owns Rw Rl27 [] (Ub oa0) [(oa0,10,f.flatMap fun x=>(AZ x).cells)]/\f.length=a0.length/\E1 n (Bg n a1 ml18) a1 b m f=some r) n ⟨j,([]),Rl18,ef hs,ef hs,Owns.eqV (c) N6,by first | rfl | assumption | (simp only [List.length_set];first | rfl | assumption | omega) | omega,h⟩ ?_
   rintro ml27 e st ⟨f,Xl27,Rl27,rfl,rfl,c,y,h⟩ Ul27 Vl27
   cases ml27 with
   | zero=>cases h
   | succ ml27 =>
   rw [E1] at h
   have p:=c.underV
   simp only [List.mem_cons,List.not_mem_nil,or_false,forall_eq_or_imp,forall_eq] at p
   refine EA G v w rfl (DY d c.len) c ow ow ?_ (vu @EK)
   apply Am;intro K28 V
   refine rg [0,1,2,6,7,8,35] hs ?_
   refine B6 h hs ?_ ?_<;>intro hs h
   rotate_left
   ·refine sx [0,1,2,6,7] hs N ?_
    exact ⟨f,([]),Rl27,ef hs,ef hs,Owns.eqV (c) N6,by first | rfl | assumption | (simp only [List.length_set];first | rfl | assumption | omega) | omega,h⟩
   exact go (tg (a:=([0,1,2,6,7,8],()))) h hs G v w d c trivial (q1 V)
  ·clear h;rintro e st ⟨g,Xk25,Rk25,rfl,rfl,c,y,h⟩
   rw [E4] at h
   have p:=c.underV
   simp only [List.mem_cons,List.not_mem_nil,or_false,forall_eq_or_imp,forall_eq] at p
   refine EA G v w rfl (DY d c.len) c ow ow ?_ (vu @EK)
   refine AD (fun e st=>∃ (i:List Slt) (Xk34:Ao) (Rk34:Ap),e=[(0,true,G7 oa0 i.length),(1,true,Ak a1),(2,true,.clo 103 []),(6,true,Ak b)]/\st=⟨B++([]++Xk34),Rk34,L⟩/\Owns Rw Rk34 [] (Ub oa0) [(oa0,10,i.flatMap fun x=>(AZ x).cells)]/\i.length=a0.length/\E2 n (Bg n a1 ml18) b i=some r) ?_ ?_
   ·intro K35 Q
    obtain ⟨ad,h⟩:=Au h
    refine rg [0,1,2,6,7,9] hs ?_
    refine rg [0,1,2,6,7,9,54] hs ?_
    refine B6 h hs ?_ ?_<;>intro hs h
    ·cases h
    refine sk [0,1,2,6] hs Q ?_
    exact ⟨g,([]),Rk25,ef hs,ef hs,Owns.eqV (c) N6,by first | rfl | assumption | (simp only [List.length_set];first | rfl | assumption | omega) | omega,h⟩
   ·clear h;rintro e st ⟨i,Xk34,Rk34,rfl,rfl,c,y,h⟩
    rw [E2] at h
    have p:=c.underV
    simp only [List.mem_cons,List.not_mem_nil,or_false,forall_eq_or_imp,forall_eq] at p
    refine EA G v w rfl (DY d c.len) c ow ow ?_ (vu @EK)
    obtain ⟨af,h⟩:=Au h
    refine rl [0,1,2,6] hs (fun e s=>Vl18 ml18 e s (Nat.lt_succ_self _)) ?_
    exact ⟨i,(b*2),([]),Rk34,ef hs,ef hs,Owns.eqV (c) N6,by first | rfl | assumption | (simp only [List.length_set];first | rfl | assumption | omega) | omega,h⟩
def Dc (n:Nat) (b:List Slt):Option ((List Slt)) :=
 (Ez n b (b.length:Int)).bind fun g =>
 some (g)
theorem Ln (w0:World) (n:Nat) (B:Ao) (Rw:Ap) (L:Aq) (oa0:VO) (a0:List Slt) (hGa0:Owns Rw Rw [] (Ub oa0) [(oa0,10,a0.flatMap fun x=>(AZ x).cells)]) (r:(List Slt)) (h:Dc n a0=some r) :
  ACalls Tryz.prog w0 102 [G7 oa0 a0.length,.clo 103 []] ⟨B,Rw,L⟩ fun x st=>x = .tup []/\∃ (R1:Ap),st=⟨B,R1,L⟩/\Owns Rw R1 [] (Ub oa0) [(oa0,10,r.flatMap fun x=>(AZ x).cells)]/\r.length=a0.length:=by
 rw [Dc] at h
 refine ACalls.finG (B7 (rs:=[]) Tryz.func102 rfl rfl Tryz.ntmps102 (AL Tryz.func102 rfl (by decide)) (Nat.le_of_ble_eq_true rfl) ?_)
 intro M0 W0 m j k b l
 dsimp only at m j k b l
 simp only [Ax]
 have d:=hGa0
 have hs:=Uu
 have a:=d.lenV (by decide:0<10) (CH (f:=AZ) (sz:=10) (fun _=>by simp +decide only [go_sem]) a0) Tryz.prog 54
 simp +decide only [go_sem] at a
 obtain ⟨o,i,h⟩:=bind_some h
 refine IL 0 (by decide) ?_
 apply As 2 []
 rw [An];simp +decide only [go_sem,Nat.reduceAdd,a]
 have hs:=Ad a hs
 (repeat' apply Ad)<;>first | (refine Jd [false,true,true] _ (LW w0 n _ _ _ oa0 a0 d.enterV (a0.length:Int) _ i) (hv hs) ?_;rintro _ _ ⟨rfl,Rg3,rfl,e,c⟩) | exact cl
 have d:=d.callG e
 rw [An];simp +decide only [go_sem,Nat.reduceAdd,a]
 (repeat' with_reducible apply Ad)<;>first | exact cl | skip
 have hgt:=Option.some.inj h;subst hgt
 have g:=d.underV
 simp only [List.mem_cons,List.not_mem_nil,or_false,forall_eq_or_imp,forall_eq] at g
 refine Zi d (DY b d.len) rfl ev ⟨?_,_,?_,d.sub (List.nil_sublist _),by first | rfl | assumption | (simp only [List.length_set];first | rfl | assumption | omega) | omega⟩ (vu @EK)
 all_goals first | rfl | (simp +decide only [go_sem,Nat.reduceAdd,a,c];done) | (simp +decide only [go_sem,Nat.reduceAdd,Vl.cs,Ty.cs,a,c];done)
def Ep (n:Nat) (g:(List Slt)->Int->Option ((List Slt))) (b:Int) (h:List Slt):Option ((List Slt)) :=
 if BN (b+1) then
  g h (b+1)
 else none
def Hy (n:Nat)  (b:List Slt):Option ((List Slt)) :=
 (Dc n b).bind fun g =>
 some (g)
def CU (n:Nat) (q:Stt) (a1:Int):Nat->(List Slt)->Int->Option ((List Slt))
 | 0,_,_=>none
 | m+1,g,b =>
  if decide (b<(q.slots.length:Int)) then
   (Dw q.slots b).bind fun h =>
   if (decide (0<h.time))&&(decide (h.time<=a1)) then
    (Cf n h).bind fun y =>
    if (g.length+1)*152<=140737488355328/\g.length+1<=4611686018427387904 then
     Ep n (CU n q a1 m) b (g++[y])
    else none
   else
    Ep n (CU n q a1 m) b g
  else
   Hy n g
def GN (n:Nat) (b:Stt) (g:Int):Option ((List Slt)) :=
 CU n b g n ([]) 0
theorem RE (w0:World) (n:Nat) (B:Ao) (Rw:Ap) (L:Aq) (a0:Stt) (a1:Int) (r:(List Slt)) (h:GN n a0 a1=some r) :
  ACalls Tryz.prog w0 71 [.agg (Dx a0),Ak a1] ⟨B,Rw,L⟩ fun x st=>x = .list (r.map AZ) .none/\st=⟨B,Rw,L⟩:=by
 rw [GN] at h
 refine hd [.tmp 4] Tryz.func71 Tryz.ntmps71 fun M0 W0 Q E F l hu j hs=>?_
 simp only [Ax]
 refine rg [1,2] hs ?_
 refine rg [1,2,5] hs ?_
 refine AD (fun e st=>∃ (k:List Slt) (i:VO) (Xk4:Ao) (Rk4:Ap),e=[(5,true,G7 i k.length)]/\st=⟨B++([Dx a0]++Xk4),Rk4,L⟩/\Owns Rw Rk4 [] .none [(i,10,k.flatMap fun x=>(AZ x).cells)]/\Hy n k=some r) ?_ ?_
 ·intro K5 U
  refine rg [1,5,9,10,11] hs ?_
  apply Ar
  refine Zex 5 rfl ?_
  refine EZ (C9 [1,5,9,10,11] _) ?_ (BI _ _);simp +decide only [go_sem,Nat.reduceAdd]
  have j:=j.nilV 10
  refine AA (fun m e st=>∃ (a:List Slt) (b:Int) (g:VO) (Xl7:Ao) (Rl7:Ap),e=[(1,true,Ak a1),(5,true,G7 g a.length),(9,true,.list (a0.slots.map AZ) .none),(10,true,Ak (a0.slots.length:Int)),(11,true,Ak b)]/\st=⟨B++([Dx a0]++Xl7),Rl7,L⟩/\Owns Rw Rl7 [] .none [(g,10,a.flatMap fun x=>(AZ x).cells)]/\CU n a0 a1 m a b=some r) n ⟨([]),0,.nil,([]),Rw,ef hs,ef hs,Owns.eqV (j) N6,h⟩ ?_
  rintro ml7 e st ⟨a,b,g,Xl7,Rl7,rfl,rfl,j,h⟩ Ul7 Vl7
  cases ml7 with
  | zero=>cases h
  | succ ml7 =>
  rw [CU] at h
  have p:=j.underV
  simp only [List.mem_cons,List.not_mem_nil,or_false,forall_eq_or_imp,forall_eq] at p
  refine AO Q E F rfl l j ow ow ?_ (vu @EK)
  refine rg [1,5,9,10,11,12] hs ?_
  apply Am;intro K10 v
  refine B6 h hs ?_ ?_<;>intro hs h
  rotate_left
  ·refine sx [5] hs U ?_
   exact ⟨a,g,([]),Rl7,ef hs,ef hs,Owns.eqV (j) N6,h⟩
  refine sk [1,5,9,10,11] hs v ?_
  clear v
  refine AD (fun e st=>∃ (d:List Slt) (c:VO) (Xk13:Ao) (Rk13:Ap),e=[(1,true,Ak a1),(5,true,G7 c d.length),(9,true,.list (a0.slots.map AZ) .none),(10,true,Ak (a0.slots.length:Int)),(11,true,Ak b)]/\st=⟨B++([Dx a0]++Xk13),Rk13,L⟩/\Owns Rw Rk13 [] .none [(c,10,d.flatMap fun x=>(AZ x).cells)]/\Ep n (CU n a0 a1 ml7) b d=some r) ?_ ?_
  ·intro K14 w
   apply Ar
   obtain ⟨D,K,h⟩:=bind_some h
   obtain ⟨Y,V,H⟩:=Bo K
   have C:=Bz (f:=AZ) H
   have hs:=Ad C hs
   refine rg [1,5,7,9,10,11] hs ?_
   refine rg [1,5,7,9,10,11,23] hs ?_
   refine B6 h hs ?_ ?_<;>intro hs h
   ·obtain ⟨G,J,h⟩:=bind_some h
    obtain ⟨y,h⟩:=Au h
    obtain ⟨Z,t,j,q⟩:=j.appendV (P:=Tryz.prog) (n:=a.length) (m:=1) RY (by rw [MS];rfl) (by decide) ((CH (f:=AZ) (sz:=10) (fun _=>by simp +decide only [go_sem]) _)) y.1 y.2 [AZ G] rfl ((a++[G]).flatMap fun x=>(AZ x).cells) (by simp only [List.flatMap_append,List.flatMap_cons,List.flatMap_nil,List.append_nil,List.nil_append,RS])
    simp only [List.mem_singleton,forall_eq,Fe,E6,E9,E8,Fb,EP,D2,D4,E3,CJ,CL,D1,DX,DZ,Fa,DW,E5,IM] at q
    have hs:=Ad q hs
    refine rk 2 [1,5,9,10,11] hs ?_
    refine Av _ (EM w0 n _ _ _ D _ J) (hv hs) ?_
    refine ne hs w ?_
    exact ⟨(a++[G]),Z,([O4 D]),t,ef hs,ef hs,Owns.eqV (j) N6,h⟩
   refine sk [1,5,9,10,11] hs w ?_
   exact ⟨a,g,([O4 D]),Rl7,ef hs,ef hs,Owns.eqV (j) N6,h⟩
  ·clear h;rintro e st ⟨d,c,Xk13,Rk13,rfl,rfl,j,h⟩
   rw [Ep] at h
   have p:=j.underV
   simp only [List.mem_cons,List.not_mem_nil,or_false,forall_eq_or_imp,forall_eq] at p
   refine AO Q E F rfl l j ow ow ?_ (vu @EK)
   obtain ⟨aa,h⟩:=Au h
   refine rl [1,5,9,10,11] hs (fun e s=>Vl7 ml7 e s (Nat.lt_succ_self _)) ?_
   exact ⟨d,(b+1),c,([]),Rk13,ef hs,ef hs,Owns.eqV (j) N6,h⟩
 ·clear h;rintro e st ⟨k,i,Xk4,Rk4,rfl,rfl,j,h⟩
  rw [Hy] at h
  have p:=j.underV
  simp only [List.mem_cons,List.not_mem_nil,or_false,forall_eq_or_imp,forall_eq] at p
  refine AO Q E F rfl l j ow ow ?_ (vu @EK)
  apply Am;intro K25 z
  obtain ⟨ab,N,h⟩:=bind_some h
  refine IL 0 (by decide) ?_
  refine rk 2 [5] hs ?_
  refine Jd [false,true] _ (Ln w0 n _ _ _ i k j.enterV _ N) (hv hs) ?_;rintro _ _ ⟨rfl,Rg27,rfl,u,o⟩
  have j:=j.callG u
  refine ne hs z ?_
  clear z
  have hs:=Ad o hs
  refine rg [4] hs ?_
  refine Zgy 4 (by first | rfl | (simp only [QA,List.length_set];rfl) | (simp only [o];rfl)) j true (.inl rfl) (by decide) ((CH (f:=AZ) (sz:=10) (fun _=>by simp +decide only [go_sem]) _)) (QB (f:=AZ) 10 (fun _=>rfl) (fun _=>by simp +decide only [go_sem]) _) (fun O j=>?_)
  simp +decide only [go_sem,Nat.reduceAdd,List.set_cons_zero,List.set_cons_succ]
  exact rt h hs l j
end Go.Proofs.YtbfenpeblbonlaaGreatDoor
