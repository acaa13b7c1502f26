/-
  Part 4 of the proof: rules and walks that the claim's last text uses.
-/
import Derived.Carry
import Derived.ChangeOld
import Derived.ChangeSlices
import Derived.Deep.DeepHandedRow
import Derived.Deep.DeepWitnessRowRef
import Derived.Lib.AppendZeros
import Derived.Lib.Bytealg
import Derived.Lib.LaidIn
import Derived.Lib.LaidU8T
import Derived.PinnedBridge
import Derived.ProofKit
import Derived.SevenTiedAt
import Derived.Shelf.SlSortCmp.WholeK
import Derived.SizedLaws
import Derived.Sort.Lot0
import Derived.Test.YtmcnjijeocmkgaaGreatDoorCards
import Derived.Test.YtmcnjijeocmkgaaGreatDoorProg
import Derived.Test.YtmcnjijeocmkgaaGreatDoorRows
import Derived.Test.YtmcnjijeocmkgaaGreatDoorTie
import Derived.Test.YtmcnjijeocmkgaaGreatDoorLh3
set_option linter.unusedSimpArgs false
set_option linter.unusedVariables false
set_option maxRecDepth 100000
set_option maxHeartbeats 4000000
namespace Go.Ev
open Go Go.RowKit Go.Shelf
def Pe (n:Nat) (rows:Aw):Own:=if n=0 then .full else .row rows.length
def Sm (n sz:Nat) (rows:Aw):List RowA:=if n=0 then rows else rows++[.grow n sz]
theorem Owns.clone {Rw rows:List RowA} {l:List (Nat × Nat × Own)} {ho:Own} (h:Owns Rw rows l ho) (sz n:Nat):Owns Rw (Sm n sz rows) ((sz,n,Pe n rows)::l) ho:=by
 unfold Sm Pe
 by_cases q:n=0
 ·rw [Ai q,Ai q];exact h.full sz n
 ·rw [Aj q,Aj q];exact h.make sz n
theorem Owns.len1 {Rw rows:List RowA} {o ho:Own} {sz n m:Nat} (h:Owns Rw rows [(sz,n,o)] ho) (e:n=m):Owns Rw rows [(sz,m,o)] ho:=e▸h
theorem A6 {B:List (List AV)} {l i:Nat} {cs:List AV} (h:B[l]? = some cs) (hne:i≠l) :
  (∀ X R L o c,DW ⟨B.set i c++X,R,L⟩ (.box l o)=true)∧(∀ R L o c,DW ⟨B.set i c,R,L⟩ (.box l o)=true)∧(∀ X R L o c,Bi ⟨B.set i c++X,R,L⟩ (.box l o)=cs)∧(∀ R L o c,Bi ⟨B.set i c,R,L⟩ (.box l o)=cs) ∧
  (∀ X c,(B.set i c++X)[l]? = some cs)∧(∀ c,(B.set i c)[l]? = some cs)∧(∀ X c,(B.set i c++X).getD l []=cs)∧(∀ c,(B.set i c).getD l []=cs):=by
 have a:∀ c,(B.set i c)[l]? = some cs:=fun c=>by rw [List.getElem?_set_ne hne];exact h
 refine ⟨fun X R L o c=>(As (a c)).1 X R L o,fun R L o c=>(As (a c)).2.1 R L o,fun X R L o c=>(As (a c)).2.2.1 X R L o,fun R L o c=>(As (a c)).2.2.2.1 R L o,fun X c=>(As (a c)).2.2.2.2.1 X,a,
  fun X c=>(As (a c)).2.2.2.2.2.2.1 X,fun c=>(As (a c)).2.2.2.2.2.2.2.1⟩
section
variable {P:Program} {w0:World} {st:St} {M:Mem} {w:World}
theorem RelSt.adoptRow (h:RelSt w0 M st w) {w':World} (hb:Below w.heap.size w w') {g cap k sz:Nat} {cs:Array Value} {ty:TypeId} (hg:w.heap.size≤g) (hcs:w'.heap[g]? = some (.cells cs ty (0,0))) (hm:cap≤maxLen) (hk:k≤cap) (hs:cs.size=cap*sz) :
  RelSt w0 (M.addRow g cap k sz (k*sz)) { st with rows:=st.rows++[.grow k sz] } w'∧Ext w0 M w (M.addRow g cap k sz (k*sz)) w':=by
 have aa:g<w'.heap.size:=(Array.getElem?_eq_some_iff.1 hcs).1
 have n:∀ b,b<w.heap.size→(M.addRow g cap k sz (k*sz)).top b=M.top b:=fun b hb=>by simp [Mem.addRow];omega
 have C:∀ x,x<w.heap.size→w'.heap[x]? = w.heap[x]? := hb.block
 have s:KeepsObj w w':=fun x o m _=>(C x (Array.getElem?_eq_some_iff.1 m).1).trans m
 have a:∀ i,i<M.NR→(M.addRow g cap k sz (k*sz)).fr i=M.fr i∧(M.addRow g cap k sz (k*sz)).blk i=M.blk i∧(M.addRow g cap k sz (k*sz)).cap i=M.cap i∧(M.addRow g cap k sz (k*sz)).rsz i=M.rsz i:=by
  intro i p
  have:¬ i=M.NR:=by omega
  simp [Mem.addRow,this]
 have z:Ext w0 M w (M.addRow g cap k sz (k*sz)) w' :=
  ⟨Nat.le_refl _,fun _ _=>rfl,Nat.le_succ _,fun i p=>by obtain ⟨a1,a2,a3,a4⟩:=a i p;exact ⟨by omega,fun _=>⟨a2,a3,a4⟩⟩,fun x ab v p u=>by
   have d:=World.block_lt_of_cell? w _ u
   refine ⟨?_,p.imp id fun q=>by rw [n x d];exact q⟩
   unfold World.cell? at u ⊢
   simp only [C x d] at u ⊢
   exact u,hb.size,Nat.le_refl _,fun _ _=>rfl,fun _ m r=>absurd r (Nat.not_lt.2 m),fun x o m r _=>s x o m r⟩
 have F:∀ l,l<M.N→M.bx l≠g:=fun l E=>by have:=h.box_lt E;omega
 refine ⟨⟨h.below.trans (hb.mono h.base_le),h.N,by simp [Mem.addRow,h.NR],fun b V=>?_,h.inj,fun l c E=>?_,fun id y hid=>?_,fun i j p hj e=>?_,h.loop.mono z rfl s⟩,z⟩
 ·have:=hb.size
  have:(M.addRow g cap k sz (k*sz)).top b=M.top b:=by simp [Mem.addRow];omega
  rw [this]
  exact h.top b (by omega)
 ·obtain ⟨a1,a2,Y,D,a3,a4,a5,a6⟩:=h.box l c E
  have d:=(Array.getElem?_eq_some_iff.1 a3).1
  exact ⟨a1,by rw [show (M.addRow g cap k sz (k*sz)).bx l=M.bx l from rfl,n _ d];exact a2,Y,D,by rw [show (M.addRow g cap k sz (k*sz)).bx l=M.bx l from rfl,C _ d];exact a3,a4,a5,fun i m r=>(a6 i m r).mono z⟩
 ·by_cases e1:id=M.NR
  ·subst e1
   simp only [h.NR,List.getElem?_concat_length,Option.some.injEq] at hid
   subst hid
   have q:(M.addRow g cap k sz (k*sz)).fr M.NR=k∧(M.addRow g cap k sz (k*sz)).blk M.NR=g∧(M.addRow g cap k sz (k*sz)).cap M.NR=cap∧(M.addRow g cap k sz (k*sz)).rsz M.NR=sz∧(M.addRow g cap k sz (k*sz)).top g=k*sz:=by simp [Mem.addRow]
   obtain ⟨q1,q2,q3,O,J⟩:=q
   simp only [RowOk,q1,q2,q3,O,J]
   have Q:=h.base_le
   exact ⟨trivial,trivial,by omega,trivial,F,hm,hk,cs,ty,hcs,hs⟩
  ·have f:id<M.NR:=by
    have:id<(st.rows++[RowA.grow k sz]).length:=(Ak.1 hid).1
    have G:=h.NR
    simp at this
    omega
   rw [List.getElem?_append_left (by rw [←h.NR];exact f)] at hid
   have hk:=h.row id y hid
   obtain ⟨Z,H,U,K⟩:=a id f
   exact hk.keep z Z K H U (n _ hk.lt) hk.ne (C _ hk.lt)
 ·have G:(M.addRow g cap k sz (k*sz)).NR=M.NR+1:=rfl
  rw [G] at p hj
  have t:(M.addRow g cap k sz (k*sz)).blk M.NR=g:=by simp [Mem.addRow]
  by_cases e1:i=M.NR
  ·by_cases e2:j=M.NR
   ·omega
   ·subst e1
    rw [t,(a j (by omega)).2.1] at e
    have:=h.row_lt (i:=j) (by omega)
    omega
  ·by_cases e2:j=M.NR
   ·subst e2
    rw [t,(a i (by omega)).2.1] at e
    have:=h.row_lt (i:=i) (by omega)
    omega
   ·rw [(a i (by omega)).2.1,(a j (by omega)).2.1] at e
    exact h.rowinj i j (by omega) (by omega) e
theorem Zh7 {w':World} {e:TypeId} {sz:Nat} {v':Value} {n:Nat} {us:Nat→Value} {xs:List AV} (hst:RelSt w0 M st w) (hb:Below w.heap.size w w') (ho:w'.ownsRow w.heap.size e sz v' n (flat us n)) (hn:xs.length=n) (h0:n≠0)
  (hus:∀ i,i<n→(us i).cells.size=sz) (hR:∀ i (hi:i<xs.length),R w0 M w (us i) xs[i]):∃ M',Ext w0 M w M' w'∧RelSt w0 M' { st with rows:=st.rows++[.grow n sz] } w'∧R w0 M' w' v' (.list xs (.row st.rows.length)):=by
 subst hn
 obtain ⟨l,h⟩:=ho
 rcases h with ⟨rfl,h0'⟩ | ⟨g,cap,cur,rfl,hg,hcur,hc1,hc2,hc3,hc4⟩
 ·exact absurd h0' h0
 ·obtain ⟨d,c⟩:=hst.adoptRow hb hg hcur hc2 hc1 hc3
  have b:=hst.NR
  refine ⟨_,c,d,.list sz us hc1 hc2 (fun i hi=>⟨hus i hi,fun j f=>?_⟩) (fun i hi=>(hR i hi).mono c) ⟨by simp [Mem.addRow,b],by simp [Mem.addRow,b],fun _=>by simp [Mem.addRow,b]⟩⟩
  have a:i*sz+j<xs.length*sz:=by
   have:(i+1)*sz≤xs.length*sz:=Nat.mul_le_mul_right _ hi
   rw [Nat.succ_mul] at this;omega
  refine ⟨.inr (by simp only [Mem.addRow,if_true,Nat.zero_add];exact a),?_⟩
  have k:=Jf hus i hi j f
  rw [←k,←hc4,List.getElem?_take_of_lt a,Array.getElem?_toList]
  simp [World.cell?,hcur]
theorem Za2 {ρ:Ren} (L:Go.Proofs.SlLaysE0.n41 P ρ) (i0:TypeInfo) (size:Nat) (hi:P.info? (ρ.t 23)=some i0) (hz1:i0.size=size) (z23:∀ w,(Go.sizeOf (ρ.t 23)).run P w = .ok size w) (a:Addr) (c:Nat) (w:World) :
  Calls P (ρ.f 41) #[.slice (some a) 0 c] w fun e w'=>∃ b,e = .returned (.slice (some b) 0 0)∧Below w.heap.size w w':=by
 have mixed:=L.mixed;have t4:=L.t4;have a4:=L.a4;have z4:=L.z4;have v4:=L.v4;have t22:=L.t22;have a22:=L.a22;have z22:=L.z22;have v22:=L.v22
 have q22:∀ (w:World) (a:Option Addr) (n c n' c':Nat),(binOp .eql (ρ.t 22) (.slice a n c) (.slice none n' c')).run P w = .ok (.bool a.isNone) w:=fun w a n c n' c'=>Lib.run_eql_slice_nil w _ _ a n c n' c' L.t22
 have u22:∀ w,Sem.run P (underlying (ρ.t 22)) w = .ok (TypeDesc.slice (ρ.t 23)) w:=run_underlying t22
 have hgo:∀ (w:World) (ty:TypeId) (ad:Addr),(Builtin.append_ #[ρ.t 22,ρ.t 22] ty #[.slice (some ad) 0 0,.slice (some a) 0 c]).run P w = .ok (.slice (some ad) 0 0) w:=fun w ty ad=>by
  simp [Builtin.append_,run_underlying t22,sizeOf,typeInfo,hi,hz1,storeCells,Builtin.lenOf,Builtin.firstCells,loadCells,loadCellsFrom]
 obtain ⟨_,_,FG⟩:=L.f41
 go_enter FG,Go.Proofs.SlBodyN.n41_ntmps ρ
 go_wp2_with (at_builtin;refine Lib.wpList_append_run _ rfl _ _ (ρ.t 22) (ρ.t 22) rfl _ _ rfl rfl _ _ (hgo _ _ _) ?_)
 go_wp2
 go_ret
 exact ⟨_,rfl,(Below.refl _ w).alloc (Nat.le_refl _) _⟩
theorem ZcD {ρ:Ren} (L:Go.Proofs.SlLaysE0.n41 P ρ) (hen:KI P (ρ.f 41)) (size bytes:Nat) (hinf:Zcg P (ρ.t 23) size bytes=true) (hsz:0<size) (z23:∀ w,(Go.sizeOf (ρ.t 23)).run P w = .ok size w) {xs:List AV} {o:Own}
  (hx:∀ y∈xs,y.cells.length=size∧A3 y=true) (hbig:xs.length*bytes≤140737488355328) :
  ACalls P w0 (ρ.f 41) [.list xs o] st fun r s=>r = .list xs (Pe xs.length st.rows)∧s={ st with rows:=Sm xs.length size st.rows }:=by
 obtain ⟨i0,z,l,U,G,V,Y⟩:=VW hinf
 refine ⟨hen,fun M w F x n=>?_⟩
 obtain ⟨v,rfl⟩:∃ v,F = #[v]:=by
  have:=n.1
  simp only [List.length_cons,List.length_nil] at this
  exact Array.size_eq_one_iff.1 this
 have hv:R w0 M w v (.list xs o):=n.2 0 (by simp) (by simp)
 have m:∀ (a:Addr) (c:Nat),xs=[]→Calls P (ρ.f 41) #[.slice (some a) 0 c] w fun en D=>∃ v M' r st',en = .returned v∧(r = .list xs (Pe xs.length st.rows)∧st'={ st with rows:=Sm xs.length size st.rows })∧Ext w0 M w M' D∧RelSt w0 M' st' D∧R w0 M' D v r:=fun a c hxs=>by
  subst hxs
  refine (Za2 L i0 size l G z23 a c w).mono ?_
  rintro en D ⟨b,rfl,d⟩
  obtain ⟨r1,r2⟩:=x.later d w.heap.size 0 (Nat.le_refl _) (.inr rfl)
  exact ⟨_,_,_,st,rfl,⟨rfl,rfl⟩,r2,r1,.emp (fun id=>by simp [Pe])⟩
 cases hv with
 | nil ho =>
  refine (Go.Proofs.AnyE.slices_Clone_nil L 0 0 w).mono ?_
  rintro en D ⟨rfl,rfl⟩
  exact ⟨_,M,_,st,rfl,⟨rfl,rfl⟩,.refl _ _ _,x,.nil (fun id=>by simp [Pe])⟩
 | @emp ad _ ho=>exact m ad 0 rfl
 | @list b off cap _ _ sz us hc hm hcell hu ho =>
  by_cases h0:xs=[]
  ·have:=m ⟨b,off,none⟩ cap h0
   rw [h0]
   rw [h0] at this
   exact this
  have C:xs.length≠0:=fun q=>h0 (List.length_eq_zero_iff.1 q)
  have g:∀ i,i<xs.length→(us i).cells.size=size:=fun i l=>by
   rw [((hu i l).cells).1];exact (hx _ (List.getElem_mem _)).1
  have h:∀ i,i<xs.length→∀ j,j<size→w.cell? ⟨b,off+i*size+j,none⟩=(us i).cells[j]? := fun i l j Z=>by
   have e:sz=size:=((hcell i l).1).symm.trans (g i l)
   subst e
   exact ((hcell i l).2 j Z).2
  refine (Go.Proofs.AnyE.slices_Clone L i0 z size bytes l U G V Y hsz z23 b off xs.length cap (flat us xs.length) w (A1 g) (Nat.le_trans hc hm) hbig (fun j u Z=>?_) (fun u K=>?_)).mono ?_
  ·have:=GE g hsz h j u Z
   rwa [E0] at this
  ·obtain ⟨i,N,O⟩:=List.mem_flatMap.1 K
   have p:i<xs.length:=by simpa using N
   obtain ⟨k,hk,rfl⟩:=List.mem_iff_getElem.1 O
   have H:=(hu i p).cells
   have J:k<(us i).cells.size:=by simpa using hk
   have:=H.2 k J (by rw [←H.1];exact J)
   rw [Array.getElem_toList]
   refine this.oneCell ((hu i p).cellsOne (fun vs Q=>?_) _ (List.getElem_mem _))
   have:=(hx _ (List.getElem_mem p)).2
   rw [Q] at this;cases this
  ·rintro en D ⟨v',rfl,E,_,d⟩
   obtain ⟨M',x1,x2,x3⟩:=Zh7 x d E rfl C g hu
   refine ⟨v',M',_,_,rfl,⟨rfl,rfl⟩,x1,?_,?_⟩
   ·rw [Sm,Aj C];exact x2
   ·rw [Pe,Aj C];exact x3
end
theorem RP {P:Program} {w0:World} {f:FuncId} {args args' cs:List AV} {st s':St} {v:AV} (h:ACalls P w0 f args' st fun r s=>r=v∧s=s') (he:(args++cs).map AV.pubA=args'):OH P w0 (.clo f cs) args st fun r t=>r=v∧t=s':=h.pub he
end Go.Ev
namespace Go.Proofs.YtmcnjijeocmkgaaGreatDoor
open Go Go.RowKit Go.Ev
def Je:Go.Shelf.Ren:=⟨fun | 41=>94 | n=>n,fun | 22=>113 | 23=>146 | 4=>4 | n=>n,fun | n=>n⟩
theorem LX:Go.Proofs.SlLaysE0.n41 Tryz.prog Je:={
 mixed:=by kernel_rfl
 f41:=⟨Tryz.f94.name,by decide,Tryz.func94.trans (congrArg some (by kernel_rfl))⟩
 t4:=Tryz.underlying4
 a4:=Tryz.isAgg4
 z4:=Tryz.sizeOf4
 v4:=Tryz.zeroValue4
 t22:=Tryz.underlying113
 a22:=Tryz.isAgg113
 z22:=Tryz.sizeOf113
 v22:=Tryz.zeroValue113 }
theorem Sr (w0:World) (B:Aq) (Rw:Aw) (L:Av) (l:List Part) (h:l.length*32≤140737488355328) :
  ACalls Tryz.prog w0 94 [.list (l.map AD) .none] ⟨B,Rw,L⟩ fun r s=>r = .list (l.map AD) .none∧s=⟨B,Rw,L⟩ :=
 TO (ρ:=Je) LX (AL Tryz.func94 rfl (by decide)) 3 32 (by kernel_rfl) (by decide) Tryz.sizeOf146 (by simp +decide only [go_sem]) (by rw [List.length_map];exact h)
theorem Rl (w0:World) (B:Aq) (Rw:Aw) (L:Av) (l:List Part) (h:l.length*32≤140737488355328) :
  ACalls Tryz.prog w0 94 [.list (l.map AD) .none] ⟨B,Rw,L⟩ fun r s=>r = .list (l.map AD) (Pe l.length Rw)∧s=⟨B,Sm l.length 3 Rw,L⟩:=by
 have:=ZcD (P:=Tryz.prog) (w0:=w0) (st:=⟨B,Rw,L⟩) (o := .none) (xs:=l.map AD) (ρ:=Je) LX (AL Tryz.func94 rfl (by decide)) 3 32 (by kernel_rfl) (by decide) Tryz.sizeOf146 (by simp +decide only [go_sem]) (by rw [List.length_map];exact h)
 rw [List.length_map] at this
 exact this
def K0:Go.Shelf.Ren:=⟨fun | 41=>356 | n=>n,fun | 22=>22 | 23=>9 | 4=>4 | n=>n,fun | n=>n⟩
theorem OI:Go.Proofs.SlLaysE0.n41 Tryz.prog K0:={
 mixed:=by kernel_rfl
 f41:=⟨Tryz.f356.name,by decide,Tryz.func356.trans (congrArg some (by kernel_rfl))⟩
 t4:=Tryz.underlying4
 a4:=Tryz.isAgg4
 z4:=Tryz.sizeOf4
 v4:=Tryz.zeroValue4
 t22:=Tryz.underlying22
 a22:=Tryz.isAgg22
 z22:=Tryz.sizeOf22
 v22:=Tryz.zeroValue22 }
theorem Qz (w0:World) (B:Aq) (Rw:Aw) (L:Av) (l:List ByteArray) (h:l.length*16≤140737488355328) :
  ACalls Tryz.prog w0 356 [.list (l.map BE) .none] ⟨B,Rw,L⟩ fun r s=>r = .list (l.map BE) .none∧s=⟨B,Rw,L⟩ :=
 TO (ρ:=K0) OI (AL Tryz.func356 rfl (by decide)) 1 16 (by kernel_rfl) (by decide) Tryz.sizeOf9 (by simp +decide only [go_sem]) (by rw [List.length_map];exact h)
end Go.Proofs.YtmcnjijeocmkgaaGreatDoor
namespace Go.Ev
open Go Go.RowKit Go.Shelf Go.Sort Go.Proofs
theorem Zb5 {α β:Type} {f:α→List β} {sz:Nat}:∀ {xs:List α},(∀ x∈xs,(f x).length=sz)→(xs.flatMap f).length=xs.length*sz
 | [],_=>by simp
 | x::xs,h=>by
  rw [List.flatMap_cons,List.length_append,h x (List.mem_cons_self ..),Zb5 (fun y a=>h y (List.mem_cons_of_mem _ a)),List.length_cons,Nat.succ_mul,Nat.add_comm]
abbrev Zf:List UInt8→List UInt8→Int:=Lib.compareBytes
theorem Zcs:∀ a,Zf a a=0
 | []=>rfl
 | x::a=>by simp only [Zf,Lib.compareBytes,UInt8.lt_irrefl,if_false];exact Zcs a
theorem Um:∀ a b,Zf b a = - Zf a b
 | [],[]=>rfl
 | [],_::_=>rfl
 | _::_,[]=>rfl
 | x::a,y::b=>by
  have ih:=Um a b
  simp only [Zf,Lib.compareBytes] at *
  by_cases h1:x<y
  ·have c:¬ y<x:=fun h=>by rw [UInt8.lt_iff_toNat_lt] at *; omega
   simp [h1,c]
  ·by_cases c:y<x
   ·simp [h1,c]
   ·simp only [h1,c,if_false];exact ih
theorem Vx:∀ a b c,Zf a b≤0→Zf b c≤0→Zf a c≤0∧(Zf a b<0∨Zf b c<0→Zf a c<0)
 | [],[],c,_,h=>⟨h,fun q=>q.elim (fun q=>absurd q (by decide)) id⟩
 | [],_::_,[],_,h=>absurd (show (1:Int)≤0 from h) (by decide)
 | [],_::_,_::_,_,_=>⟨show (-1:Int)≤0 by decide,fun _=>show (-1:Int)<0 by decide⟩
 | _::_,[],c,h,_=>absurd (show (1:Int)≤0 from h) (by decide)
 | _::_,_::_,[],_,h=>absurd (show (1:Int)≤0 from h) (by decide)
 | x::a,y::b,z::c,h1,h2=>by
  have ih:=Vx a b c
  simp only [Zf,Lib.compareBytes,UInt8.lt_iff_toNat_lt] at *
  by_cases p1:x.toNat<y.toNat
  ·by_cases p2:y.toNat<z.toNat
   ·have:x.toNat<z.toNat:=by omega
    simp [this]
   ·by_cases p3:z.toNat<y.toNat
    ·simp [p2,p3] at h2
    ·have:x.toNat<z.toNat:=by omega
     simp [this]
  ·by_cases p4:y.toNat<x.toNat
   ·simp [p1,p4] at h1
   ·simp only [p1,p4,if_false] at h1
    by_cases p2:y.toNat<z.toNat
    ·have:x.toNat<z.toNat:=by omega
     simp [this]
    ·by_cases p3:z.toNat<y.toNat
     ·simp [p2,p3] at h2
     ·simp only [p2,p3,if_false] at h2
      have d:¬ x.toNat<z.toNat:=by omega
      have e:¬ z.toNat<x.toNat:=by omega
      simp only [p1,p4,p2,p3,d,e,if_false]
      exact ih h1 h2
theorem ZjK {α:Type} (nm:α→ByteArray):SWO (ltOf fun x y:α=>Lib.compareBytes (nm x).data.toList (nm y).data.toList) where
 irrefl x:=by simp only [ltOf,decide_eq_false_iff_not];have:=Zcs (nm x).data.toList;simp only [Zf] at this;omega
 trans x y z h1 h2:=by
  simp only [ltOf,decide_eq_true_eq] at *
  exact (Vx (nm x).data.toList (nm y).data.toList (nm z).data.toList (by simp only [Zf];omega) (by simp only [Zf];omega)).2 (.inl h1)
 ntrans x y z h1 h2:=by
  simp only [ltOf,decide_eq_false_iff_not] at *
  have a:=Um (nm x).data.toList (nm y).data.toList
  have b:=Um (nm y).data.toList (nm z).data.toList
  have c:=Um (nm x).data.toList (nm z).data.toList
  have:=(Vx (nm z).data.toList (nm y).data.toList (nm x).data.toList (by simp only [Zf] at *; omega) (by simp only [Zf] at *; omega)).1
  simp only [Zf] at *
  omega
def Lc (nm:Nat→ByteArray) (n:Nat):List Nat:=(pdq (ltOf fun i j:Nat=>Lib.compareBytes (nm i).data.toList (nm j).data.toList) (Array.range n) 0 n (Lib.bitLen n) true true).toList
theorem ZbI (nm:Nat→ByteArray) (n:Nat):(Lc nm n).Perm (List.range n)∧∀ i j,i<j→j<n→¬ Lib.compareBytes (nm ((Lc nm n)[j]!)).data.toList (nm ((Lc nm n)[i]!)).data.toList<0:=by
 have h:=pdq_sorts (ltOf fun i j:Nat=>Lib.compareBytes (nm i).data.toList (nm j).data.toList) (ZjK nm) (Array.range n) 0 n (Lib.bitLen n) true true (Nat.zero_le _) (by simp) (Or.inl rfl)
 obtain ⟨⟨e,p,d⟩,o⟩:=h
 have a:(pdq (ltOf fun i j:Nat=>Lib.compareBytes (nm i).data.toList (nm j).data.toList) (Array.range n) 0 n (Lib.bitLen n) true true).size=n:=by simpa using e
 refine ⟨?_,fun i j l c=>?_⟩
 ·have f:((pdq (ltOf fun i j:Nat=>Lib.compareBytes (nm i).data.toList (nm j).data.toList) (Array.range n) 0 n (Lib.bitLen n) true true).extract 0 n).toList=Lc nm n:=by
   unfold Lc
   rw [Array.toList_extract]
   simp only [List.extract,Nat.sub_zero,List.drop_zero]
   exact List.take_of_length_le (by rw [Array.length_toList,a];exact Nat.le_refl _)
  rw [f] at d
  have m:((Array.range n).extract 0 n).toList=List.range n:=by simp [List.extract,Array.toList_range]
  rwa [m] at d
 ·have:=o i j (Nat.zero_le _) l c
  unfold ltOf at this
  have:=of_decide_eq_false this
  unfold Lc
  have g:∀ k,k<n→((pdq (ltOf fun i j:Nat=>Lib.compareBytes (nm i).data.toList (nm j).data.toList) (Array.range n) 0 n (Lib.bitLen n) true true).toList)[k]! = (pdq (ltOf fun i j:Nat=>Lib.compareBytes (nm i).data.toList (nm j).data.toList) (Array.range n) 0 n (Lib.bitLen n) true true)[k]! := fun k b=>by
   rw [getElem!_pos _ k (by rw [Array.length_toList,a];exact b),getElem!_pos _ k (by rw [a];exact b),Array.getElem_toList]
  rw [g i (by omega),g j c]
  exact this
theorem I1 (nm:Nat→ByteArray) (n:Nat):(Lc nm n).length=n:=by simpa using (ZbI nm n).1.length_eq
section
variable {P:Program} {w0:World} {st:St} {M:Mem} {w:World}
theorem RelSt.setVec (h:RelSt w0 M st w) {id ver sz:Nat} {cs cs':List AV} {w':World} (hid:st.rows[id]? = some (.vec ver sz cs)) (hb:Below w0.heap.size w w') (hoth:∀ b,b<w.heap.size→b≠M.blk id→w'.heap[b]? = w.heap[b]?)
  {c':Array Value} {ty:TypeId} (hc:w'.heap[M.blk id]? = some (.cells c' ty (0,0))) (hsz:c'.size=M.cap id*sz) (hle:cs'.length≤c'.size) (hone:∀ x∈cs',x.one=true) (hR:∀ i (h1:i<c'.size) (h2:i<cs'.length),R w0 M w c'[i] cs'[i]) :
  Ext w0 M w M w'∧RelSt w0 M { st with rows:=st.rows.set id (.vec ver sz cs') } w':=by
 have a:id<st.rows.length:=(Ak.1 hid).1
 have j:id<M.NR:=by rw [h.NR];exact a
 obtain ⟨C,O,E,y,u,D,G,c,J,f8,V,Q,H,F⟩:=h.row id _ hid
 have g:KeepsObj w w':=fun b o h1 h2=>by
  have d:=(Array.getElem?_eq_some_iff.1 h1).1
  by_cases q:b=M.blk id
  ·subst q;rw [f8] at h1;cases h1;cases h2
  ·exact (hoth b d q).trans h1
 have f:Ext w0 M w M w' :=
  ⟨Nat.le_refl _,fun _ _=>rfl,Nat.le_refl _,fun _ _=>⟨Nat.le_refl _,fun _=>⟨rfl,rfl,rfl⟩⟩,fun b U v hi hv=>by
   have d:=World.block_lt_of_cell? w _ hv
   refine ⟨?_,hi⟩
   have q:b≠M.blk id:=by
    rintro rfl
    rcases hi with hi | hi
    ·omega
    ·rw [y] at hi;omega
   unfold World.cell? at hv ⊢
   simp only [hoth b d q] at hv ⊢
   exact hv,hb.size,Nat.le_refl _,fun _ _=>rfl,fun _ h1 h2=>absurd h2 (Nat.not_lt.2 h1),fun b o h1 h2 _=>g b o h1 h2⟩
 refine ⟨f,h.below.trans hb,h.N,by simp [h.NR],fun b p=>h.top b (Nat.le_trans hb.size p),h.inj,fun l m z=>?_,fun i x hi=>?_,h.rowinj,h.loop.mono f rfl g⟩
 ·obtain ⟨a1,a2,K,r,a3,a4,a5,a6⟩:=h.box l m z
  have n:l<M.N:=by rw [h.N];exact (Ak.1 z).1
  exact ⟨a1,a2,K,r,by rw [hoth _ (Array.getElem?_eq_some_iff.1 a3).1 (u l n)];exact a3,a4,a5,fun i h1 h2=>(a6 i h1 h2).mono f⟩
 ·by_cases q:i=id
  ·subst q
   rw [List.getElem?_set_self a] at hi
   cases hi
   exact ⟨C,O,E,y,u,D,G,c',ty,hc,hsz,hle,hone,fun i h1 h2=>(hR i h1 h2).mono f⟩
  ·rw [List.getElem?_set_ne (Ne.symm q)] at hi
   have s:i<M.NR:=by rw [h.NR];exact (Ak.1 hi).1
   have k:=h.row i x hi
   have t:M.blk i≠M.blk id:=fun e=>q (h.rowinj i id s j e)
   exact k.keep f rfl rfl rfl rfl rfl k.ne (hoth _ k.lt t)
end
structure VOne (Rw rows:Aw) (sz:Nat) (xs:List AV) (x:AV):Prop where
 pre:Rw <+: rows
 calm:∀ r∈rows.drop Rw.length,∀ y∈r.cells,∀ a b c,Under a b c y
 at_:(xs=[]∧x = .list [] .seed)∨∃ id ver,x = .vec id ver 0 xs.length∧0<xs.length∧Rw.length≤id∧rows[id]? = some (.vec ver sz (xs.flatMap AV.cells))
theorem VOne.none (Rw:Aw) (sz:Nat):VOne Rw Rw sz [] (.list [] .seed):=⟨List.prefix_refl _,by simp,.inl ⟨rfl,rfl⟩⟩
theorem VOne.of_eq {Rw rows:List RowA} {sz:Nat} {xs ys:List AV} {x:AV} (h:VOne Rw rows sz xs x) (he:xs=ys):VOne Rw rows sz ys x:=he▸h
theorem VOne.len {Rw rows:List RowA} {sz:Nat} {xs:List AV} {x:AV} (h:VOne Rw rows sz xs x):Rw.length≤rows.length:=h.pre.length_le
theorem VOne.under {Rw rows:List RowA} {sz:Nat} {xs:List AV} {x:AV} (h:VOne Rw rows sz xs x) (nb nl:Nat):Under nb rows.length nl x:=by
 rcases h.at_ with ⟨_,rfl⟩ | ⟨id,ver,rfl,_,_,h3⟩
 ·exact .list (by simp) trivial
 ·exact .vec (Ak.1 h3).1
theorem VOne.cell {Rw rows:List RowA} {sz:Nat} {xs:List AV} {x:AV} (h:VOne Rw rows sz xs x):x.cells=[x]∧A3 x=true∧x.pubCell.pubCell=x.pubCell:=by
 rcases h.at_ with ⟨_,rfl⟩ | ⟨id,ver,rfl,_,_,h3⟩<;>exact ⟨rfl,rfl,rfl⟩
theorem VOne.append {P:Program} {t el:TypeId} {sz by8:Nat} {ag:Bool} {Rw rows:List RowA} {xs:List AV} {x y:AV} (h:VOne Rw rows sz xs x) (he:Mc P t=some (el,sz,ag,by8)) (hz:(Br P el).isSome=true) (hs:0<sz)
  (hb:(xs.length+1)*by8≤140737488355328) (hb2:xs.length+1≤4611686018427387904) (hy:y.cells.length=sz∧A3 y=true) (hp:y.pub=y) (hu:∀ c∈y.cells,∀ a b d,Under a b d c) (hxs:∀ z∈xs,z.cells.length=sz) :
  ∃ x' rows',VOne Rw rows' sz (xs++[y]) x'∧∀ (B:Aq) (L:Av) (o2:Own),BP P ⟨B,rows,L⟩ t x (.list [y] o2)=(True,x',⟨B,rows',L⟩):=by
 have g:=h.len
 have i:C5 P el sz by8 xs.length [y]=True:=by
  simp only [C5,hs,hz,List.length_singleton,hb,hb2,true_and,List.mem_singleton,forall_eq,hy,and_self]
 rcases h.at_ with ⟨rfl,rfl⟩ | ⟨id,ver,rfl,h1,h2,h3⟩
 ·refine ⟨.vec rows.length 0 0 1,rows++[.vec 0 sz y.cells],⟨h.pre.trans (List.prefix_append _ _),fun r hr z hz' a b c=>?_,.inr ⟨rows.length,0,rfl,by simp,g,by simp⟩⟩,fun B L o2=>?_⟩
  ·rw [List.drop_append_of_le_length g] at hr
   rcases List.mem_append.1 hr with hr | hr
   ·exact h.calm r hr z hz' a b c
   ·simp only [List.mem_singleton] at hr;subst hr;exact hu z hz' a b c
  ·simp only [BP,he,A0,BD,List.length_singleton,List.length_nil,List.flatMap_cons,List.flatMap_nil,List.append_nil,hp]
   rw [show C5 P el sz by8 0 [y]=True from i]
   simp
 ·have f:=(Ak.1 h3).1
  have e:(xs.flatMap AV.cells).length=xs.length*sz:=Zb5 hxs
  refine ⟨.vec id (ver+1) 0 (xs.length+1),rows.set id (.vec (ver+1) sz (xs.flatMap AV.cells++y.cells)),⟨Y8 h.pre h2 _,fun r hr z hz' a b c=>?_,.inr ⟨id,ver+1,by rw [List.length_append];rfl,by simp,h2,by simp [f,List.flatMap_append]⟩⟩,fun B L o2=>?_⟩
  ·rw [List.drop_set,Aa] at hr
   rcases List.mem_or_eq_of_mem_set hr with hr | rfl
   ·exact h.calm r hr z hz' a b c
   ·rcases List.mem_append.1 hz' with q | q
    ·exact h.calm (.vec ver sz (xs.flatMap AV.cells)) (by
      rw [List.mem_iff_getElem?]
      exact ⟨id-Rw.length,by rw [List.getElem?_drop,Nat.add_sub_cancel' h2];exact h3⟩) z q a b c
    ·exact hu z q a b c
  ·simp only [BP,he,A0,BD,List.length_singleton,List.flatMap_cons,List.flatMap_nil,List.append_nil,hp,C4,h3,if_true]
   rw [i]
   simp only [e,true_and,Nat.le_refl,and_self,Prod.mk.injEq,true_and,List.take_of_length_le (Nat.le_of_eq e)]
end Go.Ev
namespace Go.Proofs.YtmcnjijeocmkgaaGreatDoor
open Go Go.RowKit Go.Ev Go.Shelf Go.Sort Go.Lib
def PL:String:=(Rows.evolveWitnessRow.laid.map (·.1)).getD 2 default
abbrev Pow10 (w:World):Prop:=Lib.TabIs Tryz.prog w PL .u64 Lib.pow10Tab
theorem Pow10.below {w0 w:World} (h:Pow10 w0) (hb:Below w0.heap.size w0 w):Pow10 w:=by
 unfold Pow10 Lib.TabIs World.var? at *
 cases hg:Tryz.prog.globalNamed PL with
 | none=>rw [hg] at h;cases h
 | some g =>
  rw [hg] at h
  simp only [Af] at h ⊢
  cases hx:w0.heap[g]? with
  | none=>rw [hx] at h;cases h
  | some o =>
   rw [hb.block g (Array.getElem?_eq_some_iff.1 hx).1]
   exact h
theorem UN (u:Nat):Lib.nDigits u≤u / 10+1:=by
 induction u using Nat.strongRecOn with
 | _ u ih =>
  by_cases h:u<10
  ·rw [Lib.nDigits_small h];omega
  ·rw [Lib.nDigits_big h]
   have:=ih (u / 10) (by omega)
   omega
theorem ZcT (n:Int) (h : -9223372036854775808≤n∧n≤9223372036854775807):(Lib.itoa n).length≤maxLen:=by
 unfold Lib.itoa maxLen
 split
 ·rw [List.length_cons,Lib.decDigits_length];have:=UN n.natAbs;omega
 ·rw [Lib.decDigits_length];have:=UN n.toNat;omega
theorem Zau (w0:World) (B:Aq) (Rw:Aw) (L:Av) (hP:Pow10 w0) (n:Int) (hn : -9223372036854775808≤n∧n≤9223372036854775807) :
  ACalls Tryz.prog w0 134 [Am n] ⟨B,Rw,L⟩ fun v s'=>v = .val (.string ⟨(Lib.itoa n).toArray⟩)∧s'=⟨B,Rw,L⟩ :=
 Lx (AL Tryz.func134 rfl (by decide)) (by
  show decide ((Lib.itoa n).toArray.size≤maxLen)=true
  rw [List.size_toArray]
  exact Ah (ZcT n hn)) fun M w c d a=>by
  have:=Np (us:=[.int .i64 n]) a
  subst this
  refine (Any.strconv_Itoa Tryz.laysM171 n hn.1 hn.2 w (hP.below d)).mono ?_
  rintro e g ⟨rfl,k,b,rfl⟩
  refine ⟨rfl,rfl,rfl,rfl,by simp [grow],fun i f=>?_⟩
  show (grow (w.drewN k) b).heap[i]? = w.heap[i]?
  rw [heap_grow_old (w.drewN k) b f]
  rfl
end Go.Proofs.YtmcnjijeocmkgaaGreatDoor
namespace Go.Proofs.YtmcnjijeocmkgaaGreatDoor
open Go Go.RowKit Go.Ev
def Ku (g:Int × ByteArray × Int × Ty × List Vl) (b:ByteArray):Bool :=
 Fv g.2.1 b
theorem Yu (w0:World) (B:Aq) (Rw:Aw) (L:Av) (a0:Int × ByteArray × Int × Ty × List Vl) (la1:Nat) (a1:ByteArray) (hla1:B[la1]? = some ([.val (.string a1)])) (r:Bool) (h:Ku a0 a1=r) :
  ACalls Tryz.prog w0 214 [.agg (Am a0.1::(.val (.string a0.2.1)::(Am a0.2.2.1::((a0.2.2.2.1.cs)++([.list (a0.2.2.2.2.map Dw) .none]))))),.box la1 0] ⟨B,Rw,L⟩ fun x st=>x = .val (.bool r)∧st=⟨B,Rw,L⟩:=by
 rw [Ku] at h
 refine hd [.tmp 3] Tryz.func214 Tryz.ntmps214 fun M0 W0 f e d a g c hs=>?_
 simp only [AB]
 have b:=(Ak.1 hla1).1
 have hs:=Ae (As hla1) hs
 refine rg [1,2] hs ?_
 refine rg [3] hs ?_
 exact rT h hs a c
theorem WO (w0:World) (B:Aq) (Rw:Aw) (L:Av) (a0:Int × ByteArray × Int × Ty × List Vl) (la1:Nat) (a1:ByteArray) (hla1:B[la1]? = some ([.val (.string a1)])) :
  ACalls Tryz.prog w0 214 [.agg (Am a0.1::(.val (.string a0.2.1)::(Am a0.2.2.1::((a0.2.2.2.1.cs)++([.list (a0.2.2.2.2.map Dw) .none]))))),.box la1 0] ⟨B,Rw,L⟩ fun x st=>x = .val (.bool (Ku a0 a1))∧st=⟨B,Rw,L⟩:=Yu w0 B Rw L a0 la1 a1 hla1 _ rfl
theorem tgh {α β:Type} {a:α} {b:β} (h:Tg (a,b)):Tg a:=trivial
theorem tgt {α β:Type} {a:α} {b:β} (h:Tg (a,b)):Tg b:=trivial
theorem bI2 {α β:Type} {o:Option α} {x:α} {f:α→Option β} {r:β} {p:Prop} (hx:o=some x) (k:f x=some r→p):o.bind f=some r→p:=fun h=>by
 rw [hx] at h
 exact k h
theorem bI {α β:Type} {o:Option α} {f:α→Option β} {r:β} {p:Prop} (k:∀ y,o=some y→f y=some r→p):o.bind f=some r→p:=fun h=>by
 obtain ⟨y,a,b⟩:=bind_some h
 exact k y a b
theorem gI {β:Type} {c:Prop} [Decidable c] {x:Option β} {r:β} {p:Prop} (k:c→x=some r→p):(if c then x else none)=some r→p:=fun h=>by
 obtain ⟨a,b⟩:=Au h
 exact k a b
theorem xI {α β:Type} {l:List α} {i:Int} {F:α→Option β} {r:β} {A p:Prop} (a:A) (k:∀ x,0≤i→i<l.length→((∀ g:α→AV,(l.map g).getD i.toNat .junk=g x)∧(∀ (g:α→AV) (j:Nat),i=(j:Int)→(l.map g).getD j .junk=g x)∧A)→F x=some r→p):(BJ l i).bind F=some r→p:=fun h=>by
 obtain ⟨x,d,h⟩:=bind_some h
 obtain ⟨a1,b,c⟩:=AY d
 exact k x a1 b ⟨fun g=>AO c,fun g j e=>by rw [show j=i.toNat by omega];exact AO c,a⟩ h
section
variable {P:Program} {w0:World} {n:Nat} {M0:Mem} {W0:World} {ro:Option Nat} {e:Env} {st:St} {Q:AQ}
theorem cI {α β' β:Type} {ta:α} {tb:β'} {F:Prop} {b:Bool} {X Y r:β} (f:F) {c:Operand} {x y:Code} (ht:Tg ta→(b=true∧F)→X=r→Eb P w0 n M0 W0 ro x Q e st) (hf:Tg tb→(b=false∧F)→Y=r→Eb P w0 n M0 W0 ro y Q e st)
  (hc:AP e true c) (hb:AC e c = .val (.bool b)):(if b=true then X else Y)=r→Tg (ta,tb)→Eb P w0 n M0 W0 ro (.cond c x y) Q e st :=
 fun h _=>BL h f (ht trivial) (hf trivial) hc (fun _=>hb)
theorem cT {c:Operand} {x y:Code} (c1:AP e true c) (c2:AC e c = .val (.bool true)) (c3:Eb P w0 n M0 W0 ro x Q e st):Eb P w0 n M0 W0 ro (.cond c x y) Q e st:=AN true c1 c2 (fun _=>c3) (fun q=>Bool.noConfusion q)
theorem cF {c:Operand} {x y:Code} (c1:AP e true c) (c2:AC e c = .val (.bool false)) (c3:Eb P w0 n M0 W0 ro y Q e st):Eb P w0 n M0 W0 ro (.cond c x y) Q e st:=AN false c1 c2 (fun q=>Bool.noConfusion q) (fun _=>c3)
theorem callG {f:FuncId} {c d:Bool} {cs args args':List AV} {k:AV→St→Prop} {v:AV}
  (hA:ACalls P w0 f args' st fun r s=>r=v∧s=st) (hE:(args++cs).map AV.pubA=args') (hk:k v st):La P w0 c d (.clo f cs) args st k:=Ax v hA hE hk
theorem evI {c:Nat} {d:Bool} {all os:List Oper} {K:Env→St→Prop} (h:evS P w0 n d all (Uu P w0 n d all K c) K os e st):Uu P w0 n d all K (c+1) os e st:=h
theorem Zlr {m:Nat} {L:List Nat} (t:Tg (m::L)) (hm:P.follows .mixedOrders=true) {id:Nat} {l:List Oper}
  (hev:Uu P w0 n true l (fun e1 s1=>Uu P w0 n false l (fun e2 s2=>Q .normal (Ea L e2) s2) 9 (l.drop m) e1 s1) 9 (l.take m) e st) (hB:Xf l m=true:=by kernel_rfl):Eb P w0 n M0 W0 ro (.region id l.toArray true) Q e st:=V4 hm m 9 9 L hB hev
theorem te {B0 B bs X:List (List AV)} {Rw rows:List RowA} {L:List LoopA} {l:List (Nat × Nat × Ev.Own)} {c:Code} (hq:M0.N=B0.length∧M0.NR=Rw.length∧M0.NL=L.length∧Ev.Calm B0.length Rw.length L.length ⟨B,Rw,L⟩) (ho:Owns Rw rows l)
  (hB:B.length=B0.length) (hbs:(∀ x∈l,x.2.2.under rows.length)→∀ cs∈bs,∀ x∈cs,Under (B0.length+bs.length) rows.length L.length x)
  (he:(∀ x∈l,x.2.2.under rows.length)→Jn (B0.length+bs.length) rows.length L.length e) (h:Eb P w0 n M0 W0 ro c Q e ⟨B++bs,rows,L⟩):Eb P w0 n M0 W0 ro c Q e ⟨B++(bs++X),rows,L⟩ :=
 A8 hq.1 hq.2.1 hq.2.2.1 hB hq.2.2.2 ho (hbs ho.unders) (he ho.unders) h
theorem fI {α β' β:Type} {ta:α} {tb:β'} {F:Prop} {b:Bool} {X Y r:β} {p:Prop} (f:F) (ht:Tg ta→(b=true∧F)→X=r→p) (hf:Tg tb→(b=false∧F)→Y=r→p):(if b=true then X else Y)=r→Tg (ta,tb)→p:=fun h _=>by
 cases b with
 | true=>exact ht trivial ⟨rfl,f⟩ h
 | false=>exact hf trivial ⟨rfl,f⟩ h
theorem ckA {a b c d:Prop} (cc:d) (co:c) (ce:a) (cs:b):a∧b∧c∧d:=⟨ce,cs,co,cc⟩
def preL:List (List AV)→List (List AV)→Prop
 | [],_=>True
 | _::_,[]=>False
 | b::bs,c::cs=>c=b∧preL bs cs
attribute [go_sem] preL.eq_1 preL.eq_2 preL.eq_3
theorem Zca:∀ {bs cs:List (List AV)},preL bs cs→cs=bs++cs.drop bs.length
 | [],_,_=>rfl
 | _::_,[],h=>h.elim
 | b::bs,c::cs,h=>by rw [h.1,List.length_cons,List.drop_succ_cons,List.cons_append,←Zca h.2]
theorem ckI {B bs cs:List (List AV)} {rows:List RowA} {L:List LoopA} (h:preL bs cs):(⟨B++cs,rows,L⟩:St)=⟨B++(bs++cs.drop bs.length),rows,L⟩:=by rw [←Zca h]
theorem ckB {B:List (List AV)} {rows:List RowA} {L:List LoopA}:(⟨B,rows,L⟩:St)=⟨B++([]++[]),rows,L⟩:=by simp
theorem Owns.n1 {Rw rows:List RowA} {sz n m:Nat} {o:Ev.Own} (h:Owns Rw rows [(sz,n,o)]) (e:n=m):Owns Rw rows [(sz,m,o)]:=e▸h
theorem Owns.n2 {Rw rows:List RowA} {sz n m sz' n' m':Nat} {o o':Ev.Own} (h:Owns Rw rows [(sz,n,o),(sz',n',o')]) (e:n=m) (e':n'=m'):Owns Rw rows [(sz,m,o),(sz',m',o')]:=e▸e'▸h
structure AE (P:Program) (t el:TypeId) (sz:Nat) (ag:Bool) (by8:Nat):Prop where
 he:Mc P t=some (el,sz,ag,by8)
 hz:(Br P el).isSome=true
 hs:0<sz
theorem ae {P:Program} {t el:TypeId} {sz by8:Nat} {ag:Bool} {z:List AV} (he:Mc P t=some (el,sz,ag,by8)) (hz:Br P el=some z) (hs:0<sz:=by decide):AE P t el sz ag by8:=⟨he,by rw [hz];rfl,hs⟩
theorem aI {P:Program} {t el:TypeId} {sz by8 n:Nat} {ag:Bool} {Rw rows:List RowA} {l:List (Nat × Nat × Ev.Own)} {o:Ev.Own} {β:Type} {x:Option β} {r:β} {A p:Prop} (a:AE P t el sz ag by8) (hO:Owns Rw rows ((sz,n,o)::l)) (f:A)
  (k:∀ o' rows',Owns Rw rows' ((sz,n+1,o')::l)→((n+1)*by8≤140737488355328∧n+1≤4611686018427387904) →
   ((∀ (xs:List AV) (y:AV) (B:Aq) (L:Av) (o2:Ev.Own),xs.length=n→(∀ z∈xs,z.cells.length=sz)→BP P ⟨B,rows,L⟩ t (.list xs o) (.list [y] o2)=((y.cells.length=sz∧A3 y=true),.list (xs++[y.pub]) o',⟨B,rows',L⟩))∧A)→x=some r→p) :
  (if (n+1)*by8≤140737488355328∧n+1≤4611686018427387904 then x else none)=some r→p:=fun h=>by
 obtain ⟨b,h⟩:=Au h
 obtain ⟨o',rows',c,q⟩:=hO.append (P:=P) a.he a.hz a.hs 1 b.1 b.2
 refine k o' rows' c b ⟨fun xs y B L o2 d e=>?_,f⟩ h
 have:=q xs [y] B L o2 d rfl e
 simpa only [List.mem_singleton,forall_eq,List.map_cons,List.map_nil] using this
theorem q1 {a:Prop} (x:a):a∧True:=⟨x,trivial⟩
theorem q2 {a b:Prop} (x:a) (y:b):a∧b∧True:=⟨x,y,trivial⟩
theorem q3 {a b c:Prop} (x:a) (y:b) (z:c):a∧b∧c∧True:=⟨x,y,z,trivial⟩
theorem skI {d:Bool} {fv:AV} {args:List AV} {k:AV→St→Prop} (h:k .junk st):La P w0 false d fv args st k:=He h
theorem Zmu {B:List (List AV)} {l:Nat} {c:List AV} (h:B[l]? = some c):B[l]? = some c:=h
theorem ZiX {f:FuncId} {c d:Bool} {cs args args':List AV} {k:AV→St→Prop} {v:AV}
  (hA:ACalls P w0 f args' st fun r s=>r=v∧s=st) (hE:args++cs=args') (hk:k v st):La P w0 c d (.clo f cs) args st k:=Zg1 v hA hE hk
end
theorem go {T F C1 C2 C3 C G H HC HK p:Prop} (tL:T) (h:H) (hs:F) (hN:C1) (hNR:C2) (hNL:C3) (hcalm:C) (hO:G) (hc:HC) (hk:HK) (k:T→H→F→C1→C2→C3→C→G→HC→HK→p:=by
    intro tL h hs hN hNR hNL hcalm hO hc hk
    try
      ((with_reducible apply te ⟨hN,hNR,hNL,hcalm⟩ hO)
       case' hB=>first | rfl | simp only [List.length_set]
       case' hbs=>(intro hU;(try simp only [List.mem_cons,List.not_mem_nil,or_false,forall_eq_or_imp,forall_eq] at hU);(first | simp +decide only [go_sem,Nat.reduceAdd,Jn,hU] | simp +decide only [go_sem,Nat.reduceAdd,Jn])<;>(try (repeat' apply Ae))<;>first | omega | assumption | exact hU.1 | exact hU.2 | exact hU.2.1 | exact hU.2.2)
       case' he=>(intro hU;(try simp only [List.mem_cons,List.not_mem_nil,or_false,forall_eq_or_imp,forall_eq] at hU);(first | simp +decide only [go_sem,Nat.reduceAdd,Jn,hU] | simp +decide only [go_sem,Nat.reduceAdd,Jn])<;>(try (repeat' apply Ae))<;>first | omega | assumption | exact hU.1 | exact hU.2 | exact hU.2.1 | exact hU.2.2))
    repeat' first
      | (revert h;(with_reducible refine xI hs ?_);intro x hxa hxb hs h)
      | (revert h;(with_reducible refine bI2 (by assumption) ?_);intro h)
      | (revert h;(with_reducible refine bI ?_);intro y hy h)
      | (revert h;(first | (with_reducible refine aI hc.1 hO hs ?_) | (with_reducible refine aI hc.2.1 hO hs ?_) | (with_reducible refine aI hc.2.2.1 hO hs ?_) | (with_reducible refine aI hc.2.2.2.1 hO hs ?_) | (with_reducible refine aI hc.2.2.2.2.1 hO hs ?_));intro o rows hO hg hs h)
      | (revert h;(first | (with_reducible refine aI hc.1 (hO.full _ 0) hs ?_) | (with_reducible refine aI hc.2.1 (hO.full _ 0) hs ?_) | (with_reducible refine aI hc.2.2.1 (hO.full _ 0) hs ?_) | (with_reducible refine aI hc.2.2.2.1 (hO.full _ 0) hs ?_) | (with_reducible refine aI hc.2.2.2.2.1 (hO.full _ 0) hs ?_));intro o rows hO hg hs h)
      | (revert h;(first | (with_reducible refine aI hc.1 (hO.swap (List.Perm.swap _ _ _)) hs ?_) | (with_reducible refine aI hc.2.1 (hO.swap (List.Perm.swap _ _ _)) hs ?_) | (with_reducible refine aI hc.2.2.1 (hO.swap (List.Perm.swap _ _ _)) hs ?_) | (with_reducible refine aI hc.2.2.2.1 (hO.swap (List.Perm.swap _ _ _)) hs ?_) | (with_reducible refine aI hc.2.2.2.2.1 (hO.swap (List.Perm.swap _ _ _)) hs ?_));intro o rows hO hg hs h)
      | (revert h;(first | (with_reducible refine aI hc.1 ((hO.full _ 0).swap (List.Perm.swap _ _ _)) hs ?_) | (with_reducible refine aI hc.2.1 ((hO.full _ 0).swap (List.Perm.swap _ _ _)) hs ?_) | (with_reducible refine aI hc.2.2.1 ((hO.full _ 0).swap (List.Perm.swap _ _ _)) hs ?_) | (with_reducible refine aI hc.2.2.2.1 ((hO.full _ 0).swap (List.Perm.swap _ _ _)) hs ?_) | (with_reducible refine aI hc.2.2.2.2.1 ((hO.full _ 0).swap (List.Perm.swap _ _ _)) hs ?_));intro o rows hO hg hs h)
      | (revert h;(with_reducible refine gI ?_);intro hg h)
      | (with_reducible apply Ae)
      | ((with_reducible refine hK _ _ ?_);clear hK)
      | (with_reducible refine hk.1 _ _ ?_)
      | (with_reducible refine hk.2.1 _ _ ?_)
      | (with_reducible refine hk.2.2.1 _ _ ?_)
      | (with_reducible exact hk.2.1 _ _ h)
      | (clear hK;(with_reducible refine hK _ _ ?_);clear hK)
      | (clear hK;clear hK;(with_reducible refine hK _ _ ?_);clear hK)
      | ((with_reducible refine evI ?_);simp +decide only [go_sem,Nat.reduceAdd,hs])
      | (with_reducible refine skI ?_)
      | ((with_reducible apply callG)
         case' hA=>first | apply hc.1 | apply hc.2.1 | apply hc.2.2.1 | apply hc.2.2.2.1 | apply hc.2.2.2.2.1 | apply hc.2.2.2.2.2.1 | apply hc.2.2.2.2.2.2.1 | apply hc.2.2.2.2.2.2.2.1
         case' hE=>rfl
         try (any_goals assumption))
      | ((with_reducible apply callG)
         case' hA=>first | apply hc.1 | apply hc.2.1 | apply hc.2.2.1 | apply hc.2.2.2.1 | apply hc.2.2.2.2.1 | apply hc.2.2.2.2.2.1 | apply hc.2.2.2.2.2.2.1 | apply hc.2.2.2.2.2.2.2.1
         any_goals (show _=some _;assumption)
         case' hE=>first | rfl | (simp +decide only [go_sem,Nat.reduceAdd,hs];done) | (simp +decide only [go_sem,Nat.reduceAdd,Vl.cs,Ty.cs,hs];done)
         try (any_goals assumption))
      | ((with_reducible apply ZiX)
         case' hA=>first | apply hc.1 | apply hc.2.1 | apply hc.2.2.1 | apply hc.2.2.2.1 | apply hc.2.2.2.2.1 | apply hc.2.2.2.2.2.1 | apply hc.2.2.2.2.2.2.1 | apply hc.2.2.2.2.2.2.2.1
         case' hE=>rfl
         try (any_goals first | assumption | exact List.prefix_append _ _ | exact List.prefix_refl _ | exact hO.pre))
      | ((with_reducible apply ZiX)
         case' hA=>first | apply hc.1 | apply hc.2.1 | apply hc.2.2.1 | apply hc.2.2.2.1 | apply hc.2.2.2.2.1 | apply hc.2.2.2.2.2.1 | apply hc.2.2.2.2.2.2.1 | apply hc.2.2.2.2.2.2.2.1
         any_goals (show _=some _;assumption)
         case' hE=>first | rfl | (simp +decide only [go_sem,Nat.reduceAdd,hs];done) | (simp +decide only [go_sem,Nat.reduceAdd,Vl.cs,Ty.cs,hs];done)
         try (any_goals first | assumption | exact List.prefix_append _ _ | exact List.prefix_refl _ | exact hO.pre))
      | ((with_reducible refine Zmu ?_);first | rfl | (simp +decide only [go_sem,Nat.reduceAdd,hs];done))
      | ((with_reducible apply An);intro K hK)
      | ((with_reducible refine J9 (c:=9) tg (tgh tL) ?_);replace tL:=tgt tL)
      | (with_reducible apply Ar)
      | (revert tL;revert h;(with_reducible apply cI hs)
         case' hc=>simp +decide only [go_sem,Nat.reduceAdd]
         case' hb=>first | (simp +decide only [go_sem,Nat.reduceAdd,hs];done) | (simp +decide only [go_sem,Nat.reduceAdd,hs];rfl)
         case' ht=>intro tL hs h
         case' hf=>intro tL hs h)
      | ((with_reducible refine AM ?_)
         simp +decide only [go_sem,Nat.reduceAdd,hs]
         first | (have hgt:=Option.some.inj h;subst hgt) | subst h
         first | refine Dy hcalm rfl hO.pre ?_ ⟨?_,?_⟩ | refine FD hcalm rfl hO.pre ?_ ⟨?_,?_⟩ | refine Dy (C6 hcalm ?_) (List.length_set ..) hO.pre ?_ ⟨?_,?_⟩ | refine FD (C6 hcalm ?_) (List.length_set ..) hO.pre ?_ ⟨?_,?_⟩ | exact hk.1 _ _ rfl _
         all_goals first | rfl | (simp +decide only [go_sem,Nat.reduceAdd,hs];done) | (simp +decide only [go_sem,Nat.reduceAdd,Vl.cs,Ty.cs,hs];done) | (simp_all;done))
      | ((with_reducible refine UE (tgh tL) ?_);replace tL:=tgt tL;first | (with_reducible refine BI ?_) | (with_reducible refine E4 ?_)
         simp +decide only [go_sem,Nat.reduceAdd])
      | ((with_reducible refine Zlr (tgh tL) QQ ?_);replace tL:=tgt tL)
      | ((with_reducible apply cT)
         case' c1=>simp +decide only [go_sem,Nat.reduceAdd]
         case' c2=>first | rfl | (simp +decide only [go_sem,Nat.reduceAdd,hs];done))
      | ((with_reducible apply cF)
         case' c1=>simp +decide only [go_sem,Nat.reduceAdd]
         case' c2=>first | rfl | (simp +decide only [go_sem,Nat.reduceAdd,hs];done))
      | (revert tL;revert h;(with_reducible refine fI hs ?_ ?_)<;>(intro tL hs h;(try have hs:=Ae (of_decide_eq_true hs.1) hs);(try have hs:=Ae (of_decide_eq_false hs.1) hs);try simp +decide only [go_sem,Nat.reduceAdd,hs]))
      | ((with_reducible apply Exists.intro)
         repeat (with_reducible apply Exists.intro)
         (with_reducible apply ckA)
         case' cc=>exact h
         case' co=>first | exact hO | (refine Owns.n1 hO ?_;first | rfl | simp only [List.length_append,List.length_cons,List.length_nil,List.length_map,Nat.zero_add,Nat.add_zero]) | (refine Owns.n2 (hO.swap (List.Perm.swap _ _ _)) ?_ ?_<;>(first | rfl | simp only [List.length_append,List.length_cons,List.length_nil,List.length_map,Nat.zero_add,Nat.add_zero])) | (refine Owns.n2 hO ?_ ?_<;>(first | rfl | simp only [List.length_append,List.length_cons,List.length_nil,List.length_map,Nat.zero_add,Nat.add_zero]))
         case' cs=>first | exact ckB | (refine ckI ?_;first | rfl | (simp +decide only [go_sem,Nat.reduceAdd,hs];done))
         case' ce=>first | rfl | (simp +decide only [go_sem,Nat.reduceAdd,hs];done))
      | exact cl):p:=k tL h hs hN hNR hNL hcalm hO hc hk
def MP (rec:Vl→Option Vl) (n:Nat) (b:Vl) (b2_k22_4:List Vl) (b2_k22_5:List (ByteArray × Vl)):Option Vl :=
 some (Vl.mk b.kind b.int b.scale b.text b2_k22_4 b2_k22_5)
def G0 (rec:Vl→Option Vl) (n:Nat) (h:Vl):Nat→Int→(List Vl)→(List (ByteArray × Vl))→Option Vl
 | 0,_,_,_=>none
 | m+1,b,b2_l25_4,b2_l25_5 =>
  if decide (b<(h.fields.length:Int)) then
   (BJ h.fields b).bind fun g =>
   (rec g.2).bind fun q =>
   if (b2_l25_5.length+1)*104≤140737488355328∧b2_l25_5.length+1≤4611686018427387904 then
    if A9 (b+1) then
     (G0 rec n h m) (b+1) b2_l25_4 (b2_l25_5++([(g.1,q)]))
    else none
   else none
  else
   MP rec n h b2_l25_4 b2_l25_5
def NX (rec:Vl→Option Vl) (n:Nat) (b:Vl) (b2_k5_4:List Vl):Option Vl :=
 G0 rec n b n 0 b2_k5_4 ([])
def Im (rec:Vl→Option Vl) (n:Nat) (g:Vl):Nat→Int→(List Vl)→Option Vl
 | 0,_,_=>none
 | m+1,b,b2_l8_4 =>
  if decide (b<(g.list.length:Int)) then
   (BJ g.list b).bind fun h =>
   (rec h).bind fun q =>
   if (b2_l8_4.length+1)*88≤140737488355328∧b2_l8_4.length+1≤4611686018427387904 then
    if A9 (b+1) then
     (Im rec n g m) (b+1) (b2_l8_4++([q]))
    else none
   else none
  else
   NX rec n g b2_l8_4
def PM (rec:Vl→Option Vl) (n:Nat) (b:Vl):Option Vl :=
 Im rec n b n 0 ([])
def DX:Nat→Vl→Option Vl
 | 0,_=>none
 | n+1,b=>PM (DX n) n b
def Sl (w0:World) (F:Vl→Option Vl):Prop:=∀ (B:Aq) (Rw:Aw) (L:Av) (b:Vl) (r:Vl),F b=some r→ACalls Tryz.prog w0 56 [.agg (b.cs)] ⟨B,Rw,L⟩ fun x st=>x = .agg (r.cs)∧st=⟨B,Rw,L⟩
theorem Yd (w0:World) (rec:Vl→Option Vl) (ih:Sl w0 rec) (n:Nat):Sl w0 (PM rec n):=by
 intro B Rw L a0 r h
 rw [PM] at h
 refine hd [.cell 2 34] Tryz.func56 Tryz.ntmps56 fun M0 W0 z y x u J w hs=>?_
 simp only [AB]
 refine rg [1,2] hs ?_
 refine rg [1,2,3] hs ?_
 have hs:=Ae (Vl.cs_eqs a0) hs
 refine rg [1,2,3] hs ?_
 refine AA (fun e st=>∃ (g:List Vl) (j:Ev.Own),Ck e st B Rw L [(1,true,.box B.length 0),(2,true,.box (B.length+1) 0),(3,true,.box (B.length+2) 0)] [a0.cs,MI,[Am a0.kind,Am a0.int,Am a0.scale,.val (.string a0.text),.list (g.map Dw) j,.list ([]) .full]] [(6,g.length,j)] (NX rec n a0 g=some r)) ?_ ?_
 ·intro K6 F
  refine rg [1,2,3,12,13,14] hs ?_
  apply Ar
  refine Az (fun m e st=>∃ (v:Int) (p:List Vl) (q:Ev.Own),Ck e st B Rw L [(1,true,.box B.length 0),(2,true,.box (B.length+1) 0),(3,true,.box (B.length+2) 0),(12,true,.list (a0.list.map Dw) .none),(13,true,Am (a0.list.length:Int)),(14,true,Am v)] [a0.cs,MI,[Am a0.kind,Am a0.int,Am a0.scale,.val (.string a0.text),.list (p.map Dw) q,.list ([]) .full]] [(6,p.length,q)] (Im rec n a0 m v p=some r)) n ⟨0,([]),.full,([]),Rw,ef hs,ef hs,Owns.of_eq ((w).full 6 0) Dk,h⟩ ?_
  rintro ml8 e st ⟨v,p,q,Xl8,Rl8,rfl,rfl,w,h⟩ Ul8 Vl8
  cases ml8 with
  | zero=>cases h
  | succ ml8 =>
  rw [Im] at h
  exact go (tg (a:=([1,2,3,12,13,14,15],([1,2,3,12,13,14],[1,2,3,5,12,13,14],[5,1,2,3,12,13,14],[1,2,3,12,13,14],()),[1,2,3],()))) h hs z y x u w (q2 (ae Nh HV) ih) (q2 F (fun e s=>Vl8 ml8 e s (Nat.lt_succ_self _)))
 ·clear h;rintro e st ⟨g,j,Xk5,Rk5,rfl,rfl,w,h⟩
  rw [NX] at h
  have E:=w.unders
  simp only [List.mem_cons,List.not_mem_nil,or_false,forall_eq_or_imp,forall_eq] at E
  refine td z y x u w ?_
  refine AA (fun e st=>∃ (k:List Vl) (i:List (ByteArray × Vl)) (l:Ev.Own) (o:Ev.Own),Ck e st B Rw L [(2,true,.box (B.length+1) 0),(3,true,.box (B.length+2) 0)] [a0.cs,MI,[Am a0.kind,Am a0.int,Am a0.scale,.val (.string a0.text),.list (k.map Dw) l,.list (i.map Ua) o]] [(6,k.length,l),(7,i.length,o)] (MP rec n a0 k i=some r)) ?_ ?_
  ·intro K23 C
   refine rg [2,3,27,28,29] hs ?_
   apply Ar
   refine Az (fun m e st=>∃ (t:Int) (b:List Vl) (c:List (ByteArray × Vl)) (d:Ev.Own) (f:Ev.Own),Ck e st B Rw L [(2,true,.box (B.length+1) 0),(3,true,.box (B.length+2) 0),(27,true,.list (a0.fields.map Ua) .none),(28,true,Am (a0.fields.length:Int)),(29,true,Am t)] [a0.cs,MI,[Am a0.kind,Am a0.int,Am a0.scale,.val (.string a0.text),.list (b.map Dw) d,.list (c.map Ua) f]] [(6,b.length,d),(7,c.length,f)] (G0 rec n a0 m t b c=some r)) n ⟨0,g,([]),j,.full,([]),Rk5,ef hs,ef hs,Owns.of_eq (((w).full 7 0).swap (List.Perm.swap _ _ _)) Dk,h⟩ ?_
   rintro ml25 e st ⟨t,b,c,d,f,Xl25,Rl25,rfl,rfl,w,h⟩ Ul25 Vl25
   cases ml25 with
   | zero=>cases h
   | succ ml25 =>
   rw [G0] at h
   have E:=w.unders
   simp only [List.mem_cons,List.not_mem_nil,or_false,forall_eq_or_imp,forall_eq] at E
   obtain ⟨H,G⟩:=E
   refine td z y x u w ?_
   refine rg [2,3,27,28,29,30] hs ?_
   apply An;intro K27 D
   refine BL h hs ?_ ?_<;>intro hs h
   rotate_left
   ·refine sx [2,3] hs C ?_
    exact ⟨b,c,d,f,([]),Rl25,ef hs,ef hs,Owns.of_eq (((w).swap (List.Perm.swap _ _ _)).swap (List.Perm.swap _ _ _)) Dk,h⟩
   exact go (tg (a:=([2,3,27,28,29],[2,3,7,27,28,29],[9,2,3,27,28,29],[2,3,27,28,29],()))) h hs z y x u w (q2 (ae Zfj Zt) ih) (q2 D (fun e s=>Vl25 ml25 e s (Nat.lt_succ_self _)))
  ·clear h;rintro e st ⟨k,i,l,o,Xk22,Rk22,rfl,rfl,w,h⟩
   rw [MP] at h
   exact go (tg (a:=([2],()))) h hs z y x u w trivial trivial
theorem Ju (w0:World):∀ n:Nat,Sl w0 (DX n)
 | 0=>fun _ _ _ _ _ h=>(nomatch h)
 | n+1=>Yd w0 (DX n) (Ju w0 n) n
def Ia (rec:Ty→Option Ty) (n:Nat) (g:Int × ByteArray × Int × Ty × List Vl) (h:Ty) (b:List Vl):Option ((Int × ByteArray × Int × Ty × List Vl)) :=
 some ((g.1,g.2.1,g.2.2.1,h,b))
def Db (rec:Ty→Option Ty) (n:Nat) (h:Int × ByteArray × Int × Ty × List Vl) (z:Ty):Nat→(List Vl)→Int→Option ((Int × ByteArray × Int × Ty × List Vl))
 | 0,_,_=>none
 | m+1,g,b =>
  if decide (b<(h.2.2.2.2.length:Int)) then
   (BJ h.2.2.2.2 b).bind fun y =>
   (DX n y).bind fun q =>
   if (g.length+1)*88≤140737488355328∧g.length+1≤4611686018427387904 then
    if A9 (b+1) then
     (Db rec n h z m) (g++([q])) (b+1)
    else none
   else none
  else
   Ia rec n h z g
def DJ (rec:Ty→Option Ty) (n:Nat) (b:Int × ByteArray × Int × Ty × List Vl):Option ((Int × ByteArray × Int × Ty × List Vl)) :=
 (rec b.2.2.2.1).bind fun g =>
 if 0≤(b.2.2.2.2.length:Int)∧(b.2.2.2.2.length:Int)*88≤140737488355328∧(b.2.2.2.2.length:Int)≤4611686018427387904 then
  Db rec n b g n ([]) 0
 else none
theorem Of (w0:World) (rec:Ty→Option Ty) (ih:∀ (B:Aq) (Rw:Aw) (L:Av) (a0:Ty) (r:Ty) (h:rec a0=some r),ACalls Tryz.prog w0 321 [.agg (a0.cs)] ⟨B,Rw,L⟩ fun x st=>x = .agg (r.cs)∧st=⟨B,Rw,L⟩) (n:Nat) (B:Aq) (Rw:Aw) (L:Av) (a0:Int × ByteArray × Int × Ty × List Vl) (r:(Int × ByteArray × Int × Ty × List Vl)) (h:DJ rec n a0=some r) :
  ACalls Tryz.prog w0 278 [.agg (Am a0.1::(.val (.string a0.2.1)::(Am a0.2.2.1::((a0.2.2.2.1.cs)++([.list (a0.2.2.2.2.map Dw) .none])))))] ⟨B,Rw,L⟩ fun x st=>x = .agg (Am r.1::(.val (.string r.2.1)::(Am r.2.2.1::((r.2.2.2.1.cs)++([.list (r.2.2.2.2.map Dw) .none])))))∧st=⟨B,Rw,L⟩:=by
 rw [DJ] at h
 refine hd [.cell 2 95] Tryz.func278 Tryz.ntmps278 fun M0 W0 u p o j w k hs=>?_
 simp only [AB]
 refine rg [1,2] hs ?_
 obtain ⟨i,q,h⟩:=bind_some h
 have hs:=Ae (Ty.cs_eqs a0.2.2.2.1) hs
 have hs:=Ae (Ty.cs_eqs i) hs
 refine rc 2 [1,2] hs ?_;intro K2 l
 refine Ax _ (ih _ _ _ a0.2.2.2.1 _ q) (hv hs) ?_
 refine ne hs l ?_
 clear l
 obtain ⟨v,h⟩:=Au h
 have k:=k.make 6 0
 refine rg [1,2,3] hs ?_
 refine AA (fun e st=>∃ (g:List Vl) (f:Ev.Own),Ck e st B Rw L [(1,true,.box B.length 0),(2,true,.box (B.length+1) 0),(3,true,.list (g.map Dw) f)] [[Am a0.1,.val (.string a0.2.1),Am a0.2.2.1,Am i.kind,Am i.min,Am i.max,Am i.scale,.list (i.words.map BE) .none,.list (i.elem.map Dj) .none,.list (i.fields.map CH) .none,.list (a0.2.2.2.2.map Dw) .none],[Am 0,.val (.string (⟨#[]⟩:ByteArray)),Am 0,Am 0,Am 0,Am 0,Am 0,.list ([]) .full,.list ([]) .full,.list ([]) .full,.list ([]) .full]] [(6,g.length,f)] (Ia rec n a0 i g=some r)) ?_ ?_
 ·intro K9 t
  refine rg [1,2,3,15,16,17] hs ?_
  apply Ar
  refine Az (fun m e st=>∃ (b:List Vl) (c:Int) (d:Ev.Own),Ck e st B Rw L [(1,true,.box B.length 0),(2,true,.box (B.length+1) 0),(3,true,.list (b.map Dw) d),(15,true,.list (a0.2.2.2.2.map Dw) .none),(16,true,Am (a0.2.2.2.2.length:Int)),(17,true,Am c)] [[Am a0.1,.val (.string a0.2.1),Am a0.2.2.1,Am i.kind,Am i.min,Am i.max,Am i.scale,.list (i.words.map BE) .none,.list (i.elem.map Dj) .none,.list (i.fields.map CH) .none,.list (a0.2.2.2.2.map Dw) .none],[Am 0,.val (.string (⟨#[]⟩:ByteArray)),Am 0,Am 0,Am 0,Am 0,Am 0,.list ([]) .full,.list ([]) .full,.list ([]) .full,.list ([]) .full]] [(6,b.length,d)] (Db rec n a0 i m b c=some r)) n ⟨([]),0,((.row Rw.length)),([]),((Rw++[.grow 0 6])),ef hs,ef hs,Owns.of_eq (k) Dk,h⟩ ?_
  rintro ml11 e st ⟨b,c,d,Xl11,Rl11,rfl,rfl,k,h⟩ Ul11 Vl11
  cases ml11 with
  | zero=>cases h
  | succ ml11 =>
  rw [Db] at h
  exact go (tg (a:=([1,2,3,15,16,17,18],([1,2,3,15,16,17],[1,2,3,5,15,16,17],[1,2,3,15,16,17],[1,2,3,15,16,17],()),[1,2,3],()))) h hs u p o j k (q2 (ae Nh HV) (Ju w0 n)) (q2 t (fun e s=>Vl11 ml11 e s (Nat.lt_succ_self _)))
 ·clear h;rintro e st ⟨g,f,Xk8,Rk8,rfl,rfl,k,h⟩
  rw [Ia] at h
  exact go (tg (a:=([1,2],[2],()))) h hs u p o j k trivial trivial
def ML (rec:Ty→Option Ty) (n:Nat) (h:Ty) (g:List Ty) (b:List (Int × ByteArray × Int × Ty × List Vl)):Option Ty :=
 if h.words.length*16≤140737488355328 then
  some (Ty.mk h.kind h.min h.max h.scale h.words g b)
 else none
def GZ (rec:Ty→Option Ty) (n:Nat) (q:Ty):Nat→(List Ty)→(List (Int × ByteArray × Int × Ty × List Vl))→Int→Option Ty
 | 0,_,_,_=>none
 | m+1,h,g,b =>
  if decide (b<(q.fields.length:Int)) then
   (BJ q.fields b).bind fun y =>
   (DJ rec n y).bind fun z =>
   if (g.length+1)*160≤140737488355328∧g.length+1≤4611686018427387904 then
    if A9 (b+1) then
     (GZ rec n q m) h (g++([z])) (b+1)
    else none
   else none
  else
   ML rec n q h g
def N3 (rec:Ty→Option Ty) (n:Nat) (g:Ty) (b:List Ty):Option Ty :=
 if 0≤(g.fields.length:Int)∧(g.fields.length:Int)*160≤140737488355328∧(g.fields.length:Int)≤4611686018427387904 then
  GZ rec n g n b ([]) 0
 else none
def Is (rec:Ty→Option Ty) (n:Nat) (h:Ty):Nat→(List Ty)→Int→Option Ty
 | 0,_,_=>none
 | m+1,g,b =>
  if decide (b<(h.elem.length:Int)) then
   (BJ h.elem b).bind fun y =>
   (rec y).bind fun q =>
   if (g.length+1)*104≤140737488355328∧g.length+1≤4611686018427387904 then
    if A9 (b+1) then
     (Is rec n h m) (g++([q])) (b+1)
    else none
   else none
  else
   N3 rec n h g
def PK (rec:Ty→Option Ty) (n:Nat) (b:Ty):Option Ty :=
 if 0≤(b.elem.length:Int)∧(b.elem.length:Int)*104≤140737488355328∧(b.elem.length:Int)≤4611686018427387904 then
  Is rec n b n ([]) 0
 else none
def Hk:Nat→Ty→Option Ty
 | 0,_=>none
 | n+1,b=>PK (Hk n) n b
def R9 (w0:World) (F:Ty→Option Ty):Prop:=∀ (B:Aq) (Rw:Aw) (L:Av) (b:Ty) (r:Ty),F b=some r→ACalls Tryz.prog w0 321 [.agg (b.cs)] ⟨B,Rw,L⟩ fun x st=>x = .agg (r.cs)∧st=⟨B,Rw,L⟩
theorem Yp (w0:World) (rec:Ty→Option Ty) (ih:R9 w0 rec) (n:Nat):R9 w0 (PK rec n):=by
 intro B Rw L a0 r h
 rw [PK] at h
 refine hd [.cell 2 26] Tryz.func321 Tryz.ntmps321 fun M0 W0 z y x p N w hs=>?_
 simp only [AB]
 refine rg [1,2] hs ?_
 obtain ⟨J,h⟩:=Au h
 have w:=w.make 7 0
 refine rg [1,2,3] hs ?_
 refine AA (fun e st=>∃ (q:List Ty) (j:Ev.Own),Ck e st B Rw L [(1,true,.box B.length 0),(2,true,.box (B.length+1) 0),(3,true,.list (q.map Dj) j)] [a0.cs,[Am 0,Am 0,Am 0,Am 0,.list ([]) .full,.list ([]) .full,.list ([]) .full]] [(7,q.length,j)] (N3 rec n a0 q=some r)) ?_ ?_
 ·intro K7 F
  refine rg [1,2,3,14,15,16] hs ?_
  apply Ar
  refine Az (fun m e st=>∃ (t:List Ty) (v:Int) (u:Ev.Own),Ck e st B Rw L [(1,true,.box B.length 0),(2,true,.box (B.length+1) 0),(3,true,.list (t.map Dj) u),(14,true,.list (a0.elem.map Dj) .none),(15,true,Am (a0.elem.length:Int)),(16,true,Am v)] [a0.cs,[Am 0,Am 0,Am 0,Am 0,.list ([]) .full,.list ([]) .full,.list ([]) .full]] [(7,t.length,u)] (Is rec n a0 m t v=some r)) n ⟨([]),0,((.row Rw.length)),([]),((Rw++[.grow 0 7])),ef hs,ef hs,Owns.of_eq (w) Dk,h⟩ ?_
  rintro ml9 e st ⟨t,v,u,Xl9,Rl9,rfl,rfl,w,h⟩ Ul9 Vl9
  cases ml9 with
  | zero=>cases h
  | succ ml9 =>
  rw [Is] at h
  exact go (tg (a:=([1,2,3,14,15,16,17],([1,2,3,14,15,16],[1,2,3,5,14,15,16],[1,2,3,14,15,16],[1,2,3,14,15,16],()),[1,2,3],()))) h hs z y x p w (q2 (ae Y2 QY) ih) (q2 F (fun e s=>Vl9 ml9 e s (Nat.lt_succ_self _)))
 ·clear h;rintro e st ⟨q,j,Xk6,Rk6,rfl,rfl,w,h⟩
  rw [N3] at h
  have E:=w.unders
  simp only [List.mem_cons,List.not_mem_nil,or_false,forall_eq_or_imp,forall_eq] at E
  refine td z y x p w ?_
  obtain ⟨G,h⟩:=Au h
  have w:=w.make 11 0
  refine rg [1,2,3,6] hs ?_
  refine AA (fun e st=>∃ (i:List Ty) (g:List (Int × ByteArray × Int × Ty × List Vl)) (k:Ev.Own) (o:Ev.Own),Ck e st B Rw L [(1,true,.box B.length 0),(2,true,.box (B.length+1) 0),(3,true,.list (i.map Dj) k),(6,true,.list (g.map CH) o)] [a0.cs,[Am 0,Am 0,Am 0,Am 0,.list ([]) .full,.list ([]) .full,.list ([]) .full]] [(7,i.length,k),(11,g.length,o)] (ML rec n a0 i g=some r)) ?_ ?_
  ·intro K27 D
   refine rg [1,2,3,6,31,32,33] hs ?_
   apply Ar
   refine Az (fun m e st=>∃ (c:List Ty) (d:List (Int × ByteArray × Int × Ty × List Vl)) (l:Int) (f:Ev.Own) (b:Ev.Own),Ck e st B Rw L [(1,true,.box B.length 0),(2,true,.box (B.length+1) 0),(3,true,.list (c.map Dj) f),(6,true,.list (d.map CH) b),(31,true,.list (a0.fields.map CH) .none),(32,true,Am (a0.fields.length:Int)),(33,true,Am l)] [a0.cs,[Am 0,Am 0,Am 0,Am 0,.list ([]) .full,.list ([]) .full,.list ([]) .full]] [(7,c.length,f),(11,d.length,b)] (GZ rec n a0 m c d l=some r)) n ⟨q,([]),0,j,((.row Rk6.length)),([]),((Rk6++[.grow 0 11])),ef hs,ef hs,Owns.of_eq ((w).swap (List.Perm.swap _ _ _)) Dk,h⟩ ?_
   rintro ml29 e st ⟨c,d,l,f,b,Xl29,Rl29,rfl,rfl,w,h⟩ Ul29 Vl29
   cases ml29 with
   | zero=>cases h
   | succ ml29 =>
   rw [GZ] at h
   have E:=w.unders
   simp only [List.mem_cons,List.not_mem_nil,or_false,forall_eq_or_imp,forall_eq] at E
   obtain ⟨K,H⟩:=E
   refine td z y x p w ?_
   refine rg [1,2,3,6,31,32,33,34] hs ?_
   apply An;intro K31 C
   refine BL h hs ?_ ?_<;>intro hs h
   rotate_left
   ·refine sx [1,2,3,6] hs D ?_
    exact ⟨c,d,f,b,([]),Rl29,ef hs,ef hs,Owns.of_eq (((w).swap (List.Perm.swap _ _ _)).swap (List.Perm.swap _ _ _)) Dk,h⟩
   exact go (tg (a:=([1,2,3,6,31,32,33],[1,2,3,6,8,31,32,33],[1,2,3,6,31,32,33],[1,2,3,6,31,32,33],()))) h hs z y x p w (q2 (ae VM OQ) (Of w0 rec ih n)) (q2 C (fun e s=>Vl29 ml29 e s (Nat.lt_succ_self _)))
  ·clear h;rintro e st ⟨i,g,k,o,Xk26,Rk26,rfl,rfl,w,h⟩
   rw [ML] at h
   exact go (tg (a:=([1,2],[2],()))) h (Ae (Ty.cs_eqs a0) hs) z y x p w (q1 (Qz w0)) trivial
theorem VX (w0:World):∀ n:Nat,R9 w0 (Hk n)
 | 0=>fun _ _ _ _ _ h=>(nomatch h)
 | n+1=>Yp w0 (Hk n) (VX w0 n) n
def EM (n:Nat)  : Option Int :=
 some ((-1))
def AX (n:Nat) (h:List (Int × ByteArray × Int × Ty × List Vl)) (y:(Int × ByteArray × Int × Ty × List Vl)→Option Bool):Nat→Int→Option Int
 | 0,_=>none
 | m+1,b =>
  if decide (b<(h.length:Int)) then
   (BJ h b).bind fun q =>
   (y q).bind fun g =>
   if g then
    some (b)
   else
    if A9 (b+1) then
     (AX n h y m) (b+1)
    else none
  else
   EM n 
def Bg (n:Nat) (g:List (Int × ByteArray × Int × Ty × List Vl)) (b:(Int × ByteArray × Int × Ty × List Vl)→Option Bool):Option Int :=
 AX n g b n 0
theorem HQ (w0:World) (n:Nat) (B:Aq) (Rw:Aw) (L:Av) (a0:List (Int × ByteArray × Int × Ty × List Vl)) (fa1:FuncId) (ca1:List AV) (a1:(Int × ByteArray × Int × Ty × List Vl)→Option Bool) (ha1:∀ (x0:Int × ByteArray × Int × Ty × List Vl) r,a1 x0=some r→∀ B' rows,B <+: B'→Rw <+: rows→ACalls Tryz.prog w0 fa1 ([.agg (Am x0.1::(.val (.string x0.2.1)::(Am x0.2.2.1::((x0.2.2.2.1.cs)++([.list (x0.2.2.2.2.map Dw) .none])))))]++ca1) ⟨B',rows,L⟩ fun v s=>v = .val (.bool r)∧s=⟨B',rows,L⟩) (r:Int) (h:Bg n a0 a1=some r) :
  ACalls Tryz.prog w0 191 [.list (a0.map CH) .none,.clo fa1 ca1] ⟨B,Rw,L⟩ fun x st=>x=Am r∧st=⟨B,Rw,L⟩:=by
 rw [Bg] at h
 refine hd [.tmp 4] Tryz.func191 Tryz.ntmps191 fun M0 W0 j i g c l f hs=>?_
 simp only [AB]
 have b:=Cf (l (.clo fa1 ca1) (by simp))
 refine rg [0,1] hs ?_
 refine AA (fun e st=>Ck e st B Rw L [] [] [] (EM n  = some r)) ?_ ?_
 ·intro K4 k
  refine rg [0,1,7,8] hs ?_
  apply Ar
  refine Az (fun m e st=>∃ (d:Int),Ck e st B Rw L [(0,true,.list (a0.map CH) .none),(1,true,.clo fa1 ca1),(7,true,Am (a0.length:Int)),(8,true,Am d)] [] [] (AX n a0 a1 m d=some r)) n ⟨0,([]),Rw,ef hs,ef hs,f,h⟩ ?_
  rintro ml6 e st ⟨d,Xl6,Rl6,rfl,rfl,f,h⟩ Ul6 Vl6
  cases ml6 with
  | zero=>cases h
  | succ ml6 =>
  rw [AX] at h
  refine A8 j i g rfl c f (P0 b f) (P0 b f) ?_
  exact go (tg (a:=([0,1,7,8,9],([0,1,7,8],[0,1,5,7,8],[0,1,5,7,8,16],([4],()),[0,1,7,8],[0,1,7,8],()),[],()))) h hs j i g c f (q1 ha1) (q2 k (fun e s=>Vl6 ml6 e s (Nat.lt_succ_self _)))
 ·clear h;rintro e st ⟨Xk3,Rk3,rfl,rfl,f,h⟩
  rw [EM] at h
  refine A8 j i g rfl c f (P0 b f) (P0 b f) ?_
  refine rg [4] hs ?_
  exact rt h hs c f
def Kz (n:Nat) (b:Ty) (y:(Int × ByteArray × Int × Ty × List Vl)→Option Bool):Option ((Int × ByteArray × Int × Ty × List Vl) × Bool) :=
 if (!(decide (b.kind=9)))&&(!(decide (b.kind=10))) then
  some (((0,(⟨#[]⟩:ByteArray),0,Ty.mk 0 0 0 0 ([]) ([]) ([]),[]),false))
 else
  (Bg n b.fields y).bind fun q =>
  if decide (q<0) then
   some (((0,(⟨#[]⟩:ByteArray),0,Ty.mk 0 0 0 0 ([]) ([]) ([]),[]),false))
  else
   (BJ b.fields q).bind fun h =>
   (DJ (Hk n) n h).bind fun g =>
   some ((g,true))
theorem Zdc (w0:World) (n:Nat) (B:Aq) (Rw:Aw) (L:Av) (a0:Ty) (fa1:FuncId) (ca1:List AV) (a1:(Int × ByteArray × Int × Ty × List Vl)→Option Bool) (ha1:∀ (x0:Int × ByteArray × Int × Ty × List Vl) r,a1 x0=some r→∀ B' rows,B <+: B'→Rw <+: rows→ACalls Tryz.prog w0 fa1 ([.agg (Am x0.1::(.val (.string x0.2.1)::(Am x0.2.2.1::((x0.2.2.2.1.cs)++([.list (x0.2.2.2.2.map Dw) .none])))))]++ca1) ⟨B',rows,L⟩ fun v s=>v = .val (.bool r)∧s=⟨B',rows,L⟩) (r:(Int × ByteArray × Int × Ty × List Vl) × Bool) (h:Kz n a0 a1=some r) :
  ACalls Tryz.prog w0 213 [.agg (a0.cs),.clo fa1 ca1] ⟨B,Rw,L⟩ fun x st=>x = .tup [.agg (Am r.1.1::(.val (.string r.1.2.1)::(Am r.1.2.2.1::((r.1.2.2.2.1.cs)++([.list (r.1.2.2.2.2.map Dw) .none]))))),.val (.bool r.2)]∧st=⟨B,Rw,L⟩:=by
 rw [Kz] at h
 refine hd [.cell 4 95,.tmp 5] Tryz.func213 Tryz.ntmps213 fun M0 W0 m k i b p f hs=>?_
 simp only [AB]
 have j:=Cf (p (.clo fa1 ca1) (by simp))
 refine rg [1,2,4] hs ?_
 apply An;intro K2 d
 refine rg [1,2,4,14] hs ?_
 refine BL h hs ?_ ?_<;>intro hs h
 ·refine rg [4,5] hs ?_
  exact rt h hs b f
 refine sk [1,2,4] hs d ?_
 clear d
 obtain ⟨q,e,h⟩:=bind_some h
 refine rc 2 [2,4,6] hs ?_;intro K6 g
 refine Ax _ (HQ w0 n _ _ _ a0.fields fa1 ca1 a1 (fun x0 r o l c q1 q2=>ha1 x0 r o l c (List.IsPrefix.trans px q1) (f.pre.trans q2)) _ e) (hv hs) ?_
 exact go (tg (a:=([2,4,6,21],([4,5],()),[2,4,6],[4,5],()))) h hs m k i b f (q1 (Of w0 (Hk n) (VX w0 n) n)) (q1 g)
def Jt (n:Nat) (q:Ty) (g:ByteArray):Option ((Int × ByteArray × Int × Ty × List Vl) × Bool) :=
 (Kz n q (fun (h:Int × ByteArray × Int × Ty × List Vl)=>some (Ku h g))).bind fun b =>
 some ((b.1,b.2))
theorem QH (w0:World) (n:Nat) (B:Aq) (Rw:Aw) (L:Av) (a0:Ty) (a1:ByteArray) (r:(Int × ByteArray × Int × Ty × List Vl) × Bool) (h:Jt n a0 a1=some r) :
  ACalls Tryz.prog w0 144 [.agg (a0.cs),.val (.string a1)] ⟨B,Rw,L⟩ fun x st=>x = .tup [.agg (Am r.1.1::(.val (.string r.1.2.1)::(Am r.1.2.2.1::((r.1.2.2.2.1.cs)++([.list (r.1.2.2.2.2.map Dw) .none]))))),.val (.bool r.2)]∧st=⟨B,Rw,L⟩:=by
 rw [Jt] at h
 refine hd [.cell 4 95,.tmp 5] Tryz.func144 Tryz.ntmps144 fun M0 W0 g e d a j c hs=>?_
 simp only [AB]
 refine rg [2,3,4] hs ?_
 obtain ⟨k,hy3,h⟩:=bind_some h
 refine rc 2 [4,5] hs ?_;intro K2 b
 refine Ax _ (Zdc w0 n _ _ _ a0 214 [.box (B.length+1) 0] (fun (x0:Int × ByteArray × Int × Ty × List Vl)=>some (Ku x0 a1)) (fun x0 r hx i rows' hB' f=>by cases hx;exact WO w0 _ _ _ x0 _ a1 (D7 hB' ev)) _ hy3) (hv hs) ?_
 refine ne hs b ?_
 clear b
 exact rt h hs a c
end Go.Proofs.YtmcnjijeocmkgaaGreatDoor
namespace Go.Ev
open Go Go.RowKit
def Mem.start:Mem:=⟨0,0,fun _=>0,fun _=>0,fun _=>0,fun _=>0,fun _=>0,fun _=>0,0,fun _=>0⟩
theorem Zdp (W:World):RelSt W Mem.start ⟨[],[],[]⟩ W where
 below := .refl _ _
 N:=rfl
 NR:=rfl
 top:=fun _ _=>rfl
 inj:=fun _ _ h=>absurd h (Nat.not_lt_zero _)
 box:=fun _ _ h=>by simp at h
 row:=fun _ _ h=>by simp at h
 rowinj:=fun _ _ h=>absurd h (Nat.not_lt_zero _)
 loop:=⟨rfl,fun _ _ h=>absurd h (Nat.not_lt_zero _),fun _ _ h=>by simp at h⟩
theorem T9 {P:Program} {f:FuncId} {W:World} {vals:Array Value} {args:List AV} {r:Value} (h:ACalls P W f args ⟨[],[],[]⟩ fun v st=>v = .val r∧st=⟨[],[],[]⟩) (hr:RowR W Mem.start W vals args) :
  Calls P f vals W fun e w'=>e = .returned r∧Below W.heap.size W w' :=
 (h.2 Mem.start W vals (Zdp W) hr).mono fun en w' ⟨v,M',a,st,h1,⟨h2,_⟩,_,h4,h5⟩=>by
  subst h2
  have:=h5.val_inv.1
  subst this
  exact ⟨h1,h4.below⟩
theorem Ze6 {W:World} {v:Value} {x:AV} (h:R W Mem.start W v x):RowR W Mem.start W #[v] [x]:=⟨rfl,fun i b a=>by
 obtain rfl:i=0:=by simp at a;exact a
 exact h⟩
end Go.Ev
namespace Go.Proofs.YtmcnjijeocmkgaaGreatDoor
open Go Go.Shelf Go.ChangeShapes Go.WideShapes Go.ChangeAt Go.RowKit Go.Lib Go.Ev
open Go.ChangeMaps (open_string shut_string)
set_option maxRecDepth 100000
theorem ZhW:ownKnob Tryz.prog.godebug=none:=by kernel_rfl
def Zk3:DataW Unit→List Value
 | .lit (.int k z)=>[.int k z]
 | .agg l=>l.flatMap fun | .lit (.int k z)=>[.int k z] | _=>[]
 | _=>[]
def Zly:DataW Unit→List Value
 | .agg l=>l.flatMap Zk3
 | _=>[]
theorem V3 {W:World} (h:Lib.VarReads Tryz.prog W PL Rows.laid_internal_strconv_uint64pow10):Pow10 W:=by
 obtain ⟨g,t,cs,a,p,c,d,f,b⟩:=h
 obtain rfl:=Option.some.inj ((show Tryz.prog.globalNamed PL=some 4 by kernel_rfl).symm.trans c)
 obtain rfl:=Option.some.inj ((show (Tryz.prog.globals[4]?).map (·.type)=some 339 by kernel_rfl).symm.trans d)
 have e:(Rows.laid_internal_strconv_uint64pow10:DataW Unit)=Lib.tabData .u64 Lib.pow10Tab:=by kernel_rfl
 rw [e] at b
 unfold Pow10 Lib.TabIs
 rw [f,←Lib.cells_of_tab (n:=20) (k := .u64) (zs:=Lib.pow10Tab) Tryz.underlying339 Tryz.underlying301 (by kernel_rfl) (by kernel_rfl) b]
set_option maxRecDepth 100000
mutual
def Vl.wf:Vl→Prop
 | .mk k i s t l f=>A9 k∧A9 i∧A9 s∧t.size≤maxLen∧l.length≤maxLen∧f.length≤maxLen∧Zfy l∧Zem f
def Zfy:List Vl→Prop
 | []=>True
 | v::r=>v.wf∧Zfy r
def Zem:List (ByteArray × Vl)→Prop
 | []=>True
 | (n,v)::r=>n.size≤maxLen∧v.wf∧Zem r
end
theorem Zao:∀ l,Zfy l↔∀ v∈l,v.wf
 | []=>by simp [Zfy]
 | v::r=>by simp [Zfy,Zao r]
theorem ZK:∀ l,Zem l↔∀ p∈l,p.1.size≤maxLen∧p.2.wf
 | []=>by simp [Zem]
 | (n,v)::r=>by simp [Zem,ZK r,and_assoc]
mutual
def Ty.wf:Ty→Prop
 | .mk k lo hi s w e f=>A9 k∧A9 lo∧A9 hi∧A9 s∧(∀ x∈w,x.size≤maxLen)∧w.length≤maxLen∧e.length≤maxLen∧f.length≤maxLen∧Zeh e∧ZY f
def Zeh:List Ty→Prop
 | []=>True
 | v::r=>v.wf∧Zeh r
def ZY:List (Int × ByteArray × Int × Ty × List Vl)→Prop
 | []=>True
 | (n,s,d,t,l)::r=>(A9 n∧s.size≤maxLen∧A9 d∧t.wf∧l.length≤maxLen∧∀ v∈l,v.wf)∧ZY r
end
theorem Z1:∀ l,Zeh l↔∀ v∈l,v.wf
 | []=>by simp [Zeh]
 | v::r=>by simp [Zeh,Z1 r]
theorem W7:∀ l,ZY l↔∀ p∈l,A9 p.1∧p.2.1.size≤maxLen∧A9 p.2.2.1∧p.2.2.2.1.wf∧p.2.2.2.2.length≤maxLen∧∀ v∈p.2.2.2.2,v.wf
 | []=>by simp [ZY]
 | (n,s,d,t,l)::r=>by simp [ZY,W7 r]
mutual
def Vl.bulk:Vl→Nat
 | .mk _ _ _ t l f=>1+t.size+QA l+Yr f
def QA:List Vl→Nat
 | []=>0
 | v::r=>v.bulk+QA r
def Yr:List (ByteArray × Vl)→Nat
 | []=>0
 | (n,v)::r=>n.size+v.bulk+Yr r
end
def Ys:List ByteArray→Nat
 | []=>0
 | w::r=>w.size+1+Ys r
mutual
def Ty.bulk:Ty→Nat
 | .mk _ _ _ _ w e f=>1+Ys w+YP e+Uk f
def YP:List Ty→Nat
 | []=>0
 | v::r=>v.bulk+YP r
def Uk:List (Int × ByteArray × Int × Ty × List Vl)→Nat
 | []=>0
 | (_,n,_,t,l)::r=>n.size+t.bulk+QA l+Uk r
end
theorem Qi:∀ l,QA l=(l.map Vl.bulk).sum
 | []=>rfl
 | v::r=>by rw [QA,Qi r];rfl
theorem Vt:∀ l,Yr l=(l.map fun p=>p.1.size+p.2.bulk).sum
 | []=>rfl
 | (n,v)::r=>by rw [Yr,Vt r];rfl
theorem UW:∀ l,Ys l=(l.map fun w=>w.size+1).sum
 | []=>rfl
 | v::r=>by rw [Ys,UW r];rfl
theorem UI:∀ l,YP l=(l.map Ty.bulk).sum
 | []=>rfl
 | v::r=>by rw [YP,UI r];rfl
theorem Tt:∀ l,Uk l=(l.map fun p=>p.2.1.size+p.2.2.2.1.bulk+QA p.2.2.2.2).sum
 | []=>rfl
 | (a,n,b,t,l)::r=>by rw [Uk,Tt r];rfl
def Part.wf (p:Part):Prop:=A9 p.kind∧A9 p.index∧p.name.size≤maxLen
def Sch.wf (s:Sch):Prop:=s.name.size≤maxLen∧A9 s.version∧s.type.wf
section
variable {H:Type} {enc:TypeId × Value→H} {W:World}
def RC (W:World) (cs:List Value) (xs:List AV):Prop:=cs.length=xs.length∧∀ i (h1:i<cs.length) (h2:i<xs.length),R W Mem.start W cs[i] xs[i]
theorem RC.nil:RC W [] []:=⟨rfl,fun i a=>absurd a (by simp)⟩
theorem RC.cons {v:Value} {x:AV} {cs:List Value} {xs:List AV} (h:R W Mem.start W v x) (k:RC W cs xs):RC W (v::cs) (x::xs):=⟨by simp [k.1],fun i a b=>by
 cases i with
 | zero=>exact h
 | succ i=>simpa using k.2 i (by simpa using a) (by simpa using b)⟩
theorem RC.app {cs ds:List Value} {xs ys:List AV} (h:RC W cs xs) (k:RC W ds ys):RC W (cs++ds) (xs++ys):=by
 refine ⟨by simp [h.1,k.1],fun i a b=>?_⟩
 by_cases c:i<cs.length
 ·rw [List.getElem_append_left c,List.getElem_append_left (h.1▸c)];exact h.2 i c _
 ·rw [List.getElem_append_right (Nat.le_of_not_lt c),List.getElem_append_right (h.1▸Nat.le_of_not_lt c)]
  simp only [h.1]
  exact k.2 _ (by have:=h.1;rw [List.length_append] at a;omega) (by have:=h.1;rw [List.length_append] at b;omega)
theorem RC.agg {cs:List Value} {xs:List AV} (h:RC W cs xs) (h1:∀ x∈xs,x.one=true):R W Mem.start W (.agg cs.toArray) (.agg xs) := .agg (by simpa using h.1) h1 (fun i a b=>by simpa using h.2 i (by simpa using a) b)
noncomputable abbrev Td (enc:TypeId × Value→H) (W:World) (n:Nat) (t:TypeId) (cs:List Value):Option (DataW H × List MemPlace):=DataW.trod enc Tryz.prog W 0 (fun _=>true) true n t cs
theorem Sv (d:DataW H):1≤Rows.uptoBulk d:=by
 cases d with
 | lit l=>cases l<;>simp [Rows.uptoBulk]
 | _=>simp [Rows.uptoBulk]
theorem Xc {α:Type} (m:α→Nat):∀ (l:List α) (es:List (DataW H × List MemPlace)),l.length=es.length→(∀ i (h1:i<l.length) (h2:i<es.length),m l[i]≤Rows.uptoBulk es[i].1)→(l.map m).sum≤Rows.uptoBulkAll (es.map (·.1))
 | [],_,_,_=>by simp
 | y::r,[],h,_=>by simp at h
 | y::r,e::es,h,k=>by
  have a:=k 0 (by simp) (by simp)
  have:=Xc m r es (by simpa using h) (fun i h1 h2=>by have:=k (i+1) (by simpa using h1) (by simpa using h2);simpa using this)
  simp only [List.map_cons,List.sum_cons,Rows.uptoBulkAll,List.getElem_cons_zero] at a ⊢
  omega
theorem LM {n:Nat} {cs:List Value} {x:DataW H × List MemPlace} (h:Td enc W n 3 cs=some x):∃ z,A9 z∧cs=[.int .i64 z]:=by
 obtain ⟨z,rfl,_,a⟩:=DataW.trod_int Tryz.underlying3 h
 refine ⟨z,?_,rfl⟩
 simp [Lit.wf,IntKind.min,IntKind.max,IntKind.signed,IntKind.bits] at a
 unfold A9
 omega
theorem SK {n:Nat} {cs:List Value} {x:DataW H × List MemPlace} (h:Td enc W n 9 cs=some x):∃ s:ByteArray,s.size≤maxLen∧cs=[.string s]∧s.size+1≤Rows.uptoBulk x.1:=by
 obtain ⟨s,rfl,rfl,a⟩:=DataW.trod_string Tryz.underlying9 h
 exact ⟨s,a,rfl,by simp [Rows.uptoBulk]⟩
theorem G5 {α:Type} (f:α→AV) (p:α→Prop) (m:α→Nat) {t e:TypeId} {sz:Nat} (ht:Tryz.prog.underlying t=some (.slice e)) (hc:Tryz.prog.cellsOf e=sz) (hsz:0<sz) {n:Nat}
  (H0:∀ cs x,Td enc W n e cs=some x→∃ y u,p y∧u.cells.toList=cs∧R W Mem.start W u (f y)∧m y≤Rows.uptoBulk x.1) {cs:List Value} {x:DataW H × List MemPlace} (h:Td enc W (n+1) t cs=some x) :
  ∃ (l:List α) (v:Value),(∀ y∈l,p y)∧l.length≤maxLen∧cs=[v]∧R W Mem.start W v (.list (l.map f) .none)∧(l.map m).sum+1≤Rows.uptoBulk x.1:=by
 rcases DataW.trod_slice ht h with ⟨rfl,_⟩ | ⟨a,len,cap,elems,rest,n',hn,rfl,rfl,hb,hl,hm,hlen,hel,hsp,_⟩
 ·exact ⟨[],_,by simp,by simp,rfl,.nil (fun id=>by simp),by simpa using Sv x.1⟩
 ·cases hn
  by_cases hcap:cap=0
  ·subst hcap
   obtain rfl:len=0:=by omega
   exact ⟨[],_,by simp,by simp,rfl,.emp (fun id=>by simp),by simpa using Sv _⟩
  have hspot:a.spot=none:=by
   have get:∀ (c:DataW H × List MemPlace) (r:List Value→Option (DataW H × List MemPlace)),(W.cells? 0 (a.add (0*Tryz.prog.cellsOf e)) (Tryz.prog.cellsOf e)).bind r=some c→a.spot=none:=fun c r Z=>by
    obtain ⟨cs',E,_⟩:=Option.bind_eq_some_iff.1 Z
    obtain ⟨_,D,F⟩:=World.cells?_some E
    have h4:=F 0 (by omega)
    rw [List.getElem?_eq_getElem (by omega)] at h4
    have e0:(a.add (0*Tryz.prog.cellsOf e)).add 0=a:=by simp [Addr.add]
    rw [e0] at h4
    unfold World.cell? at h4
    split at h4
    ·split at h4
     ·cases h4
     ·rename_i q;simpa using q
    ·cases h4
   by_cases h0:0<len
   ·have:=hel 0 h0
    rw [List.getElem?_eq_getElem (by omega)] at this
    exact get _ _ this
   ·obtain ⟨E,D⟩:=hsp rfl
    have:=D 0 (by omega)
    rw [List.getElem?_eq_getElem (by omega)] at this
    obtain rfl:len=0:=by omega
    exact get _ _ this
  obtain ⟨b,off,sp⟩:=a
  simp only at hspot
  subst hspot
  have C:∀ i,i<len→∃ y u,p y∧R W Mem.start W u (f y)∧(∀ h:i<elems.length,m y≤Rows.uptoBulk elems[i].1)∧u.cells.size=sz∧∀ j,j<sz→W.cell? ⟨b,off+i*sz+j,none⟩=u.cells[j]? := fun i k=>by
   have E:=hel i k
   rw [List.getElem?_eq_getElem (by omega)] at E
   obtain ⟨cs',D,F⟩:=Option.bind_eq_some_iff.1 E
   obtain ⟨y,u,h4,V,h6,K⟩:=H0 _ _ F
   obtain ⟨_,Q,U⟩:=World.cells?_some D
   rw [hc] at Q U
   refine ⟨y,u,h4,h6,fun _=>K,by rw [←Q,←V,Array.length_toList],fun j G=>?_⟩
   have:=U j G
   rw [←V,Array.getElem?_toList] at this
   rw [←this]
   congr 1
   have O:∀ (o m:Nat),(⟨b,o,none⟩:Addr).add m=⟨b,o+m,none⟩:=fun o m=>by unfold Addr.add;split<;>simp_all
   rw [O,O]
  classical
  let y:Nat→Option (α × Value):=fun i=>if k:i<len then some (Classical.choose (C i k),Classical.choose (Classical.choose_spec (C i k))) else none
  have N:len=0∨Nonempty (α × Value):=by
   by_cases h0:0<len
   ·obtain ⟨z,u,_⟩:=C 0 h0;exact .inr ⟨(z,u)⟩
   ·exact .inl (by omega)
  rcases N with h0 | ⟨⟨d⟩⟩
  ·subst h0
   exact ⟨[],_,by simp,by simp,rfl,.list (xs:=[]) 0 (fun _=>undef) (Nat.zero_le _) hm (fun i k=>absurd k (by simp)) (fun i k=>absurd k (by simp)) trivial,by simpa using Sv _⟩
  ·let g:Nat→α × Value:=fun i=>if k:i<len then (Classical.choose (C i k),Classical.choose (Classical.choose_spec (C i k))) else d
   have J:∀ i,i<len→p (g i).1∧R W Mem.start W (g i).2 (f (g i).1)∧(∀ h:i<elems.length,m (g i).1≤Rows.uptoBulk elems[i].1)∧(g i).2.cells.size=sz∧∀ j,j<sz→W.cell? ⟨b,off+i*sz+j,none⟩=(g i).2.cells[j]? := fun i k=>by
    have:=Classical.choose_spec (Classical.choose_spec (C i k))
    simp only [g,dif_pos k]
    exact this
   have s:(((List.range len).map fun i=>(g i).1).map f).length=len:=by simp
   refine ⟨(List.range len).map fun i=>(g i).1,.slice (some ⟨b,off,none⟩) len cap,fun z Y=>?_,by simp;omega,rfl,?_,?_⟩
   ·obtain ⟨i,k,rfl⟩:=List.mem_map.1 Y
    exact (J i (by simpa using k)).1
   ·have:=Ev.R.list (w0:=W) (M:=Ev.Mem.start) (w:=W) (b:=b) (off:=off) (cap:=cap) (xs:=((List.range len).map fun i=>(g i).1).map f) (o := .none) sz (fun i=>(g i).2) (by rw [s];exact hl) hm
     (fun i k=>by
      rw [s] at k
      obtain ⟨_,_,_,F,h4⟩:=J i k
      refine ⟨F,fun j G=>⟨.inl ?_,h4 j G⟩⟩
      have:=h4 j G
      rw [Array.getElem?_eq_getElem (by rw [F];exact G)] at this
      exact World.block_lt_of_cell? W _ this) (fun i k=>by
      rw [s] at k
      simp only [List.getElem_map,List.getElem_range]
      exact (J i k).2.1) trivial
    rw [s] at this
    exact this
   ·have:=Xc m ((List.range len).map fun i=>(g i).1) elems (by simp;omega) (fun i E D=>by
     simp only [List.getElem_map,List.getElem_range]
     exact (J i (by omega)).2.2.1 D)
    simp only [Rows.uptoBulk]
    omega
theorem Vl.ones (v:Vl):∀ x∈v.cs,x.one=true:=by
 cases v;intro x hx
 simp only [Vl.cs,List.mem_cons,List.not_mem_nil,or_false] at hx
 rcases hx with rfl | rfl | rfl | rfl | rfl | rfl<;>rfl
theorem Ty.ones (v:Ty):∀ x∈v.cs,x.one=true:=by
 cases v;intro x hx
 simp only [Ty.cs,List.mem_cons,List.not_mem_nil,or_false] at hx
 rcases hx with rfl | rfl | rfl | rfl | rfl | rfl | rfl<;>rfl
theorem X0:∀ (n:Nat) (cs:List Value) (x:DataW H × List MemPlace),Td enc W n 34 cs=some x→∃ v:Vl,v.wf∧RC W cs v.cs∧v.bulk≤Rows.uptoBulk x.1
 | 0,cs,x,h=>by simp [Td,DataW.trod] at h
 | n+1,cs,x,h=>by
  obtain ⟨xs,O,hn,rfl,D,hx,a⟩:=DataW.trod_struct Tryz.underlying34 h
  cases hn
  have E:cs.length=6:=D.trans (by kernel_rfl)
  have w:xs.length=6:=hx
  match cs,E,xs,w,a with
  | [c0,c1,c2,c3,c4,c5],_,[y0,y1,y2,y3,y4,y5],_,a =>
  have U:_=some y0:=a 0 _ rfl;have Y:_=some y1:=a 1 _ rfl;have f2:_=some y2:=a 2 _ rfl;have Z:_=some y3:=a 3 _ rfl;have N:_=some y4:=a 4 _ rfl;have f5:_=some y5:=a 5 _ rfl
  obtain ⟨k,Q,ek⟩:=LM U
  obtain ⟨i,hi,ei⟩:=LM Y
  obtain ⟨s,hs,es⟩:=LM f2
  obtain ⟨t,G,et,bt⟩:=SK Z
  cases n with
  | zero=>simp [DataW.trod] at N
  | succ n =>
  obtain ⟨l,vl,q,r,el,m,bl⟩:=G5 Dw Vl.wf Vl.bulk Tryz.underlying31 (sz:=6) (by kernel_rfl) (by omega) (fun cs x h=>by
   obtain ⟨v,hv,b,K⟩:=X0 n cs x h
   exact ⟨v,.agg cs.toArray,hv,by simp [Value.cells],b.agg v.ones,K⟩) N
  obtain ⟨J,vf,y,C,ef,e,bf⟩:=G5 Ua (fun p=>p.1.size≤maxLen∧p.2.wf) (fun p=>p.1.size+p.2.bulk) Tryz.underlying32 (sz:=7) (by kernel_rfl) (by omega) (fun cs x h=>by
   cases n with
   | zero=>simp [DataW.trod] at h
   | succ n =>
   obtain ⟨F,O,hn,rfl,D,hx,a⟩:=DataW.trod_struct Tryz.underlying81 h
   cases hn
   have f:cs.length=7:=D.trans (by kernel_rfl)
   have d:F.length=2:=hx
   match F,d,a with
   | [w0,w1],_,a =>
   have V:_=some w0:=a 0 _ rfl;have q1:_=some w1:=a 1 _ rfl
   obtain ⟨z,c,en,bn⟩:=SK V
   obtain ⟨v,hv,b,K⟩:=X0 n _ _ q1
   have e2:Tryz.prog.cellsOf 34=6:=by kernel_rfl
   have e3:Tryz.prog.cellsOf 9=1:=by kernel_rfl
   simp only [List.getElem_toArray,List.getElem_cons_zero,List.getElem_cons_succ,e2,e3] at en b
   match cs,f with
   | [c0,c1,c2,c3,c4,c5,c6],_ =>
   simp only [List.drop_zero,List.take_succ_cons,List.take_zero,List.cons.injEq,and_true,List.drop_succ_cons] at en b
   subst en
   refine ⟨(z,v),.agg #[.string z,c1,c2,c3,c4,c5,c6],⟨c,hv⟩,rfl,?_,by simp only [List.map_cons,List.map_nil,Rows.uptoBulk,Rows.uptoBulkAll];omega⟩
   exact RC.agg (cs:=[.string z,c1,c2,c3,c4,c5,c6]) (.cons (.flat (Ah c)) b) (fun x hx=>by
    rcases List.mem_cons.1 hx with rfl | hx
    ·rfl
    ·exact v.ones x hx)) f5
  have g:Tryz.prog.cellsOf 3=1:=by kernel_rfl
  have o:Tryz.prog.cellsOf 9=1:=by kernel_rfl
  have j:Tryz.prog.cellsOf 31=1:=by kernel_rfl
  have u:Tryz.prog.cellsOf 32=1:=by kernel_rfl
  simp only [List.getElem_toArray,List.getElem_cons_zero,List.getElem_cons_succ,g,o,j,u,List.drop_zero,List.take_succ_cons,List.take_zero,List.cons.injEq,and_true,List.drop_succ_cons] at ek ei es et el ef
  subst ek ei es et el ef
  refine ⟨.mk k i s t l J,?_,?_,by simp only [List.map_cons,List.map_nil,Rows.uptoBulk,Rows.uptoBulkAll,Vl.bulk,Qi,Vt];omega⟩
  ·unfold Vl.wf
   exact ⟨Q,hi,hs,G,r,C,(Zao l).2 q,(ZK J).2 y⟩
  ·rw [Vl.cs,Q1,Zk]
   exact .cons (.flat rfl) (.cons (.flat rfl) (.cons (.flat rfl) (.cons (.flat (Ah G)) (.cons m (.cons e .nil)))))
theorem Zbc:∀ (n:Nat) (cs:List Value) (x:DataW H × List MemPlace),Td enc W n 26 cs=some x→∃ v:Ty,v.wf∧RC W cs v.cs∧v.bulk≤Rows.uptoBulk x.1
 | 0,cs,x,h=>by simp [Td,DataW.trod] at h
 | n+1,cs,x,h=>by
  obtain ⟨xs,n',hn,rfl,Y,hx,a⟩:=DataW.trod_struct Tryz.underlying26 h
  cases hn
  have q:cs.length=7:=Y.trans (by kernel_rfl)
  have r:xs.length=7:=hx
  match cs,q,xs,r,a with
  | [c0,c1,c2,c3,c4,c5,c6],_,[y0,y1,y2,y3,y4,y5,y6],_,a =>
  have f0:_=some y0:=a 0 _ rfl;have f1:_=some y1:=a 1 _ rfl;have f2:_=some y2:=a 2 _ rfl;have f3:_=some y3:=a 3 _ rfl;have f4:_=some y4:=a 4 _ rfl;have f5:_=some y5:=a 5 _ rfl;have f6:_=some y6:=a 6 _ rfl
  obtain ⟨k,hk,ek⟩:=LM f0
  obtain ⟨lo,y,elo⟩:=LM f1
  obtain ⟨hi,l,ehi⟩:=LM f2
  obtain ⟨s,hs,es⟩:=LM f3
  cases n with
  | zero=>simp [DataW.trod] at f4
  | succ n =>
  obtain ⟨w,vw,g,C,ew,F,bw⟩:=G5 BE (fun s=>s.size≤maxLen) (fun w=>w.size+1) Tryz.underlying22 (sz:=1) (by kernel_rfl) (by omega) (fun cs x h=>by
   obtain ⟨s,hs,rfl,d⟩:=SK h
   exact ⟨s,.string s,hs,rfl,.flat (Ah hs),d⟩) f4
  obtain ⟨el,ve,G,Q,ee,u,be⟩:=G5 Dj Ty.wf Ty.bulk Tryz.underlying23 (sz:=7) (by kernel_rfl) (by omega) (fun cs x h=>by
   obtain ⟨v,hv,b,d⟩:=Zbc n cs x h
   exact ⟨v,.agg cs.toArray,hv,by simp [Value.cells],b.agg v.ones,d⟩) f5
  obtain ⟨fl,vf,U,V,ef,m,bf⟩:=G5 CH (fun p=>A9 p.1∧p.2.1.size≤maxLen∧A9 p.2.2.1∧p.2.2.2.1.wf∧p.2.2.2.2.length≤maxLen∧∀ v∈p.2.2.2.2,v.wf) (fun p=>p.2.1.size+p.2.2.2.1.bulk+QA p.2.2.2.2) Tryz.underlying24 (sz:=11) (by kernel_rfl) (by omega) (fun cs x h=>by
   cases n with
   | zero=>simp [DataW.trod] at h
   | succ n =>
   obtain ⟨ys,n',hn,rfl,Y,hx,a⟩:=DataW.trod_struct Tryz.underlying95 h
   cases hn
   have c:cs.length=11:=Y.trans (by kernel_rfl)
   have E:ys.length=5:=hx
   match ys,E,a with
   | [w0,w1,w2,w3,w4],_,a =>
   have q0:_=some w0:=a 0 _ rfl;have q1:_=some w1:=a 1 _ rfl;have q2:_=some w2:=a 2 _ rfl;have q3:_=some w3:=a 3 _ rfl;have q4:_=some w4:=a 4 _ rfl
   obtain ⟨N,Z,enu⟩:=LM q0
   obtain ⟨f,e,en,bn⟩:=SK q1
   obtain ⟨K,O,end'⟩:=LM q2
   obtain ⟨v,hv,b,aa⟩:=Zbc n _ _ q3
   cases n with
   | zero=>simp [DataW.trod] at q4
   | succ n =>
   obtain ⟨dl,vd,i,j,ed,t,bd⟩:=G5 Dw Vl.wf Vl.bulk Tryz.underlying31 (sz:=6) (by kernel_rfl) (by omega) (fun cs x h=>by
    obtain ⟨v,hv,b,d⟩:=X0 n cs x h
    exact ⟨v,.agg cs.toArray,hv,by simp [Value.cells],b.agg v.ones,d⟩) q4
   have e1:Tryz.prog.cellsOf 3=1:=by kernel_rfl
   have e2:Tryz.prog.cellsOf 26=7:=by kernel_rfl
   have e3:Tryz.prog.cellsOf 9=1:=by kernel_rfl
   have e4:Tryz.prog.cellsOf 31=1:=by kernel_rfl
   simp only [List.getElem_toArray,List.getElem_cons_zero,List.getElem_cons_succ,e1,e2,e3,e4] at enu en end' b ed
   match cs,c with
   | [c0,c1,c2,c3,c4,c5,c6,c7,c8,c9,c10],_ =>
   simp only [List.drop_zero,List.take_succ_cons,List.take_zero,List.cons.injEq,and_true,List.drop_succ_cons] at enu en end' b ed
   subst enu en end' ed
   refine ⟨(N,f,K,v,dl),.agg #[.int .i64 N,.string f,.int .i64 K,c3,c4,c5,c6,c7,c8,c9,c10],⟨Z,e,O,hv,j,i⟩,rfl,?_,by simp only [List.map_cons,List.map_nil,Rows.uptoBulk,Rows.uptoBulkAll,Qi];omega⟩
   exact RC.agg (cs:=[.int .i64 N,.string f,.int .i64 K]++([c3,c4,c5,c6,c7,c8,c9]++[c10])) (.cons (.flat rfl) (.cons (.flat (show GN (.string f)=true from Ah e)) (.cons (.flat rfl) (b.app (.cons t .nil))))) (fun x hx=>by
    simp only [List.mem_cons,List.mem_append,List.not_mem_nil,or_false] at hx
    rcases hx with rfl | rfl | rfl | hx | rfl
    ·rfl
    ·rfl
    ·rfl
    ·exact v.ones x hx
    ·rfl)) f6
  have o:Tryz.prog.cellsOf 3=1:=by kernel_rfl
  have D:Tryz.prog.cellsOf 22=1:=by kernel_rfl
  have z:Tryz.prog.cellsOf 23=1:=by kernel_rfl
  have J:Tryz.prog.cellsOf 24=1:=by kernel_rfl
  simp only [List.getElem_toArray,List.getElem_cons_zero,List.getElem_cons_succ,o,D,z,J,List.drop_zero,List.take_succ_cons,List.take_zero,List.cons.injEq,and_true,List.drop_succ_cons] at ek elo ehi es ew ee ef
  subst ek elo ehi es ew ee ef
  refine ⟨.mk k lo hi s w el fl,?_,?_,by simp only [List.map_cons,List.map_nil,Rows.uptoBulk,Rows.uptoBulkAll,Ty.bulk,UW,UI,Tt];omega⟩
  ·unfold Ty.wf
   exact ⟨hk,y,l,hs,g,C,Q,V,(Z1 el).2 G,(W7 fl).2 U⟩
  ·rw [Ty.cs,Z9,Xa,Zed]
   exact .cons (.flat rfl) (.cons (.flat rfl) (.cons (.flat rfl) (.cons (.flat rfl) (.cons F (.cons u (.cons m .nil))))))
end
section
variable {H:Type} {enc:TypeId × Value→H} {W:World} {base:Nat} {v:Value} {d:DataW H} {p:List MemPlace}
theorem ZjF {t:TypeId} {fs:Array Field} (ht:Tryz.prog.underlying t=some (.struct fs)) (hv:Value.okWide Tryz.prog W .any base t v):∃ cs,v = .agg cs:=by
 unfold Value.okWide at hv
 rw [ht] at hv
 obtain ⟨cs,h,_⟩:=hv
 exact ⟨cs,h⟩
end
end Go.Proofs.YtmcnjijeocmkgaaGreatDoor
namespace Go.Proofs.YtmcnjijeocmkgaaGreatDoor
open Go Go.RowKit Go.Ev
theorem AK {α:Type} {l:List α} {k:Nat} (h:k<l.length):BJ l (k:Int)=some l[k]:=ZjJ h
theorem AH {a b:Nat}:decide ((a:Int)<(b:Int))=decide (a<b):=by simp
theorem AG {k:Nat} (h:k<1000000000000):A9 ((k:Int)+1):=by unfold A9;omega
theorem Ty.size_pos (t:Ty):0<t.size:=by cases t;simp [Ty.size];omega
theorem Ty.size_eq (t:Ty):t.size=1+GI t.elem+EI t.fields:=by cases t;simp [Ty.size,Ty.elem,Ty.fields]
theorem VT:∀ (l:List Ty) (v:Ty),v∈l→v.size≤GI l
 | [],_,h=>by simp at h
 | a::r,v,h=>by
  rcases List.mem_cons.1 h with rfl | h
  ·simp [GI]
  ·have:=VT r v h
   simp [GI];omega
theorem TM:∀ (l:List (Int × ByteArray × Int × Ty × List Vl)) (p:Int × ByteArray × Int × Ty × List Vl),p∈l→p.2.2.2.1.size≤EI l
 | [],_,h=>by simp at h
 | (a,b,c,t,d)::r,p,h=>by
  rcases List.mem_cons.1 h with rfl | h
  ·simp [EI]
  ·have:=TM r p h
   simp [EI];omega
theorem Wg:∀ l:List Ty,l.length≤GI l
 | []=>Nat.le_refl _
 | v::r=>by have:=Wg r;have:=v.size_pos;simp [GI];omega
theorem Tj:∀ l:List (Int × ByteArray × Int × Ty × List Vl),l.length≤EI l
 | []=>Nat.le_refl _
 | (_,_,_,t,_)::r=>by have:=Tj r;have:=t.size_pos;simp [EI];omega
theorem Ty.elem_size (t x:Ty) (h:x∈t.elem):x.size<t.size:=by have:=VT _ _ h;have:=t.size_eq;omega
theorem Ty.field_size (t:Ty) (p) (h:p∈t.fields):p.2.2.2.1.size<t.size:=by have:=TM _ _ h;have:=t.size_eq;omega
theorem Ty.lens (t:Ty):t.elem.length<t.size∧t.fields.length<t.size:=by have:=Wg t.elem;have:=Tj t.fields;have:=t.size_eq;omega
theorem Vl.list_size (v x:Vl) (h:x∈v.list):x.size<v.size:=by have:=N8 _ _ h;have:=v.size_eq;omega
theorem Vl.field_size (v:Vl) (p) (h:p∈v.fields):p.2.size<v.size:=by have:=NS _ _ h;have:=v.size_eq;omega
mutual
def Ty.depth:Ty→Nat
 | .mk _ _ _ _ _ e f=>1+max (Ih e) (Gl f)
def Ih:List Ty→Nat
 | []=>0
 | t::r=>max t.depth (Ih r)
def Gl:List (Int × ByteArray × Int × Ty × List Vl)→Nat
 | []=>0
 | (_,_,_,t,_)::r=>max t.depth (Gl r)
end
mutual
def Vl.ok:Vl→Prop
 | .mk _ _ _ t l f=>t.size≤1048576∧ZcV l∧Zdb f
def ZcV:List Vl→Prop
 | []=>True
 | v::r=>v.ok∧ZcV r
def Zdb:List (ByteArray × Vl)→Prop
 | []=>True
 | (n,v)::r=>n.size≤1048576∧v.ok∧Zdb r
end
theorem ZU:∀ l,ZcV l↔∀ v∈l,v.ok
 | []=>by simp [ZcV]
 | v::r=>by simp [ZcV,ZU r]
theorem Zg:∀ l,Zdb l↔∀ p∈l,p.1.size≤1048576∧p.2.ok
 | []=>by simp [Zdb]
 | (n,v)::r=>by simp [Zdb,Zg r,and_assoc]
def Vl.small (v:Vl):Prop:=v.size≤1048575∧v.depth≤1048576∧v.ok
mutual
def Ty.ok:Ty→Prop
 | .mk _ _ _ _ w e f=>w.length≤1048576∧(∀ x∈w,x.size≤1048576)∧Zd6 e∧Zs f
def Zd6:List Ty→Prop
 | []=>True
 | v::r=>v.ok∧Zd6 r
def Zs:List (Int × ByteArray × Int × Ty × List Vl)→Prop
 | []=>True
 | (_,n,_,t,d)::r=>(n.size≤1048576∧t.ok∧d.length≤1048576∧∀ v∈d,v.small)∧Zs r
end
theorem Zh:∀ l,Zd6 l↔∀ v∈l,v.ok
 | []=>by simp [Zd6]
 | v::r=>by simp [Zd6,Zh r]
theorem XQ:∀ l,Zs l↔∀ p∈l,p.2.1.size≤1048576∧p.2.2.2.1.ok∧p.2.2.2.2.length≤1048576∧∀ v∈p.2.2.2.2,v.small
 | []=>by simp [Zs]
 | (_,n,_,t,d)::r=>by simp [Zs,XQ r]
theorem Ty.ok_eq (t:Ty):t.ok↔t.words.length≤1048576∧(∀ x∈t.words,x.size≤1048576)∧(∀ v∈t.elem,v.ok)∧∀ p∈t.fields,p.2.1.size≤1048576∧p.2.2.2.1.ok∧p.2.2.2.2.length≤1048576∧∀ v∈p.2.2.2.2,v.small:=by
 cases t;simp only [Ty.ok,Ty.words,Ty.elem,Ty.fields,Zh,XQ]
theorem Vl.ok_eq (v:Vl):v.ok↔v.text.size≤1048576∧(∀ x∈v.list,x.ok)∧∀ p∈v.fields,p.1.size≤1048576∧p.2.ok:=by
 cases v;simp only [Vl.ok,Vl.text,Vl.list,Vl.fields,ZU,Zg]
theorem JC:∀ (l:List Ty) (d:Nat),Ih l≤d↔∀ v∈l,v.depth≤d
 | [],d=>by simp [Ih]
 | v::r,d=>by simp [Ih,Nat.max_le,JC r d]
theorem IF:∀ (l:List (Int × ByteArray × Int × Ty × List Vl)) (d:Nat),Gl l≤d↔∀ v∈l,v.2.2.2.1.depth≤d
 | [],d=>by simp [Gl]
 | (_,_,_,t,_)::r,d=>by simp [Gl,Nat.max_le,IF r d]
theorem Ty.depth_eq (t:Ty):t.depth=1+Max.max (Ih t.elem) (Gl t.fields):=by cases t;simp [Ty.depth,Ty.elem,Ty.fields]
theorem Vl.eta (v:Vl):Vl.mk v.kind v.int v.scale v.text v.list v.fields=v:=by cases v;rfl
theorem Ty.eta (v:Ty):Ty.mk v.kind v.min v.max v.scale v.words v.elem v.fields=v:=by cases v;rfl
theorem Vs (rec:Vl→Option Vl) (n:Nat) (v:Vl) (hs:v.fields.length≤1000000000000) (hr:∀ p∈v.fields,rec p.2=some p.2) (b:List Vl):∀ (k m i:Nat),i+k=v.fields.length→k<m→G0 rec n v m i b (v.fields.take i)=some (Vl.mk v.kind v.int v.scale v.text b v.fields)
 | k,0,i,_,h=>absurd h (Nat.not_lt_zero _)
 | 0,m+1,i,hi,_=>by
  rw [G0,AH,Ac]
  simp only [Bool.false_eq_true,if_false,MP]
  rw [List.take_of_length_le (by omega)]
 | k+1,m+1,i,hi,hm=>by
  have a:i<v.fields.length:=by omega
  rw [G0,AH,Ah a]
  simp only [if_true,AK a,Af,hr _ (List.getElem_mem a)]
  rw [Ai (by rw [List.length_take];omega),Ai (AG (by omega))]
  have e:v.fields.take i++[(v.fields[i].1,v.fields[i].2)]=v.fields.take (i+1):=by rw [List.take_succ_eq_append_getElem a]
  rw [e]
  exact Vs rec n v hs hr b k m (i+1) (by omega) (by omega)
theorem Xe (rec:Vl→Option Vl) (n:Nat) (v:Vl) (hs:v.fields.length≤1000000000000∧v.list.length≤1000000000000) (hn:v.fields.length<n) (hr:(∀ x∈v.list,rec x=some x)∧∀ p∈v.fields,rec p.2=some p.2):∀ (k m i:Nat),i+k=v.list.length→k<m→Im rec n v m i (v.list.take i)=some v
 | k,0,i,_,h=>absurd h (Nat.not_lt_zero _)
 | 0,m+1,i,hi,_=>by
  rw [Im,AH,Ac]
  simp only [Bool.false_eq_true,if_false,NX]
  rw [List.take_of_length_le (by omega)]
  have:=Vs rec n v hs.1 hr.2 v.list v.fields.length n 0 (by omega) hn
  rw [List.take_zero] at this
  exact this.trans (by rw [Vl.eta])
 | k+1,m+1,i,hi,hm=>by
  have a:i<v.list.length:=by omega
  rw [Im,AH,Ah a]
  simp only [if_true,AK a,Af,hr.1 _ (List.getElem_mem a)]
  rw [Ai (by rw [List.length_take];omega),Ai (AG (by omega))]
  have e:v.list.take i++[v.list[i]]=v.list.take (i+1):=by rw [List.take_succ_eq_append_getElem a]
  rw [e]
  exact Xe rec n v hs hn hr k m (i+1) (by omega) (by omega)
theorem QI:∀ (n:Nat) (v:Vl),v.size<n→v.wide=true→DX n v=some v
 | 0,v,h,_=>absurd h (Nat.not_lt_zero _)
 | n+1,v,h,hs=>by
  have f:=Pz v
  obtain ⟨e,g,c,d⟩:=v.wide_iff.1 hs
  rw [DX,PM]
  have:=Xe (DX n) n v ⟨by omega,by omega⟩ (by omega) ⟨fun x a=>QI n x (by have:=v.list_size x a;omega) (c x a),fun p b=>QI n p.2 (by have:=v.field_size p b;omega) (d p b)⟩ v.list.length n 0 (by omega) (by omega)
  rw [List.take_zero] at this
  exact this
theorem Sz (n:Nat) (v:Vl) (h:v.size<n) (hs:v.size≤1000000000):DX n v=some v:=QI n v h (Ht _ v (Nat.le_refl _) (by omega))
abbrev TF:=Int × ByteArray × Int × Ty × List Vl
theorem Zb9 (rec:Ty→Option Ty) (n:Nat) (p:TF) (y:Ty) (hs:p.2.2.2.2.length≤1000000000) (hr:∀ v∈p.2.2.2.2,DX n v=some v):∀ (k m i:Nat),i+k=p.2.2.2.2.length→k<m→Db rec n p y m (p.2.2.2.2.take i) i=some (p.1,p.2.1,p.2.2.1,y,p.2.2.2.2)
 | k,0,i,_,h=>absurd h (Nat.not_lt_zero _)
 | 0,m+1,i,hi,_=>by
  rw [Db,AH,Ac]
  simp only [Bool.false_eq_true,if_false,Ia]
  rw [List.take_of_length_le (by omega)]
 | k+1,m+1,i,hi,hm=>by
  have a:i<p.2.2.2.2.length:=by omega
  rw [Db,AH,Ah a]
  simp only [if_true,AK a,Af,hr _ (List.getElem_mem a)]
  rw [Ai (by rw [List.length_take];omega),Ai (AG (by omega))]
  have e:p.2.2.2.2.take i++[p.2.2.2.2[i]]=p.2.2.2.2.take (i+1):=by rw [List.take_succ_eq_append_getElem a]
  rw [e]
  exact Zb9 rec n p y hs hr k m (i+1) (by omega) (by omega)
theorem Ze9 (rec:Ty→Option Ty) (n:Nat) (p:TF) (hs:p.2.2.2.2.length≤1000000000) (hn:p.2.2.2.2.length<n) (hr:∀ v∈p.2.2.2.2,DX n v=some v) (ht:rec p.2.2.2.1=some p.2.2.2.1):DJ rec n p=some p:=by
 rw [DJ,ht]
 simp only [Af]
 rw [Ab]
 have:=Zb9 rec n p p.2.2.2.1 hs hr p.2.2.2.2.length n 0 (by omega) hn
 rw [List.take_zero] at this
 exact this
theorem VJ (rec:Ty→Option Ty) (n:Nat) (t:Ty) (hw:t.words.length≤1000000000) (hs:t.fields.length≤1000000000) (hr:∀ p∈t.fields,DJ rec n p=some p) (e:List Ty):∀ (k m i:Nat),i+k=t.fields.length→k<m→GZ rec n t m e (t.fields.take i) i=some (Ty.mk t.kind t.min t.max t.scale t.words e t.fields)
 | k,0,i,_,h=>absurd h (Nat.not_lt_zero _)
 | 0,m+1,i,hi,_=>by
  rw [GZ,AH,Ac]
  simp only [Bool.false_eq_true,if_false,ML]
  rw [List.take_of_length_le (by omega),Ab]
 | k+1,m+1,i,hi,hm=>by
  have a:i<t.fields.length:=by omega
  rw [GZ,AH,Ah a]
  simp only [if_true,AK a,Af,hr _ (List.getElem_mem a)]
  rw [Ai (by rw [List.length_take];omega),Ai (AG (by omega))]
  have b:t.fields.take i++[t.fields[i]]=t.fields.take (i+1):=by rw [List.take_succ_eq_append_getElem a]
  rw [b]
  exact VJ rec n t hw hs hr e k m (i+1) (by omega) (by omega)
theorem XF (rec:Ty→Option Ty) (n:Nat) (t:Ty) (hw:t.words.length≤1000000000) (hs:t.fields.length≤1000000000∧t.elem.length≤1000000000) (hn:t.fields.length<n) (hr:(∀ x∈t.elem,rec x=some x)∧∀ p∈t.fields,DJ rec n p=some p):∀ (k m i:Nat),i+k=t.elem.length→k<m→Is rec n t m (t.elem.take i) i=some t
 | k,0,i,_,h=>absurd h (Nat.not_lt_zero _)
 | 0,m+1,i,hi,_=>by
  rw [Is,AH,Ac]
  simp only [Bool.false_eq_true,if_false,N3]
  rw [List.take_of_length_le (by omega),Ab]
  have:=VJ rec n t hw hs.1 hr.2 t.elem t.fields.length n 0 (by omega) hn
  rw [List.take_zero] at this
  exact this.trans (by rw [Ty.eta])
 | k+1,m+1,i,hi,hm=>by
  have a:i<t.elem.length:=by omega
  rw [Is,AH,Ah a]
  simp only [if_true,AK a,Af,hr.1 _ (List.getElem_mem a)]
  rw [Ai (by rw [List.length_take];omega),Ai (AG (by omega))]
  have e:t.elem.take i++[t.elem[i]]=t.elem.take (i+1):=by rw [List.take_succ_eq_append_getElem a]
  rw [e]
  exact XF rec n t hw hs hn hr k m (i+1) (by omega) (by omega)
theorem Si:∀ (n:Nat) (t:Ty),t.size+1400000<n→t.size≤1000000000→t.ok→Hk n t=some t
 | 0,t,h,_,_=>absurd h (Nat.not_lt_zero _)
 | n+1,t,h,hs,hok=>by
  have i:=t.lens
  obtain ⟨f,g,d,e⟩:=t.ok_eq.1 hok
  rw [Hk,PK,Ab]
  have:=XF (Hk n) n t (by omega) ⟨by omega,by omega⟩ (by omega) ⟨fun x a=>Si n x (by have:=t.elem_size x a;omega) (by have:=t.elem_size x a;omega) (d x a),fun p c=>by
   obtain ⟨_,q2,q3,b⟩:=e p c
   have:=t.field_size p c
   exact Ze9 _ n p (by omega) (by omega) (fun v hv=>Sz n v (by have:=(b v hv).1;omega) (by have:=(b v hv).1;omega)) (Si n _ (by omega) (by omega) q2)⟩ t.elem.length n 0 (by omega) (by omega)
  rw [List.take_zero] at this
  exact this
def Ty.small (t:Ty):Prop:=t.size≤600∧t.depth≤12∧t.ok
def GP (rec:Vl→Int→Option Vl) (n:Nat) (h:Vl) (g:List Vl) (b:List (ByteArray × Vl)):Option Vl :=
 some (Vl.mk h.kind h.int h.scale (h.text.extract 0 ((if 40<(h.text.size:Int) then 40 else (h.text.size:Int))).toNat) g b)
def DZ (rec:Vl→Int→Option Vl) (n:Nat) (z:Vl) (y:Int):Nat→(List Vl)→(List (ByteArray × Vl))→Int→Option Vl
 | 0,_,_,_=>none
 | m+1,q,g,b =>
  if ((decide (b<(z.fields.length:Int)))&&(decide (b<6)))&&(decide (1<y)) then
   (BJ z.fields b).bind fun h =>
   if 0≤0∧0≤(if 40<(h.1.size:Int) then 40 else (h.1.size:Int))∧(if 40<(h.1.size:Int) then 40 else (h.1.size:Int))≤(h.1.size:Int) then
    if A9 (y-1) then
     (rec h.2 (y-1)).bind fun y35 =>
     if (g.length+1)*104≤140737488355328∧g.length+1≤4611686018427387904 then
      if A9 (b+1) then
       (DZ rec n z y m) q (g++([(h.1.extract 0 ((if 40<(h.1.size:Int) then 40 else (h.1.size:Int))).toNat,y35)])) (b+1)
      else none
     else none
    else none
   else none
  else
   GP rec n z q g
def Hm (rec:Vl→Int→Option Vl) (n:Nat) (h:Vl) (g:Int) (b:List Vl):Option Vl :=
 DZ rec n h g n b ([]) 0
def DY (rec:Vl→Int→Option Vl) (n:Nat) (q:Vl) (h:Int):Nat→(List Vl)→Int→Option Vl
 | 0,_,_=>none
 | m+1,g,b =>
  if ((decide (b<(q.list.length:Int)))&&(decide (b<6)))&&(decide (1<h)) then
   (BJ q.list b).bind fun z =>
   if A9 (h-1) then
    (rec z (h-1)).bind fun y =>
    if (g.length+1)*88≤140737488355328∧g.length+1≤4611686018427387904 then
     if A9 (b+1) then
      (DY rec n q h m) (g++([y])) (b+1)
     else none
    else none
   else none
  else
   Hm rec n q h g
def Gq (rec:Vl→Int→Option Vl) (n:Nat) (b:Vl) (g:Int):Option Vl :=
 if 0≤0∧0≤(if 40<(b.text.size:Int) then 40 else (b.text.size:Int))∧(if 40<(b.text.size:Int) then 40 else (b.text.size:Int))≤(b.text.size:Int) then
  DY rec n b g n ([]) 0
 else none
def Bm:Nat→Vl→Int→Option Vl
 | 0,_,_=>none
 | n+1,g,b=>Gq (Bm n) n g b
def KG (w0:World) (F:Vl→Int→Option Vl):Prop:=∀ (B:Aq) (Rw:Aw) (L:Av) (g:Vl) (b:Int) (r:Vl),F g b=some r→ACalls Tryz.prog w0 149 [.agg (g.cs),Am b] ⟨B,Rw,L⟩ fun x st=>x = .agg (r.cs)∧st=⟨B,Rw,L⟩
theorem Qk (w0:World) (rec:Vl→Int→Option Vl) (ih:KG w0 rec) (n:Nat):KG w0 (Gq rec n):=by
 intro B Rw L a0 a1 r h
 rw [Gq] at h
 refine hd [.cell 4 34] Tryz.func149 Tryz.ntmps149 fun M0 W0 C y x p K w hs=>?_
 simp only [AB]
 refine rg [1,2,4] hs ?_
 obtain ⟨H,h⟩:=Au h
 have hs:=Ae (Vl.cs_eqs a0) hs
 refine rg [1,2,4] hs ?_
 refine rg [1,2,4,5] hs ?_
 refine rg [1,2,4,5,6] hs ?_
 refine AA (fun e st=>∃ (o:List Vl) (i:Ev.Own),Ck e st B Rw L [(1,true,Am a1),(2,true,.box B.length 0),(4,true,.box (B.length+1) 0),(5,true,.list (o.map Dw) i),(6,true,.list ([]) .full)] [[Am a0.kind,Am a0.int,Am a0.scale,.val (.string (a0.text.extract 0 ((if 40<(a0.text.size:Int) then 40 else (a0.text.size:Int))).toNat)),.list (a0.list.map Dw) .none,.list (a0.fields.map Ua) .none],MI] [(6,o.length,i)] (Hm rec n a0 a1 o=some r)) ?_ ?_
 ·intro K8 F
  refine rg [1,2,4,5,6,7] hs ?_
  apply Ar
  refine Az (fun m e st=>∃ (g:List Vl) (v:Int) (t:Ev.Own),Ck e st B Rw L [(1,true,Am a1),(2,true,.box B.length 0),(4,true,.box (B.length+1) 0),(5,true,.list (g.map Dw) t),(6,true,.list ([]) .full),(7,true,Am v)] [[Am a0.kind,Am a0.int,Am a0.scale,.val (.string (a0.text.extract 0 ((if 40<(a0.text.size:Int) then 40 else (a0.text.size:Int))).toNat)),.list (a0.list.map Dw) .none,.list (a0.fields.map Ua) .none],MI] [(6,g.length,t)] (DY rec n a0 a1 m g v=some r)) n ⟨([]),0,.full,([]),Rw,ef hs,ef hs,Owns.of_eq ((w).full 6 0) Dk,h⟩ ?_
  rintro ml10 e st ⟨g,v,t,Xl10,Rl10,rfl,rfl,w,h⟩ Ul10 Vl10
  cases ml10 with
  | zero=>cases h
  | succ ml10 =>
  rw [DY] at h
  exact go (tg (a:=([1,2,4,5,6,7,29],([1,2,4,5,6,7],[1,2,4,5,6,7],[1,2,4,5,6,7],()),[1,2,4,5,6],()))) h hs C y x p w (q2 (ae Nh HV) ih) (q2 F (fun e s=>Vl10 ml10 e s (Nat.lt_succ_self _)))
 ·clear h;rintro e st ⟨o,i,Xk7,Rk7,rfl,rfl,w,h⟩
  rw [Hm] at h
  have E:=w.unders
  simp only [List.mem_cons,List.not_mem_nil,or_false,forall_eq_or_imp,forall_eq] at E
  refine td C y x p w ?_
  refine AA (fun e st=>∃ (k:List Vl) (j:List (ByteArray × Vl)) (l:Ev.Own) (q:Ev.Own),Ck e st B Rw L [(2,true,.box B.length 0),(4,true,.box (B.length+1) 0),(5,true,.list (k.map Dw) l),(6,true,.list (j.map Ua) q)] [[Am a0.kind,Am a0.int,Am a0.scale,.val (.string (a0.text.extract 0 ((if 40<(a0.text.size:Int) then 40 else (a0.text.size:Int))).toNat)),.list (a0.list.map Dw) .none,.list (a0.fields.map Ua) .none],MI] [(6,k.length,l),(7,j.length,q)] (GP rec n a0 k j=some r)) ?_ ?_
  ·intro K25 D
   refine rg [1,2,4,5,6,8] hs ?_
   apply Ar
   refine Az (fun m e st=>∃ (c:List Vl) (d:List (ByteArray × Vl)) (u:Int) (f:Ev.Own) (b:Ev.Own),Ck e st B Rw L [(1,true,Am a1),(2,true,.box B.length 0),(4,true,.box (B.length+1) 0),(5,true,.list (c.map Dw) f),(6,true,.list (d.map Ua) b),(8,true,Am u)] [[Am a0.kind,Am a0.int,Am a0.scale,.val (.string (a0.text.extract 0 ((if 40<(a0.text.size:Int) then 40 else (a0.text.size:Int))).toNat)),.list (a0.list.map Dw) .none,.list (a0.fields.map Ua) .none],MI] [(6,c.length,f),(7,d.length,b)] (DZ rec n a0 a1 m c d u=some r)) n ⟨o,([]),0,i,.full,([]),Rk7,ef hs,ef hs,Owns.of_eq (((w).full 7 0).swap (List.Perm.swap _ _ _)) Dk,h⟩ ?_
   rintro ml27 e st ⟨c,d,u,f,b,Xl27,Rl27,rfl,rfl,w,h⟩ Ul27 Vl27
   cases ml27 with
   | zero=>cases h
   | succ ml27 =>
   rw [DZ] at h
   have E:=w.unders
   simp only [List.mem_cons,List.not_mem_nil,or_false,forall_eq_or_imp,forall_eq] at E
   obtain ⟨J,G⟩:=E
   refine td C y x p w ?_
   apply An;intro K28 z
   refine rg [1,2,4,5,6,8,55] hs ?_
   refine BL h hs ?_ ?_<;>intro hs h
   rotate_left
   ·refine sx [2,4,5,6] hs D ?_
    exact ⟨c,d,f,b,([]),Rl27,ef hs,ef hs,Owns.of_eq (((w).swap (List.Perm.swap _ _ _)).swap (List.Perm.swap _ _ _)) Dk,h⟩
   exact go (tg (a:=([1,2,4,5,6,8],[27,1,2,4,5,6,8],[1,2,4,5,6,8],()))) h hs C y x p w (q2 (ae Zfj Zt) ih) (q2 z (fun e s=>Vl27 ml27 e s (Nat.lt_succ_self _)))
  ·clear h;rintro e st ⟨k,j,l,q,Xk24,Rk24,rfl,rfl,w,h⟩
   rw [GP] at h
   exact go (tg (a:=([2,4],[4],()))) h hs C y x p w trivial trivial
theorem JI (w0:World):∀ n:Nat,KG w0 (Bm n)
 | 0=>fun _ _ _ _ _ _ h=>(nomatch h)
 | n+1=>Qk w0 (Bm n) (JI w0 n) n
def GR (rec:Ex→Int→Option Ex) (n:Nat) (h:Ex) (g:List Vl) (b:List Ex):Option Ex :=
 some (Ex.mk h.op h.int (h.text.extract 0 ((if 60<(h.text.size:Int) then 60 else (h.text.size:Int))).toNat) g b)
def DR (rec:Ex→Int→Option Ex) (n:Nat) (y:Ex) (q:Int):Nat→(List Vl)→(List Ex)→Int→Option Ex
 | 0,_,_,_=>none
 | m+1,h,g,b =>
  if ((decide (b<(y.args.length:Int)))&&(decide (b<4)))&&(decide (1<q)) then
   (BJ y.args b).bind fun z =>
   if A9 (q-1) then
    (rec z (q-1)).bind fun y33 =>
    if (g.length+1)*80≤140737488355328∧g.length+1≤4611686018427387904 then
     if A9 (b+1) then
      (DR rec n y q m) h (g++([y33])) (b+1)
     else none
    else none
   else none
  else
   GR rec n y h g
def Hl (rec:Ex→Int→Option Ex) (n:Nat) (h:Ex) (g:Int) (b:List Vl):Option Ex :=
 DR rec n h g n b ([]) 0
def Ek (rec:Ex→Int→Option Ex) (n:Nat) (h:Ex) (z:Int):Nat→(List Vl)→Int→Option Ex
 | 0,_,_=>none
 | m+1,g,b =>
  if (decide (b<(h.value.length:Int)))&&(decide (b<2)) then
   (BJ h.value b).bind fun q =>
   (Bm n q 2).bind fun y =>
   if (g.length+1)*88≤140737488355328∧g.length+1≤4611686018427387904 then
    if A9 (b+1) then
     (Ek rec n h z m) (g++([y])) (b+1)
    else none
   else none
  else
   Hl rec n h z g
def Gv (rec:Ex→Int→Option Ex) (n:Nat) (b:Ex) (g:Int):Option Ex :=
 if 0≤0∧0≤(if 60<(b.text.size:Int) then 60 else (b.text.size:Int))∧(if 60<(b.text.size:Int) then 60 else (b.text.size:Int))≤(b.text.size:Int) then
  Ek rec n b g n ([]) 0
 else none
def BR:Nat→Ex→Int→Option Ex
 | 0,_,_=>none
 | n+1,g,b=>Gv (BR n) n g b
def KE (w0:World) (F:Ex→Int→Option Ex):Prop:=∀ (B:Aq) (Rw:Aw) (L:Av) (g:Ex) (b:Int) (r:Ex),F g b=some r→ACalls Tryz.prog w0 61 [.agg (g.cs),Am b] ⟨B,Rw,L⟩ fun x st=>x = .agg (r.cs)∧st=⟨B,Rw,L⟩
theorem QE (w0:World) (rec:Ex→Int→Option Ex) (ih:KE w0 rec) (n:Nat):KE w0 (Gv rec n):=by
 intro B Rw L a0 a1 r h
 rw [Gv] at h
 refine hd [.cell 4 65] Tryz.func61 Tryz.ntmps61 fun M0 W0 z y x p K w hs=>?_
 simp only [AB]
 refine rg [1,2,4] hs ?_
 obtain ⟨H,h⟩:=Au h
 have hs:=Ae (Ex.cs_eqs a0) hs
 refine rg [1,2,4] hs ?_
 refine rg [1,2,4,5] hs ?_
 refine AA (fun e st=>∃ (k:List Vl) (g:Ev.Own),Ck e st B Rw L [(1,true,Am a1),(2,true,.box B.length 0),(4,true,.box (B.length+1) 0),(5,true,.list (k.map Dw) g)] [[Am a0.op,Am a0.int,.val (.string (a0.text.extract 0 ((if 60<(a0.text.size:Int) then 60 else (a0.text.size:Int))).toNat)),.list (a0.value.map Dw) .none,.list (a0.args.map Qq) .none],[Am 0,Am 0,.val (.string (⟨#[]⟩:ByteArray)),.list ([]) .full,.list ([]) .full]] [(6,k.length,g)] (Hl rec n a0 a1 k=some r)) ?_ ?_
 ·intro K7 F
  refine rg [1,2,4,5,6] hs ?_
  apply Ar
  refine Az (fun m e st=>∃ (q:List Vl) (v:Int) (t:Ev.Own),Ck e st B Rw L [(1,true,Am a1),(2,true,.box B.length 0),(4,true,.box (B.length+1) 0),(5,true,.list (q.map Dw) t),(6,true,Am v)] [[Am a0.op,Am a0.int,.val (.string (a0.text.extract 0 ((if 60<(a0.text.size:Int) then 60 else (a0.text.size:Int))).toNat)),.list (a0.value.map Dw) .none,.list (a0.args.map Qq) .none],[Am 0,Am 0,.val (.string (⟨#[]⟩:ByteArray)),.list ([]) .full,.list ([]) .full]] [(6,q.length,t)] (Ek rec n a0 a1 m q v=some r)) n ⟨([]),0,.full,([]),Rw,ef hs,ef hs,Owns.of_eq ((w).full 6 0) Dk,h⟩ ?_
  rintro ml9 e st ⟨q,v,t,Xl9,Rl9,rfl,rfl,w,h⟩ Ul9 Vl9
  cases ml9 with
  | zero=>cases h
  | succ ml9 =>
  rw [Ek] at h
  exact go (tg (a:=([1,2,4,5,6,25],([1,2,4,5,6],[1,2,4,5,6],[1,2,4,5,6],()),[1,2,4,5],()))) h hs z y x p w (q2 (ae Nh HV) (JI w0 n)) (q2 F (fun e s=>Vl9 ml9 e s (Nat.lt_succ_self _)))
 ·clear h;rintro e st ⟨k,g,Xk6,Rk6,rfl,rfl,w,h⟩
  rw [Hl] at h
  have E:=w.unders
  simp only [List.mem_cons,List.not_mem_nil,or_false,forall_eq_or_imp,forall_eq] at E
  refine td z y x p w ?_
  refine rg [1,2,4,5,7] hs ?_
  refine AA (fun e st=>∃ (j:List Vl) (i:List Ex) (l:Ev.Own) (o:Ev.Own),Ck e st B Rw L [(2,true,.box B.length 0),(4,true,.box (B.length+1) 0),(5,true,.list (j.map Dw) l),(7,true,.list (i.map Qq) o)] [[Am a0.op,Am a0.int,.val (.string (a0.text.extract 0 ((if 60<(a0.text.size:Int) then 60 else (a0.text.size:Int))).toNat)),.list (a0.value.map Dw) .none,.list (a0.args.map Qq) .none],[Am 0,Am 0,.val (.string (⟨#[]⟩:ByteArray)),.list ([]) .full,.list ([]) .full]] [(6,j.length,l),(5,i.length,o)] (GR rec n a0 j i=some r)) ?_ ?_
  ·intro K24 C
   refine rg [1,2,4,5,7,8] hs ?_
   apply Ar
   refine Az (fun m e st=>∃ (d:List Vl) (f:List Ex) (u:Int) (b:Ev.Own) (c:Ev.Own),Ck e st B Rw L [(1,true,Am a1),(2,true,.box B.length 0),(4,true,.box (B.length+1) 0),(5,true,.list (d.map Dw) b),(7,true,.list (f.map Qq) c),(8,true,Am u)] [[Am a0.op,Am a0.int,.val (.string (a0.text.extract 0 ((if 60<(a0.text.size:Int) then 60 else (a0.text.size:Int))).toNat)),.list (a0.value.map Dw) .none,.list (a0.args.map Qq) .none],[Am 0,Am 0,.val (.string (⟨#[]⟩:ByteArray)),.list ([]) .full,.list ([]) .full]] [(6,d.length,b),(5,f.length,c)] (DR rec n a0 a1 m d f u=some r)) n ⟨k,([]),0,g,.full,([]),Rk6,ef hs,ef hs,Owns.of_eq (((w).full 5 0).swap (List.Perm.swap _ _ _)) Dk,h⟩ ?_
   rintro ml26 e st ⟨d,f,u,b,c,Xl26,Rl26,rfl,rfl,w,h⟩ Ul26 Vl26
   cases ml26 with
   | zero=>cases h
   | succ ml26 =>
   rw [DR] at h
   have E:=w.unders
   simp only [List.mem_cons,List.not_mem_nil,or_false,forall_eq_or_imp,forall_eq] at E
   obtain ⟨J,G⟩:=E
   refine td z y x p w ?_
   apply An;intro K27 D
   refine rg [1,2,4,5,7,8,49] hs ?_
   refine BL h hs ?_ ?_<;>intro hs h
   rotate_left
   ·refine sx [2,4,5,7] hs C ?_
    exact ⟨d,f,b,c,([]),Rl26,ef hs,ef hs,Owns.of_eq (((w).swap (List.Perm.swap _ _ _)).swap (List.Perm.swap _ _ _)) Dk,h⟩
   exact go (tg (a:=([1,2,4,5,7,8],[1,2,4,5,7,8],[1,2,4,5,7,8],()))) h hs z y x p w (q2 (ae Zby Va) ih) (q2 D (fun e s=>Vl26 ml26 e s (Nat.lt_succ_self _)))
  ·clear h;rintro e st ⟨j,i,l,o,Xk23,Rk23,rfl,rfl,w,h⟩
   rw [GR] at h
   exact go (tg (a:=([2,4],[4],()))) h hs z y x p w trivial trivial
theorem NB (w0:World):∀ n:Nat,KE w0 (BR n)
 | 0=>fun _ _ _ _ _ _ h=>(nomatch h)
 | n+1=>QE w0 (BR n) (NB w0 n) n
def Le (n:Nat)  (b2_k4_0:List (ByteArray × Ex)):Option ((List (ByteArray × Ex))) :=
 some (b2_k4_0)
def Hw (n:Nat) (q:List (ByteArray × Ex)):Nat→Int→(List (ByteArray × Ex))→Option ((List (ByteArray × Ex)))
 | 0,_,_=>none
 | m+1,b,b2_l7_0 =>
  if (decide (b<(q.length:Int)))&&(decide (b<8)) then
   (BJ q b).bind fun g =>
   if 0≤0∧0≤(if 60<(g.1.size:Int) then 60 else (g.1.size:Int))∧(if 60<(g.1.size:Int) then 60 else (g.1.size:Int))≤(g.1.size:Int) then
    (BR n g.2 4).bind fun h =>
    if (b2_l7_0.length+1)*96≤140737488355328∧b2_l7_0.length+1≤4611686018427387904 then
     if A9 (b+1) then
      (Hw n q m) (b+1) (b2_l7_0++([(g.1.extract 0 ((if 60<(g.1.size:Int) then 60 else (g.1.size:Int))).toNat,h)]))
     else none
    else none
   else none
  else
   Le n b2_l7_0
def MG (n:Nat) (b:List (ByteArray × Ex)):Option ((List (ByteArray × Ex))) :=
 Hw n b n 0 ([])
theorem Y3 (w0:World) (n:Nat) (B:Aq) (Rw:Aw) (L:Av) (a0:List (ByteArray × Ex)) (r:(List (ByteArray × Ex))) (h:MG n a0=some r) :
  ACalls Tryz.prog w0 19 [.agg ([.list (a0.map A7) .none])] ⟨B,Rw,L⟩ fun x st=>x = .agg ([.list (r.map A7) .none])∧st=⟨B,Rw,L⟩:=by
 rw [MG] at h
 refine hd [.cell 2 49] Tryz.func19 Tryz.ntmps19 fun M0 W0 p l k i q j hs=>?_
 simp only [AB]
 refine rg [1,2] hs ?_
 refine rg [1,2,3] hs ?_
 refine AA (fun e st=>∃ (b:List (ByteArray × Ex)) (d:Ev.Own),Ck e st B Rw L [(2,true,.box (B.length+1) 0),(3,true,.box (B.length+2) 0)] [[.list (a0.map A7) .none],[.list ([]) .full],[.list (b.map A7) d]] [(6,b.length,d)] (Le n b=some r)) ?_ ?_
 ·intro K5 o
  refine rg [1,2,3,4] hs ?_
  apply Ar
  refine Az (fun m e st=>∃ (g:Int) (c:List (ByteArray × Ex)) (f:Ev.Own),Ck e st B Rw L [(1,true,.box B.length 0),(2,true,.box (B.length+1) 0),(3,true,.box (B.length+2) 0),(4,true,Am g)] [[.list (a0.map A7) .none],[.list ([]) .full],[.list (c.map A7) f]] [(6,c.length,f)] (Hw n a0 m g c=some r)) n ⟨0,([]),.full,([]),Rw,ef hs,ef hs,Owns.of_eq ((j).full 6 0) Dk,h⟩ ?_
  rintro ml7 e st ⟨g,c,f,Xl7,Rl7,rfl,rfl,j,h⟩ Ul7 Vl7
  cases ml7 with
  | zero=>cases h
  | succ ml7 =>
  rw [Hw] at h
  exact go (tg (a:=([1,2,3,4,13],([1,2,3,4],[26,1,2,3,4],[1,2,3,4],()),[2,3],()))) h hs p l k i j (q2 (ae ZaO V5) (NB w0 n)) (q2 o (fun e s=>Vl7 ml7 e s (Nat.lt_succ_self _)))
 ·clear h;rintro e st ⟨b,d,Xk4,Rk4,rfl,rfl,j,h⟩
  rw [Le] at h
  exact go (tg (a:=([2],()))) h hs p l k i j trivial trivial
section
variable {P:Program} {w0:World} {n:Nat} {l:List Oper} {ef dn:List Nat} {F:St→Prop} {T:Env→St→Prop} {k:Nat} {ev:Env} {s:St}
theorem gm1 {i:Nat} (_:Tg i) (hr:ZbN l ef dn=[i]) (hn:(ef.all fun i=>dn.contains i)=false) (hF:F s) (h:∃ o,l[i]? = some o∧o.guard=none∧KZ n o.dst∧∃ Post:AV→St→Prop,Xj P w0 (B9 true l o ev) s o Post∧∀ v s',Post v s'→Ev.Good P w0 n l ef F T k (i::dn) (Lu ev o.dst true v) s'):Ev.Good P w0 n l ef F T (k+1) dn ev s :=
 Ev.Good.mk [i] hr hF (fun q=>by rw [hn] at q;cases q) (fun j hj=>by obtain rfl:=List.mem_singleton.1 hj;exact h)
theorem gm0 {L:List Nat} {nb:Nat} {e2:Env} (_:Tg L) (hr:ZbN l ef dn=[]) (hF:F s) (hT:Ea L ev=e2):Ev.Good P w0 n l ef F (fun ev s'=>Conv w0 n nb ev s' e2 s) (k+1) dn ev s :=
 Ev.Good.mk [] hr hF (fun _=>RU L hT) (fun i hi=>by cases hi)
theorem stI {o:Oper} {v:AV} {s':St} (h:F9 P w0 ev s o v s'):F9 P w0 ev s o v s':=h
theorem kpI {L:List Nat} {e e':Env} (h:Ea L e=e'):Ea L e=e':=h
end
theorem gd {T F p:Prop} (tL:T) (hs:F) (k:T→F→p:=by
  intro tL hs
  repeat' first
    | ((with_reducible refine gm1 (tgh tL) kr rfl ?_ ?_)<;>replace tL:=tgt tL)
    | (with_reducible apply gm0 tL kr)
    | (apply ET rfl rfl ev
       case' hs=>((simp +decide only [go_sem,Nat.reduceAdd,F9,hs]);(repeat' apply Ae)<;>first | rfl | exact cl)
       case' hk=>simp +decide only [go_sem,Nat.reduceAdd,hs])
    | ((with_reducible refine stI ?_);simp +decide only [go_sem,Nat.reduceAdd,F9,hs];(repeat' apply Ae)<;>first | rfl | exact cl)
    | ((with_reducible apply kpI);first | (simp +decide only [go_sem,Nat.reduceAdd,hs];done) | (simp +decide only [go_sem,Nat.reduceAdd,hs];rfl) | (simp +decide only [go_sem,Nat.reduceAdd,and_self,imp_self,hs];done) | (simp +decide only [go_sem,Nat.reduceAdd,and_self,imp_self,hs];rfl))
    | exact ⟨[],_,rfl⟩
    | exact ⟨[],_,_,rfl⟩
    | exact ⟨[],_,_,_,rfl⟩
    | exact ⟨_,_,rfl⟩
    | exact ⟨_,_,_,rfl⟩
    | exact ⟨[],_,by simp only [List.append_nil,List.nil_append]⟩
    | exact ⟨[],_,_,by simp only [List.append_nil,List.nil_append]⟩
    | exact ⟨_,_,by simp only [List.append_nil,List.nil_append]⟩):p:=k tL hs
def HO (rec:Ty→Int→Option Ty) (n:Nat) (g:(List ByteArray)→(List Ty)→(List (Int × ByteArray × Int × Ty × List Vl))→Int→Option Ty) (b:Int) (y:List ByteArray) (q:List Ty) (h:List (Int × ByteArray × Int × Ty × List Vl)):Option Ty :=
 if A9 (b+1) then
  g y q h (b+1)
 else none
def Hz (rec:Ty→Int→Option Ty) (n:Nat) (q:Ty) (g:List ByteArray) (h:List Ty) (b:List (Int × ByteArray × Int × Ty × List Vl)):Option Ty :=
 some (Ty.mk q.kind q.min q.max q.scale g h b)
def FI (rec:Ty→Int→Option Ty) (n:Nat) (h:(List ByteArray)→(List Ty)→(List (Int × ByteArray × Int × Ty × List Vl))→Int→Option Ty) (a1:Int) (q:Int) (b:Int × ByteArray × Int × Ty × List Vl) (x5_k53:List ByteArray) (z:List Ty) (g:List (Int × ByteArray × Int × Ty × List Vl)) (y:List Vl):Option Ty :=
 if 0≤0∧0≤(if 40<(b.2.1.size:Int) then 40 else (b.2.1.size:Int))∧(if 40<(b.2.1.size:Int) then 40 else (b.2.1.size:Int))≤(b.2.1.size:Int) then
  if A9 (a1-1) then
   (rec b.2.2.2.1 (a1-1)).bind fun y71 =>
   if (g.length+1)*160≤140737488355328∧g.length+1≤4611686018427387904 then
    HO rec n h q x5_k53 z (g++([(b.1,b.2.1.extract 0 ((if 40<(b.2.1.size:Int) then 40 else (b.2.1.size:Int))).toNat,b.2.2.1,y71,y)]))
   else none
  else none
 else none
def C9 (rec:Ty→Int→Option Ty) (n:Nat) (h:(List ByteArray)→(List Ty)→(List (Int × ByteArray × Int × Ty × List Vl))→Int→Option Ty) (a1:Int) (q:Int) (x50:Int × ByteArray × Int × Ty × List Vl):Nat→(List ByteArray)→(List Ty)→(List (Int × ByteArray × Int × Ty × List Vl))→(List Vl)→Int→Option Ty
 | 0,_,_,_,_,_=>none
 | m+1,z,x6_l56,y,g,b =>
  if (decide (b<(x50.2.2.2.2.length:Int)))&&(decide (b<2)) then
   (BJ x50.2.2.2.2 b).bind fun x61 =>
   (Bm n x61 3).bind fun y62 =>
   if (g.length+1)*88≤140737488355328∧g.length+1≤4611686018427387904 then
    if A9 (b+1) then
     (C9 rec n h a1 q x50 m) z x6_l56 y (g++([y62])) (b+1)
    else none
   else none
  else
   FI rec n h a1 q x50 z x6_l56 y g
def Bo (rec:Ty→Int→Option Ty) (n:Nat) (y:Ty) (a1:Int):Nat→(List ByteArray)→(List Ty)→(List (Int × ByteArray × Int × Ty × List Vl))→Int→Option Ty
 | 0,_,_,_,_=>none
 | m+1,g,h,q,b =>
  if ((decide (b<(y.fields.length:Int)))&&(decide (b<6)))&&(decide (1<a1)) then
   (BJ y.fields b).bind fun z =>
   C9 rec n (Bo rec n y a1 m) a1 b z n g h q ([]) 0
  else
   Hz rec n y g h q
def HI (rec:Ty→Int→Option Ty) (n:Nat) (q:Ty) (h:Int) (b:List ByteArray) (g:List Ty):Option Ty :=
 Bo rec n q h n b g ([]) 0
def Ep (rec:Ty→Int→Option Ty) (n:Nat) (y:Ty) (q:Int):Nat→(List ByteArray)→(List Ty)→Int→Option Ty
 | 0,_,_,_=>none
 | m+1,h,g,b =>
  if ((decide (b<(y.elem.length:Int)))&&(decide (b<2)))&&(decide (1<q)) then
   (BJ y.elem b).bind fun z =>
   if A9 (q-1) then
    (rec z (q-1)).bind fun y32 =>
    if (g.length+1)*104≤140737488355328∧g.length+1≤4611686018427387904 then
     if A9 (b+1) then
      (Ep rec n y q m) h (g++([y32])) (b+1)
     else none
    else none
   else none
  else
   HI rec n y q h g
def Ig (rec:Ty→Int→Option Ty) (n:Nat) (h:Ty) (g:Int) (b:List ByteArray):Option Ty :=
 Ep rec n h g n b ([]) 0
def ES (rec:Ty→Int→Option Ty) (n:Nat) (q:Ty) (y:Int):Nat→(List ByteArray)→Int→Option Ty
 | 0,_,_=>none
 | m+1,g,b =>
  if (decide (b<(q.words.length:Int)))&&(decide (b<6)) then
   (BJ q.words b).bind fun h =>
   if 0≤0∧0≤(if 40<(h.size:Int) then 40 else (h.size:Int))∧(if 40<(h.size:Int) then 40 else (h.size:Int))≤(h.size:Int) then
    if (g.length+1)*16≤140737488355328∧g.length+1≤4611686018427387904 then
     if A9 (b+1) then
      (ES rec n q y m) (g++([h.extract 0 ((if 40<(h.size:Int) then 40 else (h.size:Int))).toNat])) (b+1)
     else none
    else none
   else none
  else
   Ig rec n q y g
def GW (rec:Ty→Int→Option Ty) (n:Nat) (g:Ty) (b:Int):Option Ty :=
 ES rec n g b n ([]) 0
def Cc:Nat→Ty→Int→Option Ty
 | 0,_,_=>none
 | n+1,g,b=>GW (Cc n) n g b
def LR (w0:World) (F:Ty→Int→Option Ty):Prop:=∀ (B:Aq) (Rw:Aw) (L:Av) (g:Ty) (b:Int) (r:Ty),F g b=some r→ACalls Tryz.prog w0 62 [.agg (g.cs),Am b] ⟨B,Rw,L⟩ fun x st=>x = .agg (r.cs)∧st=⟨B,Rw,L⟩
theorem Rq (w0:World) (rec:Ty→Int→Option Ty) (ih:LR w0 rec) (n:Nat):LR w0 (GW rec n):=by
 intro B Rw L a0 a1 r h
 rw [GW] at h
 refine hd [.cell 4 26] Tryz.func62 Tryz.ntmps62 fun M0 W0 hN a3 a4 j hu i hs=>?_
 simp only [AB]
 refine rg [1,2,4] hs ?_
 refine rg [1,2,4,5] hs ?_
 refine rg [1,2,4,5,6] hs ?_
 refine rg [1,2,4,5,6,7] hs ?_
 refine AA (fun e st=>∃ (aw:List ByteArray) (aq:Ev.Own),Ck e st B Rw L [(1,true,Am a1),(2,true,.box B.length 0),(4,true,.box (B.length+1) 0),(5,true,.list (aw.map BE) aq),(6,true,.list ([]) .full),(7,true,.list ([]) .full)] [a0.cs,[Am 0,Am 0,Am 0,Am 0,.list ([]) .full,.list ([]) .full,.list ([]) .full]] [(1,aw.length,aq)] (Ig rec n a0 a1 aw=some r)) ?_ ?_
 ·intro K7 bw
  refine rg [1,2,4,5,6,7,8] hs ?_
  apply Ar
  refine Az (fun m e st=>∃ (a8:List ByteArray) (a9:Int) (a7:Ev.Own),Ck e st B Rw L [(1,true,Am a1),(2,true,.box B.length 0),(4,true,.box (B.length+1) 0),(5,true,.list (a8.map BE) a7),(6,true,.list ([]) .full),(7,true,.list ([]) .full),(8,true,Am a9)] [a0.cs,[Am 0,Am 0,Am 0,Am 0,.list ([]) .full,.list ([]) .full,.list ([]) .full]] [(1,a8.length,a7)] (ES rec n a0 a1 m a8 a9=some r)) n ⟨([]),0,.full,([]),Rw,ef hs,ef hs,Owns.of_eq ((i).full 1 0) Dk,h⟩ ?_
  rintro ml9 e st ⟨a8,a9,a7,Xl9,Rl9,rfl,rfl,i,h⟩ Ul9 Vl9
  cases ml9 with
  | zero=>cases h
  | succ ml9 =>
  rw [ES] at h
  exact go (tg (a:=([1,2,4,5,6,7,8,22],([1,2,4,5,6,7,8],[15,1,2,4,5,6,7,8],[1,2,4,5,6,7,8],()),[1,2,4,5,6,7],()))) h hs hN a3 a4 j i (q1 (ae M7 JV)) (q2 bw (fun e s=>Vl9 ml9 e s (Nat.lt_succ_self _)))
 ·clear h;rintro e st ⟨aw,aq,Xk6,Rk6,rfl,rfl,i,h⟩
  rw [Ig] at h
  have hU:=i.unders
  simp only [List.mem_cons,List.not_mem_nil,or_false,forall_eq_or_imp,forall_eq] at hU
  refine td hN a3 a4 j i ?_
  refine AA (fun e st=>∃ (ah:List ByteArray) (aj:List Ty) (af:Ev.Own) (ak:Ev.Own),Ck e st B Rw L [(1,true,Am a1),(2,true,.box B.length 0),(4,true,.box (B.length+1) 0),(5,true,.list (ah.map BE) af),(6,true,.list (aj.map Dj) ak),(7,true,.list ([]) .full)] [a0.cs,[Am 0,Am 0,Am 0,Am 0,.list ([]) .full,.list ([]) .full,.list ([]) .full]] [(1,ah.length,af),(7,aj.length,ak)] (HI rec n a0 a1 ah aj=some r)) ?_ ?_
  ·intro K23 bt
   refine rg [1,2,4,5,6,7,9] hs ?_
   apply Ar
   refine Az (fun m e st=>∃ (aa:List ByteArray) (am:List Ty) (a6:Int) (ai:Ev.Own) (Q:Ev.Own),Ck e st B Rw L [(1,true,Am a1),(2,true,.box B.length 0),(4,true,.box (B.length+1) 0),(5,true,.list (aa.map BE) ai),(6,true,.list (am.map Dj) Q),(7,true,.list ([]) .full),(9,true,Am a6)] [a0.cs,[Am 0,Am 0,Am 0,Am 0,.list ([]) .full,.list ([]) .full,.list ([]) .full]] [(1,aa.length,ai),(7,am.length,Q)] (Ep rec n a0 a1 m aa am a6=some r)) n ⟨aw,([]),0,aq,.full,([]),Rk6,ef hs,ef hs,Owns.of_eq (((i).full 7 0).swap (List.Perm.swap _ _ _)) Dk,h⟩ ?_
   rintro ml25 e st ⟨aa,am,a6,ai,Q,Xl25,Rl25,rfl,rfl,i,h⟩ Ul25 Vl25
   cases ml25 with
   | zero=>cases h
   | succ ml25 =>
   rw [Ep] at h
   have hU:=i.unders
   simp only [List.mem_cons,List.not_mem_nil,or_false,forall_eq_or_imp,forall_eq] at hU
   obtain ⟨bb,ba⟩:=hU
   refine td hN a3 a4 j i ?_
   apply An;intro K26 br
   refine rg [1,2,4,5,6,7,9,53] hs ?_
   refine BL h hs ?_ ?_<;>intro hs h
   rotate_left
   ·refine sx [1,2,4,5,6,7] hs bt ?_
    exact ⟨aa,am,ai,Q,([]),Rl25,ef hs,ef hs,Owns.of_eq (((i).swap (List.Perm.swap _ _ _)).swap (List.Perm.swap _ _ _)) Dk,h⟩
   exact go (tg (a:=([1,2,4,5,6,7,9],[1,2,4,5,6,7,9],[1,2,4,5,6,7,9],()))) h hs hN a3 a4 j i (q2 (ae Y2 QY) ih) (q2 br (fun e s=>Vl25 ml25 e s (Nat.lt_succ_self _)))
  ·clear h;rintro e st ⟨ah,aj,af,ak,Xk22,Rk22,rfl,rfl,i,h⟩
   rw [HI] at h
   have hU:=i.unders
   simp only [List.mem_cons,List.not_mem_nil,or_false,forall_eq_or_imp,forall_eq] at hU
   obtain ⟨bb,ba⟩:=hU
   refine td hN a3 a4 j i ?_
   refine AA (fun e st=>∃ (av:List ByteArray) (au:List Ty) (ar:List (Int × ByteArray × Int × Ty × List Vl)) (ay:Ev.Own) (ax:Ev.Own) (a2:Ev.Own),Ck e st B Rw L [(2,true,.box B.length 0),(4,true,.box (B.length+1) 0),(5,true,.list (av.map BE) ay),(6,true,.list (au.map Dj) ax),(7,true,.list (ar.map CH) a2)] [a0.cs,[Am 0,Am 0,Am 0,Am 0,.list ([]) .full,.list ([]) .full,.list ([]) .full]] [(1,av.length,ay),(7,au.length,ax),(11,ar.length,a2)] (Hz rec n a0 av au ar=some r)) ?_ ?_
   ·intro K40 bs
    refine rg [1,2,4,5,6,7,10] hs ?_
    apply Ar
    refine Az (fun m e st=>∃ (J:List ByteArray) (F:List Ty) (K:List (Int × ByteArray × Int × Ty × List Vl)) (c:Int) (o:Ev.Own) (w:Ev.Own) (x:Ev.Own),Ck e st B Rw L [(1,true,Am a1),(2,true,.box B.length 0),(4,true,.box (B.length+1) 0),(5,true,.list (J.map BE) o),(6,true,.list (F.map Dj) w),(7,true,.list (K.map CH) x),(10,true,Am c)] [a0.cs,[Am 0,Am 0,Am 0,Am 0,.list ([]) .full,.list ([]) .full,.list ([]) .full]] [(1,J.length,o),(7,F.length,w),(11,K.length,x)] (Bo rec n a0 a1 m J F K c=some r)) n ⟨ah,aj,([]),0,af,ak,.full,([]),Rk22,ef hs,ef hs,Owns.of_eq ((((i).full 11 0).swap ((List.Perm.cons _ (List.Perm.swap _ _ _)).trans (List.Perm.swap _ _ _))).swap ((List.Perm.cons _ (List.Perm.swap _ _ _)).trans (List.Perm.swap _ _ _))) Dk,h⟩ ?_
    rintro ml42 e st ⟨J,F,K,c,o,w,x,Xl42,Rl42,rfl,rfl,i,h⟩ Ul42 Vl42
    cases ml42 with
    | zero=>cases h
    | succ ml42 =>
    rw [Bo] at h
    have hU:=i.unders
    simp only [List.mem_cons,List.not_mem_nil,or_false,forall_eq_or_imp,forall_eq] at hU
    obtain ⟨bb,ba,bn⟩:=hU
    refine td hN a3 a4 j i ?_
    apply An;intro K43 bf
    refine rg [1,2,4,5,6,7,10,79] hs ?_
    refine BL h hs ?_ ?_<;>intro hs h
    rotate_left
    ·have a5:=hs.1
     refine sx [2,4,5,6,7] hs bs ?_
     exact ⟨J,F,K,o,w,x,([]),Rl42,ef hs,ef hs,Owns.of_eq ((((i).swap ((List.Perm.cons _ (List.Perm.swap _ _ _)).trans (List.Perm.swap _ _ _))).swap ((List.Perm.cons _ (List.Perm.swap _ _ _)).trans (List.Perm.swap _ _ _))).swap ((List.Perm.cons _ (List.Perm.swap _ _ _)).trans (List.Perm.swap _ _ _))) Dk,h⟩
    have a5:=hs.1
    refine sk [1,2,4,5,6,7,10] hs bf ?_
    clear bf
    refine AA (fun e st=>∃ (Y:List ByteArray) (ab:List Ty) (V:List (Int × ByteArray × Int × Ty × List Vl)) (ad:Ev.Own) (Z:Ev.Own) (ag:Ev.Own),Ck e st B Rw L [(1,true,Am a1),(2,true,.box B.length 0),(4,true,.box (B.length+1) 0),(5,true,.list (Y.map BE) ad),(6,true,.list (ab.map Dj) Z),(7,true,.list (V.map CH) ag),(10,true,Am c)] [a0.cs,[Am 0,Am 0,Am 0,Am 0,.list ([]) .full,.list ([]) .full,.list ([]) .full]] [(1,Y.length,ad),(7,ab.length,Z),(11,V.length,ag)] (HO rec n (Bo rec n a0 a1 ml42) c Y ab V=some r)) ?_ ?_
    ·intro K48 bo
     apply Ar
     obtain ⟨b,bu,h⟩:=bind_some h
     obtain ⟨bx,bz,bm⟩:=AY bu
     have O:=AO (f:=CH) bm
     have hs:=Ae O hs
     refine rg [1,2,4,5,6,7,10,11] hs ?_
     refine rg [1,2,4,5,6,7,10,11,12] hs ?_
     refine AA (fun e st=>∃ (H:List ByteArray) (E:List Ty) (l:List (Int × ByteArray × Int × Ty × List Vl)) (g:List Vl) (p:Ev.Own) (u:Ev.Own) (az:Ev.Own) (k:Ev.Own),Ck e st B Rw L [(1,true,Am a1),(2,true,.box B.length 0),(4,true,.box (B.length+1) 0),(5,true,.list (H.map BE) p),(6,true,.list (E.map Dj) u),(7,true,.list (l.map CH) az),(10,true,Am c),(11,true,.box (B.length+2) 0),(12,true,.list (g.map Dw) k)] [a0.cs,[Am 0,Am 0,Am 0,Am 0,.list ([]) .full,.list ([]) .full,.list ([]) .full],Am b.1::(.val (.string b.2.1)::(Am b.2.2.1::((b.2.2.2.1.cs)++([.list (b.2.2.2.2.map Dw) .none]))))] [(1,H.length,p),(7,E.length,u),(11,l.length,az),(6,g.length,k)] (FI rec n (Bo rec n a0 a1 ml42) a1 c b H E l g=some r)) ?_ ?_
     ·intro K54 bv
      refine rg [1,2,4,5,6,7,10,11,12,13] hs ?_
      apply Ar
      refine Az (fun m e st=>∃ (G:List ByteArray) (N:List Ty) (D:List (Int × ByteArray × Int × Ty × List Vl)) (d:List Vl) (U:Int) (z:Ev.Own) (v:Ev.Own) (q:Ev.Own) (C:Ev.Own),Ck e st B Rw L [(1,true,Am a1),(2,true,.box B.length 0),(4,true,.box (B.length+1) 0),(5,true,.list (G.map BE) z),(6,true,.list (N.map Dj) v),(7,true,.list (D.map CH) q),(10,true,Am c),(11,true,.box (B.length+2) 0),(12,true,.list (d.map Dw) C),(13,true,Am U)] [a0.cs,[Am 0,Am 0,Am 0,Am 0,.list ([]) .full,.list ([]) .full,.list ([]) .full],Am b.1::(.val (.string b.2.1)::(Am b.2.2.1::((b.2.2.2.1.cs)++([.list (b.2.2.2.2.map Dw) .none]))))] [(1,G.length,z),(7,N.length,v),(11,D.length,q),(6,d.length,C)] (C9 rec n (Bo rec n a0 a1 ml42) a1 c b m G N D d U=some r)) n ⟨J,F,K,([]),0,o,w,x,.full,([]),Rl42,ef hs,ef hs,Owns.of_eq (((((i).full 6 0).swap ((List.Perm.cons _ ((List.Perm.cons _ (List.Perm.swap _ _ _)).trans (List.Perm.swap _ _ _))).trans (List.Perm.swap _ _ _))).swap ((List.Perm.cons _ ((List.Perm.cons _ (List.Perm.swap _ _ _)).trans (List.Perm.swap _ _ _))).trans (List.Perm.swap _ _ _))).swap ((List.Perm.cons _ ((List.Perm.cons _ (List.Perm.swap _ _ _)).trans (List.Perm.swap _ _ _))).trans (List.Perm.swap _ _ _))) Dk,h⟩ ?_
      rintro ml56 e st ⟨G,N,D,d,U,z,v,q,C,Xl56,Rl56,rfl,rfl,i,h⟩ Ul56 Vl56
      cases ml56 with
      | zero=>cases h
      | succ ml56 =>
      rw [C9] at h
      have hU:=i.unders
      simp only [List.mem_cons,List.not_mem_nil,or_false,forall_eq_or_imp,forall_eq] at hU
      obtain ⟨bb,ba,bn,b1⟩:=hU
      refine td hN a3 a4 j i ?_
      apply An;intro K57 bk
      refine rg [1,2,4,5,6,7,10,11,12,13,95] hs ?_
      refine BL h hs ?_ ?_<;>intro hs h
      rotate_left
      ·refine sx [1,2,4,5,6,7,10,11,12] hs bv ?_
       exact ⟨G,N,D,d,z,v,q,C,([]),Rl56,ef hs,ef hs,Owns.of_eq (((((i).swap ((List.Perm.cons _ ((List.Perm.cons _ (List.Perm.swap _ _ _)).trans (List.Perm.swap _ _ _))).trans (List.Perm.swap _ _ _))).swap ((List.Perm.cons _ ((List.Perm.cons _ (List.Perm.swap _ _ _)).trans (List.Perm.swap _ _ _))).trans (List.Perm.swap _ _ _))).swap ((List.Perm.cons _ ((List.Perm.cons _ (List.Perm.swap _ _ _)).trans (List.Perm.swap _ _ _))).trans (List.Perm.swap _ _ _))).swap ((List.Perm.cons _ ((List.Perm.cons _ (List.Perm.swap _ _ _)).trans (List.Perm.swap _ _ _))).trans (List.Perm.swap _ _ _))) Dk,h⟩
      refine sk [1,2,4,5,6,7,10,11,12,13] hs bk ?_
      clear bk
      apply An;intro K60 bg
      apply Ar
      obtain ⟨b2,b4,b5,bl,h⟩:=ix Dw h
      obtain ⟨b0,bp,h⟩:=bind_some h
      obtain ⟨bj,h⟩:=Au h
      have i:=i.swap ((List.Perm.cons _ ((List.Perm.cons _ (List.Perm.swap _ _ _)).trans (List.Perm.swap _ _ _))).trans (List.Perm.swap _ _ _))
      obtain ⟨b3,bc,i,ao⟩:=i.append (P:=Tryz.prog) Nh (by rw [HV];rfl) (by decide) 1 bj.1 bj.2
      replace ao:=fun (ys:List AV) B L o2=>ao (d.map Dw) ys B L o2 Dk
      replace ao:=fun (y:AV) B L o2=>ao [y] B L o2 Dk ev
      try simp only [List.mem_singleton,List.mem_cons,List.not_mem_nil,or_false,forall_eq_or_imp,forall_eq,List.map_append,List.map_cons,List.map_nil,Fb,Ft,Fp,Ec,Ed,Fj,CG,Dp,Fq,BX,BW,Du,Dv,Dq,E8,Dt,Fa] at ao
      have hs:=Ae bl hs
      have hs:=Ae ao hs
      refine rk 2 [1,2,4,5,6,7,10,11,12,13] hs ?_
      refine Ax _ (JI w0 n _ _ _ b2 3 _ bp) (hv hs) ?_
      refine ne hs bg ?_
      clear bg
      obtain ⟨b9,h⟩:=Au h
      refine rl [1,2,4,5,6,7,10,11,12,13] hs (fun e s=>Vl56 ml56 e s (Nat.lt_succ_self _)) ?_
      exact ⟨G,N,D,(d++([b0])),(U+1),z,v,q,b3,([]),bc,ef hs,ef hs,Owns.of_eq ((((i).swap ((List.Perm.cons _ ((List.Perm.cons _ (List.Perm.swap _ _ _)).trans (List.Perm.swap _ _ _))).trans (List.Perm.swap _ _ _))).swap ((List.Perm.cons _ ((List.Perm.cons _ (List.Perm.swap _ _ _)).trans (List.Perm.swap _ _ _))).trans (List.Perm.swap _ _ _))).swap ((List.Perm.cons _ ((List.Perm.cons _ (List.Perm.swap _ _ _)).trans (List.Perm.swap _ _ _))).trans (List.Perm.swap _ _ _))) Dk,h⟩
     ·clear h;rintro e st ⟨H,E,l,g,p,u,az,k,Xk53,Rk53,rfl,rfl,i,h⟩
      rw [FI] at h
      have hU:=i.unders
      simp only [List.mem_cons,List.not_mem_nil,or_false,forall_eq_or_imp,forall_eq] at hU
      obtain ⟨bb,ba,bn,b1⟩:=hU
      refine td hN a3 a4 j i ?_
      apply An;intro K68 bi
      obtain ⟨b7,h⟩:=Au h
      obtain ⟨b6,h⟩:=Au h
      obtain ⟨t,bh,h⟩:=bind_some h
      apply ZX QQ [14,16,18] [1,3,8] [1,2,4,5,6,7,10,11] kr (fun s=>∃ (X:Aq) (rows:Aw) (c2:List AV),s=⟨B++([a0.cs,[Am 0,Am 0,Am 0,Am 0,.list ([]) .full,.list ([]) .full,.list ([]) .full],c2]++X),rows,L⟩) 4 (B.length+3)
      ·simp +decide only [go_sem,Nat.reduceAdd]
      ·refine ⟨2,?_⟩
       rw [Ao];simp +decide only [go_sem,Nat.reduceAdd,Eg,a5,O,Ty.cs_eqs b.2.2.2.1,Ty.cs_eqs t]
       have hs:=Ae (Ty.cs_eqs b.2.2.2.1) hs
       have hs:=Ae (Ty.cs_eqs t) hs
       (repeat' apply Ae)<;>first | refine Ax _ (ih _ _ _ b.2.2.2.1 (a1-1) _ bh) (hv hs) ?_ | exact cl
       rw [Ao];simp +decide only [go_sem,Nat.reduceAdd,a5,O,Ty.cs_eqs b.2.2.2.1,Ty.cs_eqs t]
       (repeat' apply Ae)<;>first | rfl | exact cl
      ·rintro s ⟨X,rows,c2,rfl⟩
       refine ⟨2,?_⟩
       rw [Ao];simp +decide only [go_sem,Nat.reduceAdd,Eg,List.append_eq,List.cons_append,List.nil_append,a5,O,Ty.cs_eqs b.2.2.2.1,Ty.cs_eqs t]
       have hs:=Ae (Ty.cs_eqs b.2.2.2.1) hs
       have hs:=Ae (Ty.cs_eqs t) hs
       (repeat' apply Ae)<;>first | refine Ax _ (ih _ _ _ b.2.2.2.1 (a1-1) _ bh) (hv hs) ?_ | exact cl
       rw [Ao];simp +decide only [go_sem,Nat.reduceAdd,a5,O,Ty.cs_eqs b.2.2.2.1,Ty.cs_eqs t]
       (repeat' apply Ae)<;>first | rfl | ((repeat (first | exact .nil | refine .cons (ef hs) ?_));done) | exact cl
      ·exact gd (tg (a:=(14,16,18,[1,2,4,5,6,7,10,11]))) (Ae (Ty.cs_eqs t) (Ae (Ty.cs_eqs b.2.2.2.1) (Ae O hs)))
      simp +decide only [go_sem,Nat.reduceAdd,a5,O,Ty.cs_eqs b.2.2.2.1,Ty.cs_eqs t]
      (repeat' apply Ae)<;>first | refine bi _ _ ?_ | exact cl
      clear bi
      obtain ⟨be,h⟩:=Au h
      have i:=i.swap ((List.Perm.cons _ (List.Perm.swap _ _ _)).trans (List.Perm.swap _ _ _))
      obtain ⟨bq,bd,i,ap⟩:=i.append (P:=Tryz.prog) VM (by rw [OQ];rfl) (by decide) 1 be.1 be.2
      replace ap:=fun (ys:List AV) B L o2=>ap (l.map CH) ys B L o2 Dk
      replace ap:=fun (y:AV) B L o2=>ap [y] B L o2 Dk ev
      try simp only [List.mem_singleton,List.mem_cons,List.not_mem_nil,or_false,forall_eq_or_imp,forall_eq,List.map_append,List.map_cons,List.map_nil,Fb,Ft,Fp,Ec,Ed,Fj,CG,Dp,Fq,BX,BW,Du,Dv,Dq,E8,Dt,Fa] at ap
      have hs:=Ae (Ty.cs_eqs b.2.2.2.1) hs
      have hs:=Ae (Ty.cs_eqs t) hs
      have hs:=Ae ap hs
      refine rl [1,2,4,5,6,7,10] hs bo ?_
      exact ⟨H,E,(l++([(b.1,b.2.1.extract 0 ((if 40<(b.2.1.size:Int) then 40 else (b.2.1.size:Int))).toNat,b.2.2.1,t,g)])),p,u,bq,([[Am b.1,.val (.string (b.2.1.extract 0 ((if 40<(b.2.1.size:Int) then 40 else (b.2.1.size:Int))).toNat)),Am b.2.2.1,Am t.kind,Am t.min,Am t.max,Am t.scale,.list (t.words.map BE) .none,.list (t.elem.map Dj) .none,.list (t.fields.map CH) .none,.list (g.map Dw) k]]),bd,ef hs,ef hs,Owns.of_eq ((((i).swap ((List.Perm.cons _ (List.Perm.swap _ _ _)).trans (List.Perm.swap _ _ _))).swap ((List.Perm.cons _ (List.Perm.swap _ _ _)).trans (List.Perm.swap _ _ _))).sub (List.sublist_append_left [(1,H.length,p),(7,E.length,u),(11,l.length+1,bq)] [(6,g.length,k)])) Dk,h⟩
    ·clear h;rintro e st ⟨Y,ab,V,ad,Z,ag,Xk47,Rk47,rfl,rfl,i,h⟩
     rw [HO] at h
     have hU:=i.unders
     simp only [List.mem_cons,List.not_mem_nil,or_false,forall_eq_or_imp,forall_eq] at hU
     obtain ⟨bb,ba,bn⟩:=hU
     refine td hN a3 a4 j i ?_
     obtain ⟨b8,h⟩:=Au h
     refine rl [1,2,4,5,6,7,10] hs (fun e s=>Vl42 ml42 e s (Nat.lt_succ_self _)) ?_
     exact ⟨Y,ab,V,(c+1),ad,Z,ag,([]),Rk47,ef hs,ef hs,Owns.of_eq ((((i).swap ((List.Perm.cons _ (List.Perm.swap _ _ _)).trans (List.Perm.swap _ _ _))).swap ((List.Perm.cons _ (List.Perm.swap _ _ _)).trans (List.Perm.swap _ _ _))).swap ((List.Perm.cons _ (List.Perm.swap _ _ _)).trans (List.Perm.swap _ _ _))) Dk,h⟩
   ·clear h;rintro e st ⟨av,au,ar,ay,ax,a2,Xk39,Rk39,rfl,rfl,i,h⟩
    rw [Hz] at h
    exact go (tg (a:=([2,4],[4],()))) h (Ae (Ty.cs_eqs a0) hs) hN a3 a4 j i trivial trivial
theorem Oj (w0:World):∀ n:Nat,LR w0 (Cc n)
 | 0=>fun _ _ _ _ _ _ h=>(nomatch h)
 | n+1=>Rq w0 (Cc n) (Oj w0 n) n
def Kx (n:Nat) (g:Ty):Option Ty :=
 (Cc n g 4).bind fun b =>
 some (b)
theorem XX (w0:World) (n:Nat) (B:Aq) (Rw:Aw) (L:Av) (a0:Ty) (r:Ty) (h:Kx n a0=some r) :
  ACalls Tryz.prog w0 20 [.agg (a0.cs)] ⟨B,Rw,L⟩ fun x st=>x = .agg (r.cs)∧st=⟨B,Rw,L⟩:=by
 rw [Kx] at h
 refine hd [.cell 2 26] Tryz.func20 Tryz.ntmps20 fun M0 W0 f d c b g e hs=>?_
 simp only [AB]
 exact go (tg (a:=([1,2],[2],()))) h hs f d c b e (q1 (Oj w0 n)) trivial
theorem TW (b:ByteArray) {c:Int} (hc:0≤c):(0:Nat)≤0∧(0:Int)≤(if c<(b.size:Int) then c else (b.size:Int))∧(if c<(b.size:Int) then c else (b.size:Int))≤(b.size:Int):=by
 refine ⟨Nat.le_refl _,?_,?_⟩<;>split<;>omega
theorem SD (b:ByteArray) {c:Int} (hc:0≤c):((b.extract 0 ((if c<(b.size:Int) then c else (b.size:Int))).toNat).size:Int)≤c:=by
 rw [ByteArray.size_extract];split<;>omega
theorem Vf:∀ (l:List Vl) (w:Vl),EL (l++[w])=EL l+w.size
 | [],w=>by simp [EL]
 | x::l,w=>by rw [List.cons_append,EL,Vf l w,EL];omega
theorem Tq:∀ (l:List (ByteArray × Vl)) (w:ByteArray × Vl),Fg (l++[w])=Fg l+w.2.size
 | [],(a,w)=>by simp [Fg]
 | (a,x)::l,w=>by rw [List.cons_append,Fg,Tq l w,Fg];omega
theorem U6:∀ (l:List Ty) (w:Ty),GI (l++[w])=GI l+w.size
 | [],w=>by simp [GI]
 | x::l,w=>by rw [List.cons_append,GI,U6 l w,GI];omega
theorem TP:∀ (l:List TF) (w:TF),EI (l++[w])=EI l+w.2.2.2.1.size
 | [],(a,b,c,w,d)=>by simp [EI]
 | (a,b,c,x,d)::l,w=>by rw [List.cons_append,EI,TP l w,EI];omega
theorem Ii {α:Type} {p:α→Prop} {l:List α} {x:α} (h:∀ y∈l,p y) (hx:p x):∀ y∈l++[x],p y:=by
 intro y hy
 rcases List.mem_append.1 hy with hy | hy
 ·exact h y hy
 ·rw [List.mem_singleton.1 hy];exact hx
theorem E6 {α:Type} (l:List α) (x:α):(l++[x]).length=l.length+1:=by simp
def szV:Nat→Nat
 | 0=>0
 | d+1=>1+12*szV d
theorem Ze2 (rec:Vl→Int→Option Vl) (n:Nat) (v:Vl) (a:Int) (K:Nat) (hI:A9 (a-1)) (hr:1<a→∀ x,∃ w,rec x (a-1)=some w∧w.size≤K∧w.ok) (l:List Vl) (hl:EL l≤6*K) (ho:∀ x∈l,x.ok) :
  ∀ (m k i:Nat) (f:List (ByteArray × Vl)),i+k=6→k<m→f.length=i→Fg f≤i*K→(∀ p∈f,p.1.size≤1048576∧p.2.ok)→∃ w,DZ rec n v a m l f (i:Int)=some w∧w.size≤1+12*K∧w.ok
 | 0,k,i,f,_,h,_,_,_=>absurd h (Nat.not_lt_zero _)
 | m+1,k,i,f,hi,hm,hf,hs,hp=>by
  rw [DZ]
  by_cases c:(((decide ((i:Int)<(v.fields.length:Int)))&&(decide ((i:Int)<6)))&&(decide (1<a)))=true
  ·rw [Ai c]
   simp only [Bool.and_eq_true,decide_eq_true_eq] at c
   obtain ⟨⟨s,r⟩,g⟩:=c
   have b:i<v.fields.length:=by omega
   obtain ⟨w,e,o,j⟩:=hr g v.fields[i].2
   obtain ⟨k,rfl⟩:∃ q,k=q+1:=⟨k-1,by omega⟩
   rw [AK b,Af,Ai (TW _ (by decide)),Ai hI,e,Af,Ab,Ai (AG (by omega))]
   have d:=SD v.fields[i].1 (c:=40) (by decide)
   exact Ze2 rec n v a K hI hr l hl ho m k (i+1) _ (by omega) (by omega) (by rw [E6];omega) (by rw [Tq,Nat.add_mul];simp only;omega) (Ii hp ⟨by simp only;omega,j⟩)
  ·rw [Aj c,GP]
   have d:=SD v.text (c:=40) (by decide)
   have:i*K≤6*K:=Nat.mul_le_mul_right _ (by omega)
   refine ⟨_,rfl,?_,(Vl.ok_eq _).2 ⟨?_,ho,hp⟩⟩
   ·rw [Vl.size_eq];simp only [Vl.list,Vl.fields];omega
   ·show (v.text.extract 0 _).size≤1048576;omega
theorem ZaS (rec:Vl→Int→Option Vl) (n:Nat) (hn:8≤n) (v:Vl) (a:Int) (K:Nat) (hI:A9 (a-1)) (hr:1<a→∀ x,∃ w,rec x (a-1)=some w∧w.size≤K∧w.ok) :
  ∀ (m k i:Nat) (l:List Vl),i+k=6→k<m→l.length=i→EL l≤i*K→(∀ p∈l,p.ok)→∃ w,DY rec n v a m l (i:Int)=some w∧w.size≤1+12*K∧w.ok
 | 0,k,i,f,_,h,_,_,_=>absurd h (Nat.not_lt_zero _)
 | m+1,k,i,f,hi,hm,hf,hs,hp=>by
  rw [DY]
  by_cases c:(((decide ((i:Int)<(v.list.length:Int)))&&(decide ((i:Int)<6)))&&(decide (1<a)))=true
  ·rw [Ai c]
   simp only [Bool.and_eq_true,decide_eq_true_eq] at c
   obtain ⟨⟨r,o⟩,d⟩:=c
   have b:i<v.list.length:=by omega
   obtain ⟨w,e,j,g⟩:=hr d v.list[i]
   obtain ⟨k,rfl⟩:∃ q,k=q+1:=⟨k-1,by omega⟩
   rw [AK b,Af,Ai hI,e,Af,Ab,Ai (AG (by omega))]
   exact ZaS rec n hn v a K hI hr m k (i+1) _ (by omega) (by omega) (by rw [E6];omega) (by rw [Vf,Nat.add_mul];omega) (Ii hp g)
  ·rw [Aj c,Hm]
   have:i*K≤6*K:=Nat.mul_le_mul_right _ (by omega)
   exact Ze2 rec n v a K hI hr f (by omega) hp n 6 0 [] (by omega) (by omega) rfl (by simp [Fg]) (by simp)
theorem SO:∀ (d n:Nat) (v:Vl),d≤50→d+9≤n→∃ w,Bm n v ((d+1:Nat):Int)=some w∧w.size≤szV (d+1)∧w.ok
 | 0,n,v,h1,h2=>by
  obtain ⟨n,rfl⟩:∃ q,n=q+1:=⟨n-1,by omega⟩
  rw [Bm,Gq,Ai (TW _ (by decide)),szV]
  exact ZaS (Bm n) n (by omega) v _ 0 (by unfold A9;omega) (fun c x=>by omega) n 6 0 [] (by omega) (by omega) rfl (by simp [EL]) (by simp)
 | d+1,n,v,h1,h2=>by
  obtain ⟨n,rfl⟩:∃ q,n=q+1:=⟨n-1,by omega⟩
  rw [Bm,Gq,Ai (TW _ (by decide)),szV]
  exact ZaS (Bm n) n (by omega) v _ (szV (d+1)) (by unfold A9;omega) (fun c x=>by
   rw [show (((d+1+1:Nat):Int)-1)=((d+1:Nat):Int) from by omega]
   exact SO d n x (by omega) (by omega)) n 6 0 [] (by omega) (by omega) rfl (by simp [EL]) (by simp)
def Ex.fits:Nat→Ex→Prop
 | 0,_=>False
 | d+1,e=>e.text.size≤60∧(∀ v∈e.value,v.size≤13∧v.ok)∧e.args.length≤4∧(∀ x∈e.args,Ex.fits d x)∧e.value.length≤2
theorem Zfz (rec:Ex→Int→Option Ex) (n:Nat) (v:Ex) (a:Int) (d:Nat) (hI:A9 (a-1)) (hr:1<a→∀ x,∃ w,rec x (a-1)=some w∧w.fits d) (l:List Vl) (ho:∀ x∈l,x.size≤13∧x.ok) (hl2:l.length≤2) :
  ∀ (m k i:Nat) (f:List Ex),i+k=4→k<m→f.length=i→(∀ p∈f,p.fits d)→∃ w,DR rec n v a m l f (i:Int)=some w∧w.fits (d+1)
 | 0,k,i,f,_,h,_,_=>absurd h (Nat.not_lt_zero _)
 | m+1,k,i,f,hi,hm,hf,hp=>by
  rw [DR]
  by_cases c:(((decide ((i:Int)<(v.args.length:Int)))&&(decide ((i:Int)<4)))&&(decide (1<a)))=true
  ·rw [Ai c]
   simp only [Bool.and_eq_true,decide_eq_true_eq] at c
   obtain ⟨⟨s,r⟩,g⟩:=c
   have b:i<v.args.length:=by omega
   obtain ⟨w,e,j⟩:=hr g v.args[i]
   obtain ⟨k,rfl⟩:∃ q,k=q+1:=⟨k-1,by omega⟩
   rw [AK b,Af,Ai hI,e,Af,Ab,Ai (AG (by omega))]
   exact Zfz rec n v a d hI hr l ho hl2 m k (i+1) _ (by omega) (by omega) (by rw [E6];omega) (Ii hp j)
  ·rw [Aj c,GR]
   have o:=SD v.text (c:=60) (by decide)
   refine ⟨_,rfl,?_,ho,?_,hp,hl2⟩
   ·show (v.text.extract 0 _).size≤60;omega
   ·simp only [Ex.args];omega
theorem ZeI (rec:Ex→Int→Option Ex) (n:Nat) (hn:20≤n) (v:Ex) (a:Int) (d:Nat) (hI:A9 (a-1)) (hr:1<a→∀ x,∃ w,rec x (a-1)=some w∧w.fits d) :
  ∀ (m k i:Nat) (f:List Vl),i+k=2→k<m→f.length=i→(∀ p∈f,p.size≤13∧p.ok)→∃ w,Ek rec n v a m f (i:Int)=some w∧w.fits (d+1)
 | 0,k,i,f,_,h,_,_=>absurd h (Nat.not_lt_zero _)
 | m+1,k,i,f,hi,hm,hf,hp=>by
  rw [Ek]
  by_cases c:((decide ((i:Int)<(v.value.length:Int)))&&(decide ((i:Int)<2)))=true
  ·rw [Ai c]
   simp only [Bool.and_eq_true,decide_eq_true_eq] at c
   obtain ⟨o,l⟩:=c
   have b:i<v.value.length:=by omega
   obtain ⟨w,e,g,j⟩:=SO 1 n v.value[i] (by omega) (by omega)
   have e:Bm n v.value[i] 2=some w:=e
   obtain ⟨k,rfl⟩:∃ q,k=q+1:=⟨k-1,by omega⟩
   rw [AK b,Af,e,Af,Ab,Ai (AG (by omega))]
   exact ZeI rec n hn v a d hI hr m k (i+1) _ (by omega) (by omega) (by rw [E6];omega) (Ii hp ⟨g,j⟩)
  ·rw [Aj c,Hl]
   exact Zfz rec n v a d hI hr f hp (by omega) n 4 0 [] (by omega) (by omega) rfl (by simp)
theorem WX:∀ (d n:Nat) (v:Ex),d≤50→d+21≤n→∃ w,BR n v ((d+1:Nat):Int)=some w∧w.fits (d+1)
 | 0,n,v,h1,h2=>by
  obtain ⟨n,rfl⟩:∃ q,n=q+1:=⟨n-1,by omega⟩
  rw [BR,Gv,Ai (TW _ (by decide))]
  exact ZeI (BR n) n (by omega) v _ 0 (by unfold A9;omega) (fun c x=>by omega) n 2 0 [] (by omega) (by omega) rfl (by simp)
 | d+1,n,v,h1,h2=>by
  obtain ⟨n,rfl⟩:∃ q,n=q+1:=⟨n-1,by omega⟩
  rw [BR,Gv,Ai (TW _ (by decide))]
  exact ZeI (BR n) n (by omega) v _ (d+1) (by unfold A9;omega) (fun c x=>by
   rw [show (((d+1+1:Nat):Int)-1)=((d+1:Nat):Int) from by omega]
   exact WX d n x (by omega) (by omega)) n 2 0 [] (by omega) (by omega) rfl (by simp)
def M4 (m:List (ByteArray × Ex)):Prop:=m.length≤8∧∀ p∈m,p.1.size≤60∧p.2.fits 4
theorem ZN (n:Nat) (hn:30≤n) (a:List (ByteArray × Ex)):∀ (m k i:Nat) (f:List (ByteArray × Ex)),i+k=8→k<m→f.length=i→(∀ p∈f,p.1.size≤60∧p.2.fits 4)→∃ w,Hw n a m (i:Int) f=some w∧M4 w
 | 0,k,i,f,_,h,_,_=>absurd h (Nat.not_lt_zero _)
 | m+1,k,i,f,hi,hm,hf,hp=>by
  rw [Hw]
  by_cases c:((decide ((i:Int)<(a.length:Int)))&&(decide ((i:Int)<8)))=true
  ·rw [Ai c]
   simp only [Bool.and_eq_true,decide_eq_true_eq] at c
   obtain ⟨l,j⟩:=c
   have b:i<a.length:=by omega
   obtain ⟨w,e,d⟩:=WX 3 n a[i].2 (by omega) (by omega)
   have e:BR n a[i].2 4=some w:=e
   obtain ⟨k,rfl⟩:∃ q,k=q+1:=⟨k-1,by omega⟩
   have g:=SD a[i].1 (c:=60) (by decide)
   rw [AK b,Af,Ai (TW _ (by decide)),e,Af,Ab,Ai (AG (by omega))]
   exact ZN n hn a m k (i+1) _ (by omega) (by omega) (by rw [E6];omega) (Ii hp ⟨by simp only;omega,d⟩)
  ·rw [Aj c,Le]
   exact ⟨_,rfl,by omega,hp⟩
theorem Zd8 (n:Nat) (hn:30≤n) (a:List (ByteArray × Ex)):∃ w,MG n a=some w∧M4 w:=ZN n hn a n 8 0 [] (by omega) (by omega) rfl (by simp)
def szT:Nat→Nat
 | 0=>0
 | d+1=>1+8*szT d
def P9 (K D:Nat) (t:Ty):Prop:=t.size≤K∧t.depth≤D∧t.ok
theorem Zfa (rec:Ty→Int→Option Ty) (n:Nat) (hn:20≤n) (ag:List ByteArray→List Ty→List TF→Int→Option Ty) (a z:Int) (p:TF) (ws:List ByteArray) (es:List Ty) (fs:List TF) :
  ∀ (m k i:Nat) (f:List Vl),i+k=2→k<m→f.length=i→(∀ v∈f,v.small)→∃ dl:List Vl,C9 rec n ag a z p m ws es fs f (i:Int)=FI rec n ag a z p ws es fs dl∧dl.length≤2∧∀ v∈dl,v.small
 | 0,k,i,f,_,h,_,_=>absurd h (Nat.not_lt_zero _)
 | m+1,k,i,f,hi,hm,hf,hp=>by
  rw [C9]
  by_cases c:((decide ((i:Int)<(p.2.2.2.2.length:Int)))&&(decide ((i:Int)<2)))=true
  ·rw [Ai c]
   simp only [Bool.and_eq_true,decide_eq_true_eq] at c
   obtain ⟨o,l⟩:=c
   have b:i<p.2.2.2.2.length:=by omega
   obtain ⟨w,e,d,g⟩:=SO 2 n p.2.2.2.2[i] (by omega) (by omega)
   have e:Bm n p.2.2.2.2[i] 3=some w:=e
   have d:w.size≤157:=d
   have j:=w.depth_size
   obtain ⟨k,rfl⟩:∃ q,k=q+1:=⟨k-1,by omega⟩
   rw [AK b,Af,e,Af,Ab,Ai (AG (by omega))]
   exact Zfa rec n hn ag a z p ws es fs m k (i+1) _ (by omega) (by omega) (by rw [E6];omega) (Ii hp ⟨by omega,by omega,g⟩)
  ·rw [Aj c]
   exact ⟨_,rfl,by omega,hp⟩
theorem ZfC (rec:Ty→Int→Option Ty) (n:Nat) (hn:20≤n) (t:Ty) (a:Int) (K D:Nat) (hI:A9 (a-1)) (hr:1<a→∀ x,∃ w,rec x (a-1)=some w∧P9 K D w)
  (ws:List ByteArray) (hw:ws.length≤6∧∀ w∈ws,w.size≤40) (es:List Ty) (he:GI es≤2*K∧∀ w∈es,P9 K D w) :
  ∀ (m k i:Nat) (f:List TF),i+k=6→k<m→f.length=i→EI f≤i*K→(∀ p∈f,p.2.1.size≤40∧P9 K D p.2.2.2.1∧p.2.2.2.2.length≤2∧∀ v∈p.2.2.2.2,v.small)→∃ w,Bo rec n t a m ws es f (i:Int)=some w∧P9 (1+8*K) (D+1) w
 | 0,k,i,f,_,h,_,_,_=>absurd h (Nat.not_lt_zero _)
 | m+1,k,i,f,hi,hm,hf,hs,hp=>by
  rw [Bo]
  by_cases c:(((decide ((i:Int)<(t.fields.length:Int)))&&(decide ((i:Int)<6)))&&(decide (1<a)))=true
  ·rw [Ai c]
   simp only [Bool.and_eq_true,decide_eq_true_eq] at c
   obtain ⟨⟨F,E⟩,l⟩:=c
   have g:i<t.fields.length:=by omega
   obtain ⟨w,e,s,y,o⟩:=hr l t.fields[i].2.2.2.1
   obtain ⟨k,rfl⟩:∃ q,k=q+1:=⟨k-1,by omega⟩
   obtain ⟨dl,d,r,u⟩:=Zfa rec n hn (Bo rec n t a m) a i t.fields[i] ws es f n 2 0 [] (by omega) (by omega) rfl (by simp)
   have d:C9 rec n (Bo rec n t a m) a i t.fields[i] n ws es f [] 0=_:=d
   have z:=SD t.fields[i].2.1 (c:=40) (by decide)
   rw [AK g,Af,d,FI,Ai (TW _ (by decide)),Ai hI,e,Af,Ab,HO,Ai (AG (by omega))]
   exact ZfC rec n hn t a K D hI hr ws hw es he m k (i+1) _ (by omega) (by omega) (by rw [E6];omega) (by rw [TP,Nat.add_mul];simp only;omega) (Ii hp ⟨by simp only;omega,⟨s,y,o⟩,r,u⟩)
  ·rw [Aj c,Hz]
   have:i*K≤6*K:=Nat.mul_le_mul_right _ (by omega)
   refine ⟨_,rfl,?_,?_,(Ty.ok_eq _).2 ⟨?_,fun x b=>?_,fun x b=>(he.2 x b).2.2,fun p b=>?_⟩⟩
   ·rw [Ty.size_eq];simp only [Ty.elem,Ty.fields];omega
   ·rw [Ty.depth_eq];simp only [Ty.elem,Ty.fields]
    have C:=(JC es D).2 fun x b=>(he.2 x b).2.1
    have G:=(IF f D).2 fun x b=>(hp x b).2.1.2.1
    omega
   ·simp only [Ty.words];omega
   ·have:=hw.2 x b;omega
   ·obtain ⟨q1,q2,q3,j⟩:=hp p b
    exact ⟨by omega,q2.2.2,by omega,j⟩
theorem ZeK (rec:Ty→Int→Option Ty) (n:Nat) (hn:20≤n) (t:Ty) (a:Int) (K D:Nat) (hI:A9 (a-1)) (hr:1<a→∀ x,∃ w,rec x (a-1)=some w∧P9 K D w)
  (ws:List ByteArray) (hw:ws.length≤6∧∀ w∈ws,w.size≤40) :
  ∀ (m k i:Nat) (f:List Ty),i+k=2→k<m→f.length=i→GI f≤i*K→(∀ p∈f,P9 K D p)→∃ w,Ep rec n t a m ws f (i:Int)=some w∧P9 (1+8*K) (D+1) w
 | 0,k,i,f,_,h,_,_,_=>absurd h (Nat.not_lt_zero _)
 | m+1,k,i,f,hi,hm,hf,hs,hp=>by
  rw [Ep]
  by_cases c:(((decide ((i:Int)<(t.elem.length:Int)))&&(decide ((i:Int)<2)))&&(decide (1<a)))=true
  ·rw [Ai c]
   simp only [Bool.and_eq_true,decide_eq_true_eq] at c
   obtain ⟨⟨l,j⟩,g⟩:=c
   have b:i<t.elem.length:=by omega
   obtain ⟨w,e,d⟩:=hr g t.elem[i]
   have o:=d.1
   obtain ⟨k,rfl⟩:∃ q,k=q+1:=⟨k-1,by omega⟩
   rw [AK b,Af,Ai hI,e,Af,Ab,Ai (AG (by omega))]
   exact ZeK rec n hn t a K D hI hr ws hw m k (i+1) _ (by omega) (by omega) (by rw [E6];omega) (by rw [U6,Nat.add_mul];omega) (Ii hp d)
  ·rw [Aj c,HI]
   have:i*K≤2*K:=Nat.mul_le_mul_right _ (by omega)
   exact ZfC rec n hn t a K D hI hr ws hw f ⟨by omega,hp⟩ n 6 0 [] (by omega) (by omega) rfl (by simp [EI]) (by simp)
theorem Ze0 (rec:Ty→Int→Option Ty) (n:Nat) (hn:20≤n) (t:Ty) (a:Int) (K D:Nat) (hI:A9 (a-1)) (hr:1<a→∀ x,∃ w,rec x (a-1)=some w∧P9 K D w) :
  ∀ (m k i:Nat) (f:List ByteArray),i+k=6→k<m→f.length=i→(∀ p∈f,p.size≤40)→∃ w,ES rec n t a m f (i:Int)=some w∧P9 (1+8*K) (D+1) w
 | 0,k,i,f,_,h,_,_=>absurd h (Nat.not_lt_zero _)
 | m+1,k,i,f,hi,hm,hf,hp=>by
  rw [ES]
  by_cases c:((decide ((i:Int)<(t.words.length:Int)))&&(decide ((i:Int)<6)))=true
  ·rw [Ai c]
   simp only [Bool.and_eq_true,decide_eq_true_eq] at c
   obtain ⟨e,g⟩:=c
   have b:i<t.words.length:=by omega
   obtain ⟨k,rfl⟩:∃ q,k=q+1:=⟨k-1,by omega⟩
   have d:=SD t.words[i] (c:=40) (by decide)
   rw [AK b,Af,Ai (TW _ (by decide)),Ab,Ai (AG (by omega))]
   exact Ze0 rec n hn t a K D hI hr m k (i+1) _ (by omega) (by omega) (by rw [E6];omega) (Ii hp (by omega))
  ·rw [Aj c,Ig]
   exact ZeK rec n hn t a K D hI hr f ⟨by omega,hp⟩ n 2 0 [] (by omega) (by omega) rfl (by simp [GI]) (by simp)
theorem XP:∀ (d n:Nat) (v:Ty),d≤50→d+21≤n→∃ w,Cc n v ((d+1:Nat):Int)=some w∧P9 (szT (d+1)) (d+1) w
 | 0,n,v,h1,h2=>by
  obtain ⟨n,rfl⟩:∃ q,n=q+1:=⟨n-1,by omega⟩
  rw [Cc,GW,szT]
  exact Ze0 (Cc n) n (by omega) v _ 0 0 (by unfold A9;omega) (fun c x=>by omega) n 6 0 [] (by omega) (by omega) rfl (by simp)
 | d+1,n,v,h1,h2=>by
  obtain ⟨n,rfl⟩:∃ q,n=q+1:=⟨n-1,by omega⟩
  rw [Cc,GW,szT]
  exact Ze0 (Cc n) n (by omega) v _ (szT (d+1)) (d+1) (by unfold A9;omega) (fun c x=>by
   rw [show (((d+1+1:Nat):Int)-1)=((d+1:Nat):Int) from by omega]
   exact XP d n x (by omega) (by omega)) n 6 0 [] (by omega) (by omega) rfl (by simp)
theorem ZhB (n:Nat) (hn:30≤n) (t:Ty):∃ w,Kx n t=some w∧P9 585 4 w:=by
 obtain ⟨w,e,h⟩:=XP 3 n t (by omega) (by omega)
 have e:Cc n t 4=some w:=e
 exact ⟨w,by rw [Kx,e];rfl,h⟩
def MC (n:Nat)  (b:List Ty):Option ((List Ty)) :=
 some (b)
def QD (n:Nat)  : Option ((List Ty)) :=
 some ([])
def G4 (n:Nat) (q:Ty):Nat→(List Ty)→Int→Option ((List Ty))
 | 0,_,_=>none
 | m+1,g,b =>
  if decide (b<(q.fields.length:Int)) then
   (BJ q.fields b).bind fun h =>
   if (g.length+1)*104≤140737488355328∧g.length+1≤4611686018427387904 then
    if A9 (b+1) then
     (G4 n q m) (g++([h.2.2.2.1])) (b+1)
    else none
   else none
  else
   MC n g
def IJ (n:Nat) (g:Ty) (b:Bool):Option ((List Ty)) :=
 if b then
  if 0≤(g.fields.length:Int)∧(g.fields.length:Int)*104≤140737488355328∧(g.fields.length:Int)≤4611686018427387904 then
   G4 n g n ([]) 0
  else none
 else
  QD n 
def JB (n:Nat) (b:Ty):Option ((List Ty)) :=
 if decide (b.kind=8) then
  some (b.elem)
 else
  if decide (b.kind=9) then
   IJ n b true
  else
   IJ n b (decide (b.kind=10))
theorem QM (w0:World) (n:Nat) (B:Aq) (Rw:Aw) (L:Av) (a0:Ty) (r:(List Ty)) (h:JB n a0=some r) :
  ACalls Tryz.prog w0 93 [.agg (a0.cs)] ⟨B,Rw,L⟩ fun x st=>x = .list (r.map Dj) .none∧st=⟨B,Rw,L⟩:=by
 rw [JB] at h
 refine hd [.tmp 2] Tryz.func93 Tryz.ntmps93 fun M0 W0 t o l b w k hs=>?_
 simp only [AB]
 refine rg [1] hs ?_
 refine AA (fun e st=>Ck e st B Rw L [] [a0.cs] [] (QD n  = some r)) ?_ ?_
 ·intro K4 u
  refine rg [1,7] hs ?_
  apply Ar
  refine rg [1,7,8] hs ?_
  refine BL h hs ?_ ?_<;>intro hs h
  ·refine rg [2] hs ?_
   exact rt h hs b k
  refine AA (fun e st=>∃ (f:Bool),Ck e st B Rw L [(1,true,.box B.length 0),(12,true,.val (.bool f))] [a0.cs] [] (IJ n a0 f=some r)) ?_ ?_
  ·intro K11 q
   exact go (tg (a:=([1,7,12],([1,12],()),[1,12],()))) h hs t o l b k trivial (q1 q)
  ·clear h;rintro e st ⟨f,Xk10,Rk10,rfl,rfl,k,h⟩
   rw [IJ] at h
   refine td t o l b k ?_
   refine BL h hs ?_ ?_<;>intro hs h
   ·obtain ⟨v,h⟩:=Au h
    have k:=k.make 7 0
    refine rg [1,3] hs ?_
    refine AA (fun e st=>∃ (c:List Ty) (g:Ev.Own),Ck e st B Rw L [(3,true,.list (c.map Dj) g)] [a0.cs] [(7,c.length,g)] (MC n c=some r)) ?_ ?_
    ·intro K20 p
     refine rg [3,20,21,22] hs ?_
     apply Ar
     refine Az (fun m e st=>∃ (d:List Ty) (j:Int) (i:Ev.Own),Ck e st B Rw L [(3,true,.list (d.map Dj) i),(20,true,.list (a0.fields.map CH) .none),(21,true,Am (a0.fields.length:Int)),(22,true,Am j)] [a0.cs] [(7,d.length,i)] (G4 n a0 m d j=some r)) n ⟨([]),0,((.row Rk10.length)),([]),((Rk10++[.grow 0 7])),ef hs,ef hs,Owns.of_eq (k) Dk,h⟩ ?_
     rintro ml22 e st ⟨d,j,i,Xl22,Rl22,rfl,rfl,k,h⟩ Ul22 Vl22
     cases ml22 with
     | zero=>cases h
     | succ ml22 =>
     rw [G4] at h
     exact go (tg (a:=([3,20,21,22,23],([3,20,21,22],[3,5,20,21,22],[3,20,21,22],[3,20,21,22],()),[3],()))) h hs t o l b k (q1 (ae Y2 QY)) (q2 p (fun e s=>Vl22 ml22 e s (Nat.lt_succ_self _)))
    ·clear h;rintro e st ⟨c,g,Xk19,Rk19,rfl,rfl,k,h⟩
     rw [MC] at h
     exact go (tg (a:=([2],()))) h hs t o l b k trivial trivial
   refine sk [] hs u ?_
   exact ⟨([]),Rk10,ef hs,ef hs,k,h⟩
 ·clear h;rintro e st ⟨Xk3,Rk3,rfl,rfl,k,h⟩
  rw [QD] at h
  refine td t o l b k ?_
  refine rg [2] hs ?_
  exact rt h hs b k
def Jw (t:Ty):List Ty:=if t.kind=8 then t.elem else if t.kind=9∨t.kind=10 then t.fields.map fun p=>p.2.2.2.1 else []
theorem Zfx (n:Nat) (t:Ty) (hs:t.fields.length≤1000000000):∀ (k m i:Nat) (x:List Ty),i+k=t.fields.length→k<m→x.length=i→G4 n t m x i=some (x++(t.fields.drop i).map fun p=>p.2.2.2.1)
 | k,0,i,_,_,h,_=>absurd h (Nat.not_lt_zero _)
 | 0,m+1,i,x,hi,_,_=>by
  rw [G4,AH,Ac]
  simp only [Bool.false_eq_true,if_false,MC]
  rw [List.drop_eq_nil_of_le (by omega),List.map_nil,List.append_nil]
 | k+1,m+1,i,x,hi,hm,hx=>by
  have a:i<t.fields.length:=by omega
  rw [G4,AH,Ah a]
  simp only [if_true,AK a,Af]
  rw [Ab,Ai (AG (by omega))]
  have ih:=Zfx n t hs k m (i+1) (x++[t.fields[i].2.2.2.1]) (by omega) (by omega) (by simp [hx])
  rw [List.drop_eq_getElem_cons a,List.map_cons]
  rw [List.append_assoc] at ih
  exact ih
theorem XA (n:Nat) (t:Ty) (hn:t.fields.length<n) (hs:t.fields.length≤1000000000):JB n t=some (Jw t):=by
 have a:IJ n t true=some (t.fields.map fun p=>p.2.2.2.1):=by
  rw [IJ,Ai rfl,Ab]
  have:=Zfx n t hs t.fields.length n 0 [] (by omega) hn rfl
  rw [List.drop_zero,List.nil_append] at this
  exact this
 rw [JB,Jw]
 by_cases h1:t.kind=8
 ·rw [Ai (Ah h1),Ai h1]
 rw [Aj (by rw [decide_eq_true_eq];exact h1),Aj h1]
 by_cases h2:t.kind=9
 ·rw [Ai (Ah h2),a,Ai (.inl h2)]
 rw [Aj (by rw [decide_eq_true_eq];exact h2)]
 by_cases h3:t.kind=10
 ·rw [Ah h3,a,Ai (.inr h3)]
 ·rw [Ag h3,Aa];rfl
theorem ZjD {a b:ByteArray} (h:a.data.toList=b.data.toList):a=b:=by
 cases a;cases b;simp at h;rw [h]
theorem PR (x y:ByteArray):Fv x y=true↔x=y:=by
 unfold Fv
 rw [beq_iff_eq]
 exact ⟨ZjD,fun h=>by rw [h]⟩
theorem ZW (x:ByteArray):Fv x x=true:=(PR x x).2 rfl
theorem Za4 {n:Nat} (h:n≤1048576):n≤maxLen:=by unfold maxLen;omega
theorem Vl.ext' {a b:Vl} (h1:a.kind=b.kind) (h2:a.int=b.int) (h3:a.scale=b.scale) (h4:a.text=b.text) (h5:a.list=b.list) (h6:a.fields=b.fields):a=b:=by
 rw [←a.eta,←b.eta,h1,h2,h3,h4,h5,h6]
theorem TF.ext' {p q:TF} (h1:p.1=q.1) (h2:p.2.1=q.2.1) (h3:p.2.2.1=q.2.2.1) (h4:p.2.2.2.1=q.2.2.2.1) (h5:p.2.2.2.2=q.2.2.2.2):p=q:=by
 obtain ⟨a,b,c,d,e⟩:=p
 obtain ⟨h,j,f,g,i⟩:=q
 simp only at h1 h2 h3 h4 h5
 rw [h1,h2,h3,h4,h5]
theorem Ty.ext' {a b:Ty} (h1:a.kind=b.kind) (h2:a.min=b.min) (h3:a.max=b.max) (h4:a.scale=b.scale) (h5:a.words=b.words) (h6:a.elem=b.elem) (h7:a.fields=b.fields):a=b:=by
 rw [←a.eta,←b.eta,h1,h2,h3,h4,h5,h6,h7]
def F5 (b:Vl):Bool :=
 (((((decide (b.kind=0))&&(decide (b.int=0)))&&(decide (b.scale=0)))&&(Fv b.text (⟨#[]⟩:ByteArray)))&&(decide ((b.list.length:Int)=0)))&&(decide ((b.fields.length:Int)=0))
theorem Zae (w0:World) (B:Aq) (Rw:Aw) (L:Av) (a0:Vl) (r:Bool) (h:F5 a0=r) :
  ACalls Tryz.prog w0 147 [.agg (a0.cs)] ⟨B,Rw,L⟩ fun x st=>x = .val (.bool r)∧st=⟨B,Rw,L⟩:=by
 rw [F5] at h
 refine hd [.tmp 2] Tryz.func147 Tryz.ntmps147 fun M0 W0 e d c a f b hs=>?_
 simp only [AB]
 refine rg [1] hs ?_
 refine rg [2] hs ?_
 exact rT h hs a b
theorem Y9 (w0:World) (B:Aq) (Rw:Aw) (L:Av) (a0:Vl) :
  ACalls Tryz.prog w0 147 [.agg (a0.cs)] ⟨B,Rw,L⟩ fun x st=>x = .val (.bool (F5 a0))∧st=⟨B,Rw,L⟩:=Zae w0 B Rw L a0 _ rfl
def B5 (b:Int) (h:Int) (g:Int):Int :=
 if (decide (b<h))||(decide (g<b)) then
  2
 else
  0
theorem YR (w0:World) (B:Aq) (Rw:Aw) (L:Av) (a0:Int) (a1:Int) (a2:Int) (r:Int) (h:B5 a0 a1 a2=r) :
  ACalls Tryz.prog w0 216 [Am a0,Am a1,Am a2] ⟨B,Rw,L⟩ fun x st=>x=Am r∧st=⟨B,Rw,L⟩:=by
 rw [B5] at h
 refine hd [.tmp 6] Tryz.func216 Tryz.ntmps216 fun M0 W0 f d c b g e hs=>?_
 simp only [AB]
 exact go (tg (a:=([0,1,2],[14],([6],()),[],[6],()))) h hs f d c b e trivial trivial
theorem H9 (w0:World) (B:Aq) (Rw:Aw) (L:Av) (a0:Int) (a1:Int) (a2:Int) :
  ACalls Tryz.prog w0 216 [Am a0,Am a1,Am a2] ⟨B,Rw,L⟩ fun x st=>x=Am (B5 a0 a1 a2)∧st=⟨B,Rw,L⟩:=YR w0 B Rw L a0 a1 a2 _ rfl
def G7 (b:Vl):Int :=
 B5 b.int 0 1
theorem YY (w0:World) (B:Aq) (Rw:Aw) (L:Av) (a0:Vl) (r:Int) (h:G7 a0=r) :
  ACalls Tryz.prog w0 215 [.agg (a0.cs)] ⟨B,Rw,L⟩ fun x st=>x=Am r∧st=⟨B,Rw,L⟩:=by
 rw [G7] at h
 refine hd [.tmp 2] Tryz.func215 Tryz.ntmps215 fun M0 W0 f d c b g e hs=>?_
 simp only [AB]
 exact go (tg (a:=([1],[2],()))) h hs f d c b e (q1 (H9 w0)) trivial
theorem WN (w0:World) (B:Aq) (Rw:Aw) (L:Av) (a0:Vl) :
  ACalls Tryz.prog w0 215 [.agg (a0.cs)] ⟨B,Rw,L⟩ fun x st=>x=Am (G7 a0)∧st=⟨B,Rw,L⟩:=YY w0 B Rw L a0 _ rfl
def DC (b:Int) (h:Int) (g:Int):Int :=
 if decide (h<b) then
  g
 else
  0
theorem Zdt (w0:World) (B:Aq) (Rw:Aw) (L:Av) (a0:Int) (a1:Int) (a2:Int) (r:Int) (h:DC a0 a1 a2=r) :
  ACalls Tryz.prog w0 221 [Am a0,Am a1,Am a2] ⟨B,Rw,L⟩ fun x st=>x=Am r∧st=⟨B,Rw,L⟩:=by
 rw [DC] at h
 refine hd [.tmp 6] Tryz.func221 Tryz.ntmps221 fun M0 W0 f d c b g e hs=>?_
 simp only [AB]
 exact go (tg (a:=([0,1,2],[2,9],([6],()),[],[6],()))) h hs f d c b e trivial trivial
theorem LL (w0:World) (B:Aq) (Rw:Aw) (L:Av) (a0:Int) (a1:Int) (a2:Int) :
  ACalls Tryz.prog w0 221 [Am a0,Am a1,Am a2] ⟨B,Rw,L⟩ fun x st=>x=Am (DC a0 a1 a2)∧st=⟨B,Rw,L⟩:=Zdt w0 B Rw L a0 a1 a2 _ rfl
def I6 (b:Vl):Option Int :=
 if b.text.size≤maxLen then
  if !(FZ b.text) then
   some (12)
  else
   if decide ((b.list.length:Int)=0) then
    some (4)
   else
    some (DC (b.list.length:Int) 1 3)
 else none
theorem WC (w0:World) (B:Aq) (Rw:Aw) (L:Av) (a0:Vl) (r:Int) (h:I6 a0=some r) :
  ACalls Tryz.prog w0 228 [.agg (a0.cs)] ⟨B,Rw,L⟩ fun x st=>x=Am r∧st=⟨B,Rw,L⟩:=by
 rw [I6] at h
 refine hd [.tmp 2] Tryz.func228 Tryz.ntmps228 fun M0 W0 f d c b g e hs=>?_
 simp only [AB]
 exact go (tg (a:=([1],[1,3],([2],()),[1,8],([2],()),[1],[2],()))) h hs f d c b e (q2 (PQ w0) (LL w0)) trivial
def G8 (b:Vl):Int :=
 B5 b.int ((-999999999999999)) 999999999999999
theorem Ye (w0:World) (B:Aq) (Rw:Aw) (L:Av) (a0:Vl) (r:Int) (h:G8 a0=r) :
  ACalls Tryz.prog w0 217 [.agg (a0.cs)] ⟨B,Rw,L⟩ fun x st=>x=Am r∧st=⟨B,Rw,L⟩:=by
 rw [G8] at h
 refine hd [.tmp 2] Tryz.func217 Tryz.ntmps217 fun M0 W0 f d c b g e hs=>?_
 simp only [AB]
 exact go (tg (a:=([1],[2],()))) h hs f d c b e (q1 (H9 w0)) trivial
theorem Wx (w0:World) (B:Aq) (Rw:Aw) (L:Av) (a0:Vl) :
  ACalls Tryz.prog w0 217 [.agg (a0.cs)] ⟨B,Rw,L⟩ fun x st=>x=Am (G8 a0)∧st=⟨B,Rw,L⟩:=Ye w0 B Rw L a0 _ rfl
def NZ (n:Nat)  : Option Int :=
 some (0)
def Iz (n:Nat) (h:List Int):Nat→Int→Option Int
 | 0,_=>none
 | m+1,b =>
  if decide (b<(h.length:Int)) then
   (BJ h b).bind fun g =>
   if !(decide (g=0)) then
    some (g)
   else
    if A9 (b+1) then
     (Iz n h m) (b+1)
    else none
  else
   NZ n 
def NE (n:Nat) (b:List Int):Option Int :=
 Iz n b n 0
theorem Zbm (w0:World) (n:Nat) (B:Aq) (Rw:Aw) (L:Av) (a0:List Int) (r:Int) (h:NE n a0=some r) :
  ACalls Tryz.prog w0 219 [.list (a0.map avI) .none] ⟨B,Rw,L⟩ fun x st=>x=Am r∧st=⟨B,Rw,L⟩:=by
 rw [NE] at h
 refine hd [.tmp 2] Tryz.func219 Tryz.ntmps219 fun M0 W0 j g f c k d hs=>?_
 simp only [AB]
 refine rg [0] hs ?_
 refine AA (fun e st=>Ck e st B Rw L [] [] [] (NZ n  = some r)) ?_ ?_
 ·intro K4 i
  refine rg [5,6,7] hs ?_
  apply Ar
  refine Az (fun m e st=>∃ (b:Int),Ck e st B Rw L [(5,true,.list (a0.map avI) .none),(6,true,Am (a0.length:Int)),(7,true,Am b)] [] [] (Iz n a0 m b=some r)) n ⟨0,([]),Rw,ef hs,ef hs,d,h⟩ ?_
  rintro ml6 e st ⟨b,Xl6,Rl6,rfl,rfl,d,h⟩ Ul6 Vl6
  cases ml6 with
  | zero=>cases h
  | succ ml6 =>
  rw [Iz] at h
  exact go (tg (a:=([5,6,7,8],([5,6,7],[4,5,6,7],[4,5,6,7,12],([2],()),[5,6,7],[5,6,7],()),[],()))) h hs j g f c d trivial (q2 i (fun e s=>Vl6 ml6 e s (Nat.lt_succ_self _)))
 ·clear h;rintro e st ⟨Xk3,Rk3,rfl,rfl,d,h⟩
  rw [NZ] at h
  refine td j g f c d ?_
  refine rg [2] hs ?_
  exact rt h hs c d
def JZ (n:Nat) (b:Vl):Option Int :=
 (NE n ([B5 b.int ((-999999999999999)) 999999999999999,B5 b.scale 0 12])).bind fun g =>
 some (g)
theorem YC (w0:World) (n:Nat) (B:Aq) (Rw:Aw) (L:Av) (a0:Vl) (r:Int) (h:JZ n a0=some r) :
  ACalls Tryz.prog w0 218 [.agg (a0.cs)] ⟨B,Rw,L⟩ fun x st=>x=Am r∧st=⟨B,Rw,L⟩:=by
 rw [JZ] at h
 refine hd [.tmp 2] Tryz.func218 Tryz.ntmps218 fun M0 W0 f d c b g e hs=>?_
 simp only [AB]
 exact go (tg (a:=([1],[9,2],()))) h hs f d c b e (q2 (H9 w0) (Zbm w0 n)) trivial
def HH  (b:Int):Option Int :=
 some (b)
def Ko (b:Vl):Option Int :=
 if decide ((DC (b.text.size:Int) 1024 5)=0) then
  if b.text.size≤maxLen then
   if !(Lib.validD b.text.data.toList) then
    HH  16
   else
    HH  (DC (b.text.size:Int) 1024 5)
  else none
 else
  HH  (DC (b.text.size:Int) 1024 5)
theorem YM (w0:World) (hT:Lib.Utf8Tabs 2 3 w0) (B:Aq) (Rw:Aw) (L:Av) (a0:Vl) (r:Int) (h:Ko a0=some r) :
  ACalls Tryz.prog w0 220 [.agg (a0.cs)] ⟨B,Rw,L⟩ fun x st=>x=Am r∧st=⟨B,Rw,L⟩:=by
 rw [Ko] at h
 refine hd [.tmp 2] Tryz.func220 Tryz.ntmps220 fun M0 W0 k g f b l i hs=>?_
 simp only [AB]
 refine rg [1] hs ?_
 refine rc 2 [1,3] hs ?_;intro K2 d
 refine Ax _ (LL w0 _ _ _ (a0.text.size:Int) 1024 5) (hv hs) ?_
 refine ne hs d ?_
 clear d
 refine AA (fun e st=>∃ (c:Int),Ck e st B Rw L [(3,true,Am c)] [a0.cs] [] (HH  c=some r)) ?_ ?_
 ·intro K5 j
  exact go (tg (a:=(([3,15],([3],()),[3],()),[3,15],[3],()))) h hs k g f b i (q1 (ZaY w0)) (q1 j)
 ·clear h;rintro e st ⟨c,Xk4,Rk4,rfl,rfl,i,h⟩
  rw [HH] at h
  refine td k g f b i ?_
  refine rg [2] hs ?_
  exact rt h hs b i
def Hf (b:Vl):Int :=
 DC (b.text.size:Int) 1024 5
theorem Yq (w0:World) (B:Aq) (Rw:Aw) (L:Av) (a0:Vl) (r:Int) (h:Hf a0=r) :
  ACalls Tryz.prog w0 223 [.agg (a0.cs)] ⟨B,Rw,L⟩ fun x st=>x=Am r∧st=⟨B,Rw,L⟩:=by
 rw [Hf] at h
 refine hd [.tmp 2] Tryz.func223 Tryz.ntmps223 fun M0 W0 f d c b g e hs=>?_
 simp only [AB]
 exact go (tg (a:=([1],[2],()))) h hs f d c b e (q1 (LL w0)) trivial
theorem Ws (w0:World) (B:Aq) (Rw:Aw) (L:Av) (a0:Vl) :
  ACalls Tryz.prog w0 223 [.agg (a0.cs)] ⟨B,Rw,L⟩ fun x st=>x=Am (Hf a0)∧st=⟨B,Rw,L⟩:=Yq w0 B Rw L a0 _ rfl
def Hh (b:Vl):Int :=
 B5 b.int ((-719162)) 2932896
theorem Y1 (w0:World) (B:Aq) (Rw:Aw) (L:Av) (a0:Vl) (r:Int) (h:Hh a0=r) :
  ACalls Tryz.prog w0 224 [.agg (a0.cs)] ⟨B,Rw,L⟩ fun x st=>x=Am r∧st=⟨B,Rw,L⟩:=by
 rw [Hh] at h
 refine hd [.tmp 2] Tryz.func224 Tryz.ntmps224 fun M0 W0 f d c b g e hs=>?_
 simp only [AB]
 exact go (tg (a:=([1],[2],()))) h hs f d c b e (q1 (H9 w0)) trivial
theorem WG (w0:World) (B:Aq) (Rw:Aw) (L:Av) (a0:Vl) :
  ACalls Tryz.prog w0 224 [.agg (a0.cs)] ⟨B,Rw,L⟩ fun x st=>x=Am (Hh a0)∧st=⟨B,Rw,L⟩:=Y1 w0 B Rw L a0 _ rfl
def GY (b:Vl):Int :=
 B5 b.int ((-62135596800000)) 253402300799999
theorem YA (w0:World) (B:Aq) (Rw:Aw) (L:Av) (a0:Vl) (r:Int) (h:GY a0=r) :
  ACalls Tryz.prog w0 225 [.agg (a0.cs)] ⟨B,Rw,L⟩ fun x st=>x=Am r∧st=⟨B,Rw,L⟩:=by
 rw [GY] at h
 refine hd [.tmp 2] Tryz.func225 Tryz.ntmps225 fun M0 W0 f d c b g e hs=>?_
 simp only [AB]
 exact go (tg (a:=([1],[2],()))) h hs f d c b e (q1 (H9 w0)) trivial
theorem WQ (w0:World) (B:Aq) (Rw:Aw) (L:Av) (a0:Vl) :
  ACalls Tryz.prog w0 225 [.agg (a0.cs)] ⟨B,Rw,L⟩ fun x st=>x=Am (GY a0)∧st=⟨B,Rw,L⟩:=YA w0 B Rw L a0 _ rfl
def G1 (b:Vl):Int :=
 DC (b.list.length:Int) 256 9
theorem Yc (w0:World) (B:Aq) (Rw:Aw) (L:Av) (a0:Vl) (r:Int) (h:G1 a0=r) :
  ACalls Tryz.prog w0 226 [.agg (a0.cs)] ⟨B,Rw,L⟩ fun x st=>x=Am r∧st=⟨B,Rw,L⟩:=by
 rw [G1] at h
 refine hd [.tmp 2] Tryz.func226 Tryz.ntmps226 fun M0 W0 f d c b g e hs=>?_
 simp only [AB]
 exact go (tg (a:=([1],[2],()))) h hs f d c b e (q1 (LL w0)) trivial
theorem WA (w0:World) (B:Aq) (Rw:Aw) (L:Av) (a0:Vl) :
  ACalls Tryz.prog w0 226 [.agg (a0.cs)] ⟨B,Rw,L⟩ fun x st=>x=Am (G1 a0)∧st=⟨B,Rw,L⟩:=Yc w0 B Rw L a0 _ rfl
def Lr (n:Nat)  : Option Int :=
 some (0)
def Eh (n:Nat) (q:Vl):Nat→Int→Option Int
 | 0,_=>none
 | m+1,b =>
  if decide (b<(q.fields.length:Int)) then
   (BJ q.fields b).bind fun g =>
   if g.1.size≤maxLen then
    if !(FZ g.1) then
     some (12)
    else
     if decide (0<b) then
      if A9 (b-1) then
       (BJ q.fields (b-1)).bind fun h =>
       if Fv g.1 h.1 then
        some (7)
       else
        if A9 (b-1) then
         if sLt g.1 h.1 then
          some (24)
         else
          if A9 (b+1) then
           (Eh n q m) (b+1)
          else none
        else none
      else none
     else
      if A9 (b+1) then
       (Eh n q m) (b+1)
      else none
   else none
  else
   Lr n 
def Kt (n:Nat) (b:Vl):Option Int :=
 if !(decide ((DC (b.fields.length:Int) 64 9)=0)) then
  some (DC (b.fields.length:Int) 64 9)
 else
  Eh n b n 0
theorem Yx (w0:World) (n:Nat) (B:Aq) (Rw:Aw) (L:Av) (a0:Vl) (r:Int) (h:Kt n a0=some r) :
  ACalls Tryz.prog w0 227 [.agg (a0.cs)] ⟨B,Rw,L⟩ fun x st=>x=Am r∧st=⟨B,Rw,L⟩:=by
 rw [Kt] at h
 refine hd [.tmp 2] Tryz.func227 Tryz.ntmps227 fun M0 W0 l i g c o d hs=>?_
 simp only [AB]
 refine rg [1] hs ?_
 apply An;intro K2 f
 refine rc 2 [1,3] hs ?_;intro K3 j
 refine Ax _ (LL w0 _ _ _ (a0.fields.length:Int) 64 9) (hv hs) ?_
 refine ne hs j ?_
 clear j
 refine rg [1,3,11] hs ?_
 refine BL h hs ?_ ?_<;>intro hs h
 ·refine rg [2] hs ?_
  exact rt h hs c d
 refine sk [1] hs f ?_
 clear f
 refine AA (fun e st=>Ck e st B Rw L [] [a0.cs] [] (Lr n  = some r)) ?_ ?_
 ·intro K9 k
  refine rg [1,14,15,16] hs ?_
  apply Ar
  refine Az (fun m e st=>∃ (b:Int),Ck e st B Rw L [(1,true,.box B.length 0),(14,true,.list (a0.fields.map Ua) .none),(15,true,Am (a0.fields.length:Int)),(16,true,Am b)] [a0.cs] [] (Eh n a0 m b=some r)) n ⟨0,([]),Rw,ef hs,ef hs,d,h⟩ ?_
  rintro ml11 e st ⟨b,Xl11,Rl11,rfl,rfl,d,h⟩ Ul11 Vl11
  cases ml11 with
  | zero=>cases h
  | succ ml11 =>
  rw [Eh] at h
  exact go (tg (a:=([1,14,15,16,17],([1,14,15,16],[1,4,5,14,15,16],[1,4,5,14,15,16,21],([2],()),([15,1,4,5,14,15,16,26],([2],()),[15,1,14,15,16,41],([2],()),[1,14,15,16],[1,14,15,16],()),[15,1,4,5,14,15,16,26],[15,1,14,15,16,41],[1,14,15,16],[1,14,15,16],()),[],()))) h hs l i g c d (q1 (PQ w0)) (q2 k (fun e s=>Vl11 ml11 e s (Nat.lt_succ_self _)))
 ·clear h;rintro e st ⟨Xk8,Rk8,rfl,rfl,d,h⟩
  rw [Lr] at h
  refine td l i g c d ?_
  refine rg [2] hs ?_
  exact rt h hs c d
def Nv (b:Vl):Bool :=
 (((((((((decide (b.kind=1))||(decide (b.kind=2)))||(decide (b.kind=6)))||(decide (b.kind=7)))||(decide (b.kind=3)))||(decide (b.int=0)))&&((decide (b.kind=3))||(decide (b.scale=0))))&&((((decide (b.kind=4))||(decide (b.kind=5)))||(decide (b.kind=10)))||(Fv b.text (⟨#[]⟩:ByteArray))))&&(((decide (b.kind=8))||(decide (b.kind=10)))||(decide ((b.list.length:Int)=0))))&&((decide (b.kind=9))||(decide ((b.fields.length:Int)=0)))
theorem ZdI (w0:World) (B:Aq) (Rw:Aw) (L:Av) (a0:Vl) (r:Bool) (h:Nv a0=r) :
  ACalls Tryz.prog w0 148 [.agg (a0.cs)] ⟨B,Rw,L⟩ fun x st=>x = .val (.bool r)∧st=⟨B,Rw,L⟩:=by
 rw [Nv] at h
 refine hd [.tmp 2] Tryz.func148 Tryz.ntmps148 fun M0 W0 f d c b g e hs=>?_
 simp only [AB]
 exact go (tg (a:=([1],[1,3],[1,3,4],[1,3,4,5],[2],()))) h (al hs) f d c b e trivial trivial
theorem ZbS (w0:World) (B:Aq) (Rw:Aw) (L:Av) (a0:Vl) :
  ACalls Tryz.prog w0 148 [.agg (a0.cs)] ⟨B,Rw,L⟩ fun x st=>x = .val (.bool (Nv a0))∧st=⟨B,Rw,L⟩:=ZdI w0 B Rw L a0 _ rfl
def Bv (n:Nat)  : List (Nat × Vl)→Int→Option Int
 | [],b3_r7 =>
  some (0)
 | p_r7::rest,b3_r7 =>
  if A9 (b3_r7+1) then
   if decide (4096<(b3_r7+1)) then
    some (9)
   else
    if decide (8<(p_r7.1:Int)) then
     some (23)
    else
     if F5 p_r7.2 then
      some (19)
     else
      if (decide (p_r7.2.kind<1))||(decide (10<p_r7.2.kind)) then
       some (11)
      else
       if !(Nv p_r7.2) then
        some (3)
       else
        if decide (p_r7.2.kind=0) then
         none
        else
         if decide (p_r7.2.kind=1) then
          if !(decide ((G7 p_r7.2)=0)) then
           some (G7 p_r7.2)
          else
           (Bv n rest) (b3_r7+1)
         else
          if decide (p_r7.2.kind=2) then
           if !(decide ((G8 p_r7.2)=0)) then
            some (G8 p_r7.2)
           else
            (Bv n rest) (b3_r7+1)
          else
           if decide (p_r7.2.kind=3) then
            (JZ n p_r7.2).bind fun q =>
            if !(decide (q=0)) then
             some (q)
            else
             (Bv n rest) (b3_r7+1)
           else
            if decide (p_r7.2.kind=4) then
             (Ko p_r7.2).bind fun h =>
             if !(decide (h=0)) then
              some (h)
             else
              (Bv n rest) (b3_r7+1)
            else
             if decide (p_r7.2.kind=5) then
              if !(decide ((Hf p_r7.2)=0)) then
               some (Hf p_r7.2)
              else
               (Bv n rest) (b3_r7+1)
             else
              if decide (p_r7.2.kind=6) then
               if !(decide ((Hh p_r7.2)=0)) then
                some (Hh p_r7.2)
               else
                (Bv n rest) (b3_r7+1)
              else
               if decide (p_r7.2.kind=7) then
                if !(decide ((GY p_r7.2)=0)) then
                 some (GY p_r7.2)
                else
                 (Bv n rest) (b3_r7+1)
               else
                if decide (p_r7.2.kind=8) then
                 if !(decide ((G1 p_r7.2)=0)) then
                  some (G1 p_r7.2)
                 else
                  (Bv n rest) (b3_r7+1)
                else
                 if decide (p_r7.2.kind=9) then
                  (Kt n p_r7.2).bind fun g =>
                  if !(decide (g=0)) then
                   some (g)
                  else
                   (Bv n rest) (b3_r7+1)
                 else
                  if decide (p_r7.2.kind=10) then
                   (I6 p_r7.2).bind fun b =>
                   if !(decide (b=0)) then
                    some (b)
                   else
                    (Bv n rest) (b3_r7+1)
                  else
                   none
  else none
def HL (n:Nat) (b:Vl):Option Int :=
 if b.depth<4611686018427387904∧b.wide=true then
  Bv n (GU 1 b) 0
 else none
theorem QP (w0:World) (hT:Lib.Utf8Tabs 2 3 w0) (n:Nat) (B:Aq) (Rw:Aw) (L:Av) (a0:Vl) (r:Int) (h:HL n a0=some r) :
  ACalls Tryz.prog w0 60 [.agg (a0.cs)] ⟨B,Rw,L⟩ fun x st=>x=Am r∧st=⟨B,Rw,L⟩:=by
 rw [HL] at h
 refine hd [.cell 2 41] Tryz.func60 Tryz.ntmps60 fun M0 W0 o g f b hu k hs=>?_
 simp only [AB]
 refine rg [1,2] hs ?_
 apply An;intro K2 y
 apply Ap 2 [1,2,3]
 rw [Ao];simp +decide only [go_sem,Nat.reduceAdd,Vh]
 (repeat' apply Ae)<;>first | refine Ax _ (Ze4 w0 _ _ _ ) (by first | rfl | (simp +decide only [go_sem,Nat.reduceAdd,Vh];done) | (simp +decide only [go_sem,Nat.reduceAdd,Vl.cs,Ty.cs,Vh];done)) ?_ | exact cl
 rw [Ao];simp +decide only [go_sem,Nat.reduceAdd,Vh]
 (repeat' apply Ae)<;>first | refine y _ _ ?_ | exact cl
 clear y
 refine rg [1,2,3,4] hs ?_
 apply An;intro K4 af
 refine rc 2 [2,3,4,10] hs ?_;intro K5 ad
 refine DL _ (Tm w0 _ _ _ a0) (hv hs) ?_;rintro _ _ ⟨rfl,rfl⟩
 refine ne hs ad ?_
 clear ad
 apply Ar
 obtain ⟨aj,h⟩:=Au h
 refine S5 (KU a0) (fun st=>st.boxes[(B.length+4)]? = some a0.cs) (fun i st=>∃ (d:Int) (Rr7:Aw),st=⟨B++([a0.cs,[Am 0],[.val .nilFunc,.clo 215 [],.clo 217 [],.clo 218 [],.clo 220 [],.clo 223 [],.clo 224 [],.clo 225 [],.clo 226 [],.clo 227 [],.clo 228 []],[Am d],a0.cs]),Rr7,L⟩∧Owns Rw Rr7 []∧Bv n ((GU 1 a0).drop i) d=some r) (fun ex st=>ex = .ret∧∃ (z0:List AV) (z2:List AV) (z3:List AV) (z4:List AV) (rows:Aw),st=⟨B++[z0,[Am r],z2,z3,z4],rows,L⟩∧Owns Rw rows []) ev ev (P3 w0 a0 aj _) (fun x F=>UH a0 x F) (by decide) ?_ ⟨0,Rw,ef hs,k,h⟩ (fun _ _ h => .inl h.1) ?_ ?_ ?_
 ·rintro i st la ⟨d,Rr7,rfl,k,h⟩ _ _;simp +decide [St.push]
 ·rintro i s1 ⟨XB,XR,XL⟩ x M1 W1 l la H hX hI ai ag F w K hK
  obtain ⟨c,ah,rfl,hi⟩:=V8 a0 i x F
  (try simp only at hX)
  subst hX
  obtain ⟨d,Rr7,rfl,k,h⟩:=hI
  rw [Vb ah,Bv] at h
  have m:=k
  simp only [St.ext,St.push,List.append_assoc,List.append_nil]
  refine rg [2,3,4,5,12] hs ?_
  apply Ap 1 [2,3,4,5,6]
  rw [Ao];simp +decide only [go_sem,Nat.reduceAdd]
  (repeat' apply Ae)<;>first | refine hK _ _ (by simp [St.ext,St.push]) (fun KQ z=>?_) | exact cl
  clear hK
  dsimp only [St.ext,St.push]
  have kr:∀ (e:Env) (x:Int),x=r→∀ G,KQ .ret e ⟨B++(a0.cs::[Am x]::[.val .nilFunc,.clo 215 [],.clo 217 [],.clo 218 [],.clo 220 [],.clo 223 [],.clo 224 [],.clo 225 [],.clo 226 [],.clo 227 [],.clo 228 []]::[Am (d+1)]::a0.cs::(XB++G)),Rr7,L++H::XL⟩:=by
   intro e x F G
   rw [F]
   exact z _ _ _ ⟨⟨B++[a0.cs,[Am r],[.val .nilFunc,.clo 215 [],.clo 217 [],.clo 218 [],.clo 220 [],.clo 223 [],.clo 224 [],.clo 225 [],.clo 226 [],.clo 227 [],.clo 228 []],[Am (d+1)],a0.cs],Rr7,L⟩,G,by simp only [List.append_assoc,List.cons_append,List.nil_append],⟨by simp,by first | exact Nat.le_refl _ | (have:=k.len;simp;omega),rfl⟩,rfl,⟨rfl,_,_,_,_,Rr7,rfl,k.sub (List.nil_sublist _)⟩,.inr (UO w m k rfl (ln k m) ap_ ow)⟩
  have p:∀ (e:Env) (G:Aq),Bv n ((GU 1 a0).drop (i+1)) (d+1)=some r→KQ .normal e ⟨B++(a0.cs::[Am 0]::[.val .nilFunc,.clo 215 [],.clo 217 [],.clo 218 [],.clo 220 [],.clo 223 [],.clo 224 [],.clo 225 [],.clo 226 [],.clo 227 [],.clo 228 []]::[Am (d+1)]::a0.cs::(XB++G)),Rr7,L++H::XL⟩:=fun e G h=>z _ _ _ ⟨⟨B++[a0.cs,[Am 0],[.val .nilFunc,.clo 215 [],.clo 217 [],.clo 218 [],.clo 220 [],.clo 223 [],.clo 224 [],.clo 225 [],.clo 226 [],.clo 227 [],.clo 228 []],[Am (d+1)],a0.cs],Rr7,L⟩,G,by simp only [List.append_assoc,List.cons_append,List.nil_append],⟨by simp,by first | exact Nat.le_refl _ | (have:=k.len;simp;omega),rfl⟩,rfl,⟨(d+1),Rr7,rfl,k,h⟩,.inr (UO w m k rfl (ln k m) ap_ ow)⟩
  apply Ar
  obtain ⟨am,h⟩:=Au h
  refine rg [2,3,4,5,6] hs ?_
  apply An;intro K11 t
  apply Ar
  refine rg [2,3,5,6,15] hs ?_
  refine BL h hs ?_ ?_<;>intro hs h
  ·have U:=hs.1
   exact go (tg (a:=([2],()))) h hs o g f b k trivial (q2 kr p)
  have U:=hs.1
  refine rg [2,3,6,18] hs ?_
  refine BL h hs ?_ ?_<;>intro hs h
  ·have Z:=hs.1
   exact go (tg (a:=([2],()))) h hs o g f b k trivial (q2 kr p)
  have Z:=hs.1
  refine rc 2 [2,3,6,21] hs ?_;intro K18 q
  refine Ax _ (Y9 w0 _ _ _ c.2) (hv hs) ?_
  refine ne hs q ?_
  clear q
  refine BL h hs ?_ ?_<;>intro hs h
  ·have N:=hs.1
   exact go (tg (a:=([2],()))) h hs o g f b k trivial (q2 kr p)
  have N:=hs.1
  refine rg [2,3,6,24] hs ?_
  refine BL h hs ?_ ?_<;>intro hs h
  ·have C:=hs.1
   exact go (tg (a:=([2],()))) h hs o g f b k trivial (q2 kr p)
  have C:=hs.1
  refine rc 2 [2,3,6,33] hs ?_;intro K24 u
  refine Ax _ (ZbS w0 _ _ _ c.2) (hv hs) ?_
  refine ne hs u ?_
  clear u
  refine BL h hs ?_ ?_<;>intro hs h
  ·have Q:=hs.1
   exact go (tg (a:=([2],()))) h hs o g f b k trivial (q2 kr p)
  have Q:=hs.1
  refine sk [2,3,6] hs t ?_
  clear t
  apply An;intro K27 j
  rcases Bool.eq_false_or_eq_true (decide (c.2.kind=0)) with hf28 | hf28
  ·replace h:=Be h hf28
   have ak:c.2.kind=0:=of_decide_eq_true hf28
   cases h
  ·replace h:=Bh h hf28
   rcases Bool.eq_false_or_eq_true (decide (c.2.kind=1)) with hf30 | hf30
   ·replace h:=Be h hf30
    have J:c.2.kind=1:=of_decide_eq_true hf30
    exact go (tg (a:=([7,2,7],[2,7,44],([2],()),([]:List Nat),()))) h (Ae J (Ae hf30 (Ae hf28 hs))) o g f b k (q1 (WN w0)) (q3 kr p j)
   ·replace h:=Bh h hf30
    rcases Bool.eq_false_or_eq_true (decide (c.2.kind=2)) with hf35 | hf35
    ·replace h:=Be h hf35
     have E:c.2.kind=2:=of_decide_eq_true hf35
     exact go (tg (a:=([7,2,7],[2,7,44],([2],()),([]:List Nat),()))) h (Ae E (Ae hf35 (Ae hf30 (Ae hf28 hs)))) o g f b k (q1 (Wx w0)) (q3 kr p j)
    ·replace h:=Bh h hf35
     rcases Bool.eq_false_or_eq_true (decide (c.2.kind=3)) with hf40 | hf40
     ·replace h:=Be h hf40
      have O:c.2.kind=3:=of_decide_eq_true hf40
      exact go (tg (a:=([7,2,7],[2,7,44],([2],()),([]:List Nat),()))) h (Ae O (Ae hf40 (Ae hf35 (Ae hf30 (Ae hf28 hs))))) o g f b k (q1 (YC w0 n)) (q3 kr p j)
     ·replace h:=Bh h hf40
      rcases Bool.eq_false_or_eq_true (decide (c.2.kind=4)) with hf46 | hf46
      ·replace h:=Be h hf46
       have D:c.2.kind=4:=of_decide_eq_true hf46
       exact go (tg (a:=([7,2,7],[2,7,44],([2],()),([]:List Nat),()))) h (Ae D (Ae hf46 (Ae hf40 (Ae hf35 (Ae hf30 (Ae hf28 hs)))))) o g f b k (q1 (YM w0 hT)) (q3 kr p j)
      ·replace h:=Bh h hf46
       rcases Bool.eq_false_or_eq_true (decide (c.2.kind=5)) with hf52 | hf52
       ·replace h:=Be h hf52
        have ae:c.2.kind=5:=of_decide_eq_true hf52
        exact go (tg (a:=([7,2,7],[2,7,44],([2],()),([]:List Nat),()))) h (Ae ae (Ae hf52 (Ae hf46 (Ae hf40 (Ae hf35 (Ae hf30 (Ae hf28 hs))))))) o g f b k (q1 (Ws w0)) (q3 kr p j)
       ·replace h:=Bh h hf52
        rcases Bool.eq_false_or_eq_true (decide (c.2.kind=6)) with hf57 | hf57
        ·replace h:=Be h hf57
         have aa:c.2.kind=6:=of_decide_eq_true hf57
         exact go (tg (a:=([7,2,7],[2,7,44],([2],()),([]:List Nat),()))) h (Ae aa (Ae hf57 (Ae hf52 (Ae hf46 (Ae hf40 (Ae hf35 (Ae hf30 (Ae hf28 hs)))))))) o g f b k (q1 (WG w0)) (q3 kr p j)
        ·replace h:=Bh h hf57
         rcases Bool.eq_false_or_eq_true (decide (c.2.kind=7)) with hf62 | hf62
         ·replace h:=Be h hf62
          have v:c.2.kind=7:=of_decide_eq_true hf62
          exact go (tg (a:=([7,2,7],[2,7,44],([2],()),([]:List Nat),()))) h (Ae v (Ae hf62 (Ae hf57 (Ae hf52 (Ae hf46 (Ae hf40 (Ae hf35 (Ae hf30 (Ae hf28 hs))))))))) o g f b k (q1 (WQ w0)) (q3 kr p j)
         ·replace h:=Bh h hf62
          rcases Bool.eq_false_or_eq_true (decide (c.2.kind=8)) with hf67 | hf67
          ·replace h:=Be h hf67
           have V:c.2.kind=8:=of_decide_eq_true hf67
           exact go (tg (a:=([7,2,7],[2,7,44],([2],()),([]:List Nat),()))) h (Ae V (Ae hf67 (Ae hf62 (Ae hf57 (Ae hf52 (Ae hf46 (Ae hf40 (Ae hf35 (Ae hf30 (Ae hf28 hs)))))))))) o g f b k (q1 (WA w0)) (q3 kr p j)
          ·replace h:=Bh h hf67
           rcases Bool.eq_false_or_eq_true (decide (c.2.kind=9)) with hf72 | hf72
           ·replace h:=Be h hf72
            have Y:c.2.kind=9:=of_decide_eq_true hf72
            exact go (tg (a:=([7,2,7],[2,7,44],([2],()),([]:List Nat),()))) h (Ae Y (Ae hf72 (Ae hf67 (Ae hf62 (Ae hf57 (Ae hf52 (Ae hf46 (Ae hf40 (Ae hf35 (Ae hf30 (Ae hf28 hs))))))))))) o g f b k (q1 (Yx w0 n)) (q3 kr p j)
           ·replace h:=Bh h hf72
            rcases Bool.eq_false_or_eq_true (decide (c.2.kind=10)) with hf78 | hf78
            ·replace h:=Be h hf78
             have ab:c.2.kind=10:=of_decide_eq_true hf78
             exact go (tg (a:=([7,2,7],[2,7,44],([2],()),([]:List Nat),()))) h (Ae ab (Ae hf78 (Ae hf72 (Ae hf67 (Ae hf62 (Ae hf57 (Ae hf52 (Ae hf46 (Ae hf40 (Ae hf35 (Ae hf30 (Ae hf28 hs)))))))))))) o g f b k (q1 (WC w0)) (q3 kr p j)
            ·replace h:=Bh h hf78
             cases h
 ·rintro s la ⟨XB,XR,XL⟩ hXR ⟨d,Rr7,rfl,k,h⟩ _ _
  simp only at hXR
  subst hXR
  rw [List.drop_eq_nil_of_le (by rw [P2];exact Nat.le_refl _),Bv] at h
  simp only [St.ext,St.push,List.append_assoc,List.append_nil]
  (repeat' apply Ae)<;>first | refine af _ _ ?_ | exact cl
  clear af
  refine Su (bs:=[a0.cs,[Am 0],[.val .nilFunc,.clo 215 [],.clo 217 [],.clo 218 [],.clo 220 [],.clo 223 [],.clo 224 [],.clo 225 [],.clo 226 [],.clo 227 [],.clo 228 []],[Am d],a0.cs]) o g f rfl b k ow ow ?_
  refine rg [2] hs ?_
  exact rt h hs b k
 ·rintro ex s la ⟨XB,XR,XL⟩ hXR ⟨rfl,z0,z2,z3,z4,rows,rfl,k⟩ _ _
  simp only at hXR
  subst hXR
  simp only [St.ext,St.push,List.append_assoc,List.append_nil]
  simp +decide only [go_sem,Nat.reduceAdd]
  (repeat' with_reducible apply Ae)<;>first | refine ZiI b rfl k.pre ev ⟨?_,rfl⟩ | (intros;omega) | (intros;simp_all;done)
  first | rfl | (simp +decide only [go_sem,Nat.reduceAdd];done)
end Go.Proofs.YtmcnjijeocmkgaaGreatDoor
