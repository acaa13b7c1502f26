/-
  Part 7 of the proof: rules and walks that the claim's last text uses.
-/
import Derived.BigQuiet
import Derived.Deep.LoopGhost
import Derived.Deep.QuietTactic
import Derived.Deep.RegionLaw
import Derived.Ground.Names2Prog
import Derived.Ground.NamesProg
import Derived.Ground.SlgfProg
import Derived.Ground.SlgnProg
import Derived.Ground.SlsfProg
import Derived.Laws.RangeAny
import Derived.Lib.OthersKept
import Derived.Lib.SliceRun
import Derived.Lib.Walk
import Derived.Shelf.LaysC
import Derived.Shelf.LaysM
import Derived.Shelf.RegionOpenPlain
import Derived.Shelf.SlBodiesN
import Derived.Shelf.Slices.Clone
import Derived.Shelf.SlicesE.Clone
import Derived.Shelf.SlicesE.Equal
import Derived.Shelf.SlicesE.IndexFunc
import Derived.Shelf.Small.Bits
import Derived.Shelf.Small.Strs
import Derived.Shelf.Small.Utf8
import Derived.Shelf.Strconv.Atoi
import Derived.Shelf.Strconv.AtoiAll
import Derived.Shelf.Strconv.AtoiErrFast
import Derived.Shelf.Strconv.AtoiFail
import Derived.Shelf.Strconv.AtoiInnerAll
import Derived.Shelf.Strconv.AtoiLong
import Derived.Shelf.Strconv.Clone
import Derived.Shelf.Strconv.Lower
import Derived.Shelf.Strconv.ParseInt10
import Derived.Shelf.Strconv.ParseIntEmpty
import Derived.Shelf.Strconv.ParseUint10
import Derived.Shelf.Strconv.ParseUint10Any
import Derived.Shelf.Strconv.ParseUint10Empty
import Derived.Shelf.Strconv.RangeError
import Derived.Shelf.Strconv.SyntaxError
import Derived.Shelf.Strconv.ToError
import Derived.Shelf.Strconv.ToErrorRange
import Derived.Shelf.Strings.AsciiSet
import Derived.Shelf.Strings.Cut
import Derived.Shelf.Strings.IndexAny
import Derived.Shelf.Strings.IndexAnyAll
import Derived.Shelf.Strings.Prefix
import Derived.Shelf.Strings.Repeat
import Derived.Shelf.Strings.Runes
import Derived.Shelf.Strings.Search1
import Derived.Shelf.Strings.Search2
import Derived.Shelf.Strings.Shaped
import Derived.Shelf.Unicode.Decode
import Derived.Shelf.Unicode.DecodeAny
import Derived.Shelf.Unicode.DecodeSlow
import Derived.Shelf.Utf8.AppendRunePlain
import Derived.Test.YtcdnijfbfdnjlaaGreatDoorProg
import Derived.WalkKit
import Derived.WalkMore
import Derived.WalkSmall
import Derived.Test.YtcdnijfbfdnjlaaGreatDoorKo6
set_option linter.unusedSimpArgs false
set_option linter.unusedVariables false
set_option maxRecDepth 100000
set_option maxHeartbeats 4000000
namespace Go.Ev
open Go Go.RowKit
section
variable {P:Program} {w0:World} {n:Nat}
noncomputable def Fresh (P:Program) (w0:World) (M:Mem) (w:World) (b:Nat) (t:TypeId):Prop :=
 ∃ iz v,P.info? t=some iz∧iz.zero=some v∧w.heap[b]? = some (.cells v.cells t (0,0))∧M.foreign b∧M.top b=0∧w0.heap.size≤b
theorem Fresh.mono {M M':Mem} {w w':World} {b:Nat} {t:TypeId} (h:Fresh P w0 M w b t) (hx:Ext w0 M w M' w'):Fresh P w0 M' w' b t:=by
 obtain ⟨i,v,e,g,a,f,c,d⟩:=h
 obtain ⟨a1,a2,a3⟩:=hx.keep b (Array.getElem?_eq_some_iff.1 a).1 f
 exact ⟨i,v,e,g,a1.trans a,a2,a3.trans c,d⟩
theorem Fresh.lt {M:Mem} {w:World} {b:Nat} {t:TypeId} (h:Fresh P w0 M w b t):b<w.heap.size:=by
 obtain ⟨i,v,e,g,a,f,c,d⟩:=h
 exact (Array.getElem?_eq_some_iff.1 a).1
theorem RelSt.foreign_new {M:Mem} {w:World} {st:St} (h:RelSt w0 M st w) {b:Nat} (hb:w.heap.size≤b):M.foreign b :=
 ⟨fun l e=>by have:=h.box_lt e;omega,fun i c=>by have:=h.row_lt c;omega,fun k d=>by
  have a:k<st.loops.length:=by rw [←h.loop.NL];exact d
  have:=(h.loop.record k _ (List.getElem?_eq_getElem a)).2.lt
  omega⟩
theorem Zi4 {M M1:Mem} {w w1:World} {e:Env} {st:St} {a:Act} {b s:Nat} {t:TypeId} {z:List AV} (h:Rel w0 n M e st a w) (hx:Ext w0 M1 w1 M w) (F:Fresh P w0 M w b t) (hb:w1.heap.size≤b) (hz:AU P t=some z) (hs:s<n) (ht:a.tmps.getD s undef = .pointer (some ⟨b,0,none⟩)) :
  Rel w0 n (M.newBox b) (C0 e (some s) true (.box st.boxes.length 0)) { st with boxes:=st.boxes++[z] } a w∧Ext w0 M1 w1 (M.newBox b) w∧∀ b' t',b'≠b→Fresh P w0 M w b' t'→Fresh P w0 (M.newBox b) w b' t':=by
 obtain ⟨iz,v,V,U,J,f4,f5,f6⟩:=F
 obtain ⟨i',H,hi,hv,hc,aa,rfl⟩:=Cm hz
 rw [V] at hi
 cases hi
 rw [U] at hv
 cases hv
 have ab:=(Array.getElem?_eq_some_iff.1 J).1
 have d:∀ l,l<M.N→(M.newBox b).bx l=M.bx l:=fun l hl=>by simp [Mem.newBox];omega
 have hnew:(M.newBox b).bx M.N=b:=by simp [Mem.newBox]
 have o:(M.newBox b).N=M.N+1:=rfl
 have ag:∀ {v:Value} {x:AV},R w0 M w v x→R w0 (M.newBox b) w v x:=fun K=>R.agree (nb:=M.N) (nr:=M.NR) (nl:=M.NL) d (by rw [o];omega) rfl rfl rfl rfl rfl rfl rfl rfl K K.under
 have u:∀ {v:Value} {x:Bool × AV},entryOk w0 M w v x→entryOk w0 (M.newBox b) w v x:=fun {v x} hE=>by
  unfold entryOk at hE ⊢
  split
  ·rename_i c;rw [Ah c] at hE;exact ag hE
  ·rename_i c;rw [Ai c] at hE;exact hE
 have p:R w0 (M.newBox b) w v (E7 v):=HT hc
 have y:∀ c,c≠b→M.foreign c→(M.newBox b).foreign c:=fun c hc q=>⟨fun l hl=>by
  by_cases e1:l=M.N
  ·subst e1;rw [hnew];exact fun q=>hc q.symm
  ·rw [d l (by omega)];exact q.1 l (by omega),q.2⟩
 refine ⟨⟨⟨h.st.below,by simp [o,h.st.N],h.st.NR,h.st.top,fun l j hl g q=>?_,fun l c hl=>?_,fun id x r=>?_,h.st.rowinj,⟨h.st.loop.NL,h.st.loop.inj,fun k la m=>?_⟩⟩,h.size,fun s' x hs'=>?_⟩,
  ⟨by rw [o];have:=hx.N;omega,fun l hl=>(d l (Nat.lt_of_lt_of_le hl hx.N)).trans (hx.bx l hl),hx.NR,hx.rows,hx.cell,hx.size,hx.NL,hx.lb,hx.lnew,hx.objs,fun c q1 q2=>?_⟩,fun b' t' f F'=>?_⟩
 ·rw [o] at hl g
  by_cases e1:l=M.N
  ·by_cases e2:j=M.N
   ·omega
   ·subst e1
    rw [hnew,d j (by omega)] at q
    exact absurd q.symm (f4.1 j (by omega))
  ·by_cases e2:j=M.N
   ·subst e2
    rw [hnew,d l (by omega)] at q
    exact absurd q (f4.1 l (by omega))
   ·rw [d l (by omega),d j (by omega)] at q
    exact h.st.inj l j (by omega) (by omega) q
 ·by_cases e1:l=M.N
  ·subst e1
   simp only [h.st.N,List.getElem?_concat_length,Option.some.injEq] at hl
   subst hl
   rw [hnew]
   obtain ⟨Q,k2⟩:=p.cells
   exact ⟨f6,f5,v.cells,t,J,Q,p.cellsOne (fun vs q=>by have:=F4 hc;rw [q] at this;cases this),k2⟩
  ·have g:l<M.N:=by
    have:=(Aj.1 hl).1
    have:=h.st.N
    simp at *
    omega
   rw [List.getElem?_append_left (by rw [←h.st.N];exact g)] at hl
   obtain ⟨a1,a2,c',G,a3,a4,a5,a6⟩:=h.st.box l c hl
   rw [d l g]
   exact ⟨a1,a2,c',G,a3,a4,a5,fun i E C=>ag (a6 i E C)⟩
 ·have m:=h.st.row id x r
  have hidN:id<M.NR:=by rw [h.st.NR];exact (Aj.1 r).1
  have f:∀ l,l<(M.newBox b).N→(M.newBox b).bx l≠M.blk id:=fun l hl=>by
   by_cases e1:l=M.N
   ·subst e1;rw [hnew];exact fun q=>f4.2.1 id hidN q.symm
   ·rw [d l (by omega)];exact m.ne l (by omega)
  cases x with
  | grow n sz=>obtain ⟨a1,a2,a3,a4,a5,a6⟩:=m;exact ⟨a1,a2,a3,a4,f,a6⟩
  | vec v sz cs =>
   obtain ⟨a1,a2,a3,a4,a5,a6,a7,c,ty,Z,a9,b1,Y,O⟩:=m
   exact ⟨a1,a2,a3,a4,f,a6,a7,c,ty,Z,a9,b1,Y,fun i E C=>ag (O i E C)⟩
  | dead v=>obtain ⟨a1,a2,a3,a4⟩:=m;exact ⟨a1,a2,f,a4⟩
 ·obtain ⟨a1,a2⟩:=h.st.loop.record k la m
  exact ⟨a1,a2.map (fun _ q _=>q) fun s x v _ hE=>u hE⟩
 ·simp only [C0,look] at hs'
  split at hs'
  ·rename_i q
   cases hs'
   subst q
   show R w0 (M.newBox b) w _ _
   rw [ht]
   have:=R.box (w0:=w0) (M:=M.newBox b) (w:=w) (l:=st.boxes.length) (off:=0) (by rw [o,h.st.N];omega)
   rw [←h.st.N,hnew] at this
   rw [←h.st.N]
   exact this
  ·exact u (h.env s' x hs')
 ·obtain ⟨a1,a2,a3⟩:=hx.keep c q1 q2
  exact ⟨a1,y c (by omega) a2,a3⟩
 ·obtain ⟨D,H,g1,g2,g3,g4,g5,g6⟩:=F'
  exact ⟨D,H,g1,g2,g3,y b' f g4,g5,g6⟩
noncomputable def I0 (P:Program) (n:Nat) (l:List Oper):List Nat→Env→St→Option (Env × St)
 | [],e,st=>some (e,st)
 | i::is,e,st=>match l[i]? with
  | some o=>match o.op,o.dst,o.guard with
   | .alloc t,some s,none=>match AU P t with
    | some z=>if s<n then I0 P n l is (C0 e (some s) true (.box st.boxes.length 0)) { st with boxes:=st.boxes++[z] } else none
    | none=>none
   | _,_,_=>none
  | none=>none
theorem ZaN {l:List Oper} {M1:Mem} {w w1:World} {a:Act} {bl:Nat→Nat}:∀ (is:List Nat) (M:Mem) (e:Env) (st:St) (e2:Env) (st2:St),is.Nodup→I0 P n l is e st=some (e2,st2)→Rel w0 n M e st a w→Ext w0 M1 w1 M w →
  (∀ i∈is,∀ o s t,l[i]? = some o→o.dst=some s→o.op = .alloc t→a.tmps.getD s undef = .pointer (some ⟨bl i,0,none⟩)∧Fresh P w0 M w (bl i) t∧w1.heap.size≤bl i)→(∀ i∈is,∀ j∈is,bl i=bl j→i=j) →
  ∃ M2,Rel w0 n M2 e2 st2 a w∧Ext w0 M1 w1 M2 w
 | [],M,e,st,e2,st2,_,h,hr,hx,_,_=>by
  cases h
  exact ⟨M,hr,hx⟩
 | i::is,M,e,st,e2,st2,hnd,h,hr,hx,hF,hinj=>by
  simp only [I0] at h
  split at h
  rotate_left
  ·cases h
  rename_i o ho
  split at h
  rotate_left
  ·cases h
  rename_i t s q1 q2 q3
  split at h
  rotate_left
  ·cases h
  rename_i z hz
  split at h
  rotate_left
  ·cases h
  rename_i hsn
  obtain ⟨r,g,x⟩:=hF i (List.mem_cons_self ..) o s t ho q2 q1
  obtain ⟨f,C,p⟩:=Zi4 hr hx g x hz hsn r
  have b:=List.nodup_cons.1 hnd
  refine ZaN is _ _ _ _ _ b.2 h f C (fun j c o' u y g1 g2 g3=>?_) (fun j c v d=>hinj j (List.mem_cons_of_mem _ c) v (List.mem_cons_of_mem _ d))
  obtain ⟨m,D,k⟩:=hF j (List.mem_cons_of_mem _ c) o' u y g1 g2 g3
  refine ⟨m,p _ _ (fun q=>?_) D,k⟩
  have:=hinj j (List.mem_cons_of_mem _ c) i (List.mem_cons_self ..) q
  exact b.1 (this▸c)
structure DInvA (P:Program) (w0:World) (n:Nat) (l:List Oper) (h:Nat) (ef:List Nat) (e:Env) (st:St) (C:Nat→Bool) (V:Nat→AV) (M1:Mem) (w1:World) (ds:List Deferred) (listed:Array Bool) (a:Act) (w:World) (M:Mem) (bl:Nat→Nat):Prop where
 size:listed.size=l.length
 tail:∀ t,h≤t→t<l.length→listed.getD t true=false
 closed:∀ j oj,l[j]? = some oj→listed.getD j false=true→∀ e∈oj.after,Region.binds .any e=true→listed.getD e.on false=true
 rel:RelSt w0 M st w
 tmps:a.tmps.size=n
 defers:a.defers=ds
 ext:Ext w0 M1 w1 M w
 old:∀ s x,(∀ i o,i<h→l[i]? = some o→o.dst≠some s)→look e s=some x→entryOk w0 M w (a.tmps.getD s undef) x
 new:∀ i o s,i<h→i ∉ ef→l[i]? = some o→o.dst=some s→listed.getD i false=true→entryOk w0 M w (a.tmps.getD s undef) (C i,V i)
 al:∀ i∈ef,listed.getD i false=true→∀ o s t,l[i]? = some o→o.dst=some s→o.op = .alloc t→a.tmps.getD s undef = .pointer (some ⟨bl i,0,none⟩)∧Fresh P w0 M w (bl i) t∧w1.heap.size≤bl i
 inj:∀ i∈ef,∀ j∈ef,listed.getD i false=true→listed.getD j false=true→bl i=bl j→i=j
noncomputable def LX (P:Program) (o:Oper):Bool :=
 match o.op,o.dst,o.guard with
 | .alloc t,some _,none=>(match P.info? t with | some i=>i.zero.isSome | none=>false)
 | _,_,_=>false
theorem RY {o:Oper} (h:LX P o=true):∃ t s iz v,o.op = .alloc t∧o.dst=some s∧o.guard=none∧P.info? t=some iz∧iz.zero=some v:=by
 obtain ⟨dst,op,c,b,a,guard⟩:=o
 unfold LX at h
 split at h
 ·rename_i t s q1 q2 q3
  split at h
  ·rename_i iz hi
   obtain ⟨v,hv⟩:=Option.isSome_iff_exists.1 h
   exact ⟨t,s,iz,v,q1,q2,q3,hi,hv⟩
  ·cases h
 ·cases h
noncomputable def WC (P:Program) (n:Nat) (l:List Oper) (h:Nat) (ef:List Nat) (e:Env):Bool :=
 ef.all fun i=>Nat.blt i h&&(match l[i]? with
  | some o=>LX P o&&(match o.dst with
   | some s=>Nat.blt s n&&(look e s).isNone&&(l.take h).all fun p => !(looks l p).contains s
   | none=>false)
  | none=>false)
theorem DV {l:List Oper} {h:Nat} {ef:List Nat} {e:Env} (hA:WC P n l h ef e=true) {i:Nat} (hi:i∈ef) :
  i<h∧∃ o t s iz v,l[i]? = some o∧o.op = .alloc t∧o.dst=some s∧o.guard=none∧P.info? t=some iz∧iz.zero=some v∧s<n∧look e s=none∧∀ j p,j<h→l[j]? = some p→s ∉ looks l p:=by
 have a:=List.all_eq_true.1 hA i hi
 rw [Bool.and_eq_true] at a
 obtain ⟨a,h2⟩:=a
 refine ⟨DZ a,?_⟩
 split at h2
 rotate_left
 ·cases h2
 rename_i o ho
 rw [Bool.and_eq_true] at h2
 obtain ⟨t,s,iz,v,q1,q2,q3,q,m⟩:=RY h2.1
 have b:=h2.2
 rw [q2] at b
 simp only [Bool.and_eq_true] at b
 obtain ⟨⟨g,d⟩,r⟩:=b
 refine ⟨o,t,s,iz,v,ho,q1,q2,q3,q,m,DZ g,Option.isNone_iff_eq_none.1 d,fun j p u f k=>?_⟩
 have:=List.all_eq_true.1 r p (List.mem_of_getElem? (by rw [List.getElem?_take_of_lt u];exact f))
 have c:(looks l p).contains s=true:=by simpa using k
 rw [c] at this
 cases this
theorem RH {ef:List Nat} {l:List Oper} {i:Nat} {o:Oper} (hi:i ∉ ef) (ho:l[i]? = some o):(Bd ef 0 l)[i]? = some o:=by
 rw [J9,ho]
 simp [hi]
theorem X5 {l:List Oper} {h:Nat} {ef:List Nat} {e:Env} {st:St} {E:Nat→Env} {C:Nat→Bool} {V:Nat→AV} {M1:Mem} {w1:World} {ds:List Deferred} {ro:Option Nat} {m:Nat} {Q:Exit→Act→World→Prop} {e2:Env} {st2:St}
  (T:Trail P w0 n l ((Bd ef 0 l).take h) e st E C V) (hB:JH l h=true) (hA:WC P n l h ef e=true) (hnd:ef.Nodup) (had:I0 P n l ef (E h) st=some (e2,st2))
  (hend:∀ a w M,Rel w0 n M e2 st2 a w→Ext w0 M1 w1 M w→a.defers=ds→wpListIn (FW ro) m P l.toArray Q (l.drop h) a w) :
  ∀ fuel listed a w M bl,fuel=listed.toList.count false→DInvA P w0 n l h ef e st C V M1 w1 ds listed a w M bl→wpAnyIn (FW ro) m P .any l.toArray Q fuel listed a w:=by
 simp only [JH,Bool.and_eq_true,decide_eq_true_eq] at hB
 obtain ⟨⟨⟨bj,hH⟩,hT⟩,hS⟩:=hB
 have be:((Bd ef 0 l).take h).length=h:=by rw [List.length_take,D1];omega
 have z:∀ j,j<h→((Bd ef 0 l).take h)[j]? = (Bd ef 0 l)[j]? := fun j hj=>List.getElem?_take_of_lt hj
 have au:∀ {j:Nat} {o:Oper},((Bd ef 0 l).take h)[j]? = some o→j<h:=fun {j o} hj=>by
  have:=(Aj.1 hj).1;omega
 have aq:∀ (i j:Nat) (o p:Oper) (s:Nat),((Bd ef 0 l).take h)[i]? = some o→((Bd ef 0 l).take h)[j]? = some p→o.dst=some s→p.dst=some s→i=j:=by
  intro i j o p s hi hj hs aw
  have a1:=au hi
  have a2:=au hj
  rw [z _ a1] at hi
  rw [z _ a2] at hj
  obtain ⟨b1,b2⟩:=FH hi hs
  obtain ⟨c1,c2⟩:=FH hj aw
  exact ((Gn hH a1 b2).2 j p s a2 c2 aw).1 hs
 have G:∀ s j,j≤h→_:=fun s j hj=>G2 T aq s j (by omega)
 have ao:∀ (listed:Array Bool) (a:Act) (w:World) (M:Mem) (bl:Nat→Nat) (fuel:Nat),fuel=listed.toList.count false→DInvA P w0 n l h ef e st C V M1 w1 ds listed a w M bl→(∀ j,j<h→listed.getD j false=true) →
   wpAnyIn (FW ro) m P .any l.toArray Q fuel listed a w:=by
  intro listed a w M bl fuel hf b u
  have hl:listed=Array.replicate h true++Array.replicate (l.length-h) false:=by
   apply Array.ext
   ·simp [b.size];omega
   ·intro i U h2
    by_cases c:i<h
    ·have:=u i c
     simp only [Array.getD_eq_getD_getElem?,Array.getElem?_eq_getElem U,Option.getD_some] at this
     rw [this,Array.getElem_append_left (by simpa using c)]
     simp
    ·have:=b.tail i (by omega) (by rw [←b.size];exact U)
     simp only [Array.getD_eq_getD_getElem?,Array.getElem?_eq_getElem U,Option.getD_some] at this
     rw [this,Array.getElem_append_right (by simpa using c)]
     simp
  have bc:fuel=(l.drop h).length:=by
   rw [hf,hl]
   simp [List.count_append,List.count_replicate]
  have ad:Rel w0 n M (E h) st a w:=by
   refine ⟨b.rel,b.tmps,fun s x hs=>?_⟩
   by_cases c:∃ j p,j<h∧j ∉ ef∧l[j]? = some p∧p.dst=some s
   ·obtain ⟨j,p,hj,D,hp,hd⟩:=c
    have:=(G s h (Nat.le_refl _)).2 j p hj (by rw [z _ hj];exact RH D hp) hd
    rw [this] at hs
    cases hs
    exact b.new j p s hj D hp hd (u j hj)
   ·have:=(G s h (Nat.le_refl _)).1 (fun j p hj hp hd=>by
     rw [z _ hj] at hp
     obtain ⟨b1,b2⟩:=FH hp hd
     exact c ⟨j,p,hj,b1,b2,hd⟩)
    rw [this] at hs
    refine b.old s x (fun j p hj hp hd=>?_) hs
    by_cases cj:j∈ef
    ·obtain ⟨_,o,t,s',iz,v,q1,q2,q3,q4,q5,q6,q7,q8,q9⟩:=DV hA cj
     rw [hp] at q1
     cases q1
     rw [hd] at q3
     cases q3
     rw [q8] at hs
     cases hs
    ·exact c ⟨j,p,hj,cj,hp,hd⟩
  obtain ⟨M2,az,a9⟩:=ZaN (bl:=bl) ef M (E h) st e2 st2 hnd had ad b.ext (fun i hi=>b.al i hi (u i (DV hA hi).1)) (fun i hi j hj q=>b.inj i hi j hj (u i (DV hA hi).1) (u j (DV hA hj).1) q)
  rw [bc]
  refine Hi (l.drop h) h listed a w (fun j=>by simp [List.getElem?_drop]) ?_ (hend a w M2 az a9 b.defers)
  rw [hl,List.length_drop]
  exact hS
 have ag:∀ (listed:Array Bool) (t:Nat) (o:Oper),(∀ j oj,l[j]? = some oj→listed.getD j false=true→∀ e∈oj.after,Region.binds .any e=true→listed.getD e.on false=true) →
   l[t]? = some o→h≤t→(∀ e∈o.after,Region.binds .any e=true→listed.getD e.on false=true)→∀ d j,j+d+1=t→listed.getD j false=true:=by
  intro listed t o a4 ho ht K d
  induction d using Nat.strongRecOn with
  | _ d ih =>
   intro j hj
   have bg:t<l.length:=(Aj.1 ho).1
   have U:=List.all_eq_true.1 (List.all_eq_true.1 hT (t-h) (List.mem_range.2 (by omega))) j (List.mem_range.2 (by omega))
   obtain ⟨q,hq,h2⟩:=List.any_eq_true.1 U
   have bi:q≤t:=by have:=List.mem_range.1 hq;omega
   simp only [Bool.and_eq_true,decide_eq_true_eq] at h2
   obtain ⟨bk,h3⟩:=h2
   cases hoq:l[q]? with
   | none=>simp [hoq] at h3
   | some oq =>
    simp only [hoq] at h3
    obtain ⟨ed,aj,ah,af⟩:=HZ h3
    by_cases c:q=t
    ·subst c
     rw [ho] at hoq;cases hoq
     exact af▸K ed aj ah
    ·have:=ih (t-q-1) (by omega) q (by omega)
     exact af▸a4 q oq hoq this ed aj ah
 intro fuel
 induction fuel with
 | zero =>
  intro listed a w M bl hf b
  refine ao listed a w M bl 0 hf b (fun j hj=>?_)
  cases hq:listed.getD j false with
  | true=>rfl
  | false =>
   exfalso
   have O:j<listed.size:=by rw [b.size];omega
   have:false∈listed.toList:=by
    have e1:listed[j]=false:=by simpa [O] using hq
    rw [←e1];simp
   have:=List.count_pos_iff.2 this
   omega
 | succ fuel ih =>
  intro listed a w M bl hf b
  by_cases u:∀ j,j<h→listed.getD j false=true
  ·exact ao listed a w M bl _ hf b u
  ·obtain ⟨k,a3,av,a7⟩:=JM u
   have ax:k<listed.size:=by rw [b.size];omega
   have a5:l[k]? = some l[k]:=List.getElem?_eq_getElem (by omega)
   have ai:k∈Region.ready .any l.toArray listed:=by
    refine mem_ready.2 ⟨by simpa [ax] using av,l[k],by simp,fun ed he hb=>a7 _ ((Gn hH a3 a5).1 ed he hb)⟩
   refine ⟨fun h0=>absurd ai (by rw [h0];simp),fun i hi=>?_⟩
   obtain ⟨ba,o,ho,K⟩:=mem_ready.1 hi
   have y:l[i]? = some o:=by simpa using ho
   have bh:i<l.length:=(Aj.1 y).1
   have ab:i<h:=by
    refine Nat.lt_of_not_le fun a0=>?_
    have:=ag listed i o b.closed y a0 K (i-k-1) k (by omega)
    rw [av] at this;cases this
   have F:=Gn hH ab y
   have g:i<listed.size:=by rw [b.size];omega
   have am:fuel=(listed.setIfInBounds i true).toList.count false:=by
    have ap:listed[i]=false:=by simpa [g] using ba
    have bd:0<listed.toList.count false:=List.count_pos_iff.2 (by rw [←ap];simp)
    rw [Array.toList_setIfInBounds,List.count_set (by simpa using g)]
    simp only [Array.getElem_toList,ap]
    rw [Ah (show (false == false)=true from rfl),Ai (show ¬ (true == false)=true by decide)]
    omega
   have ae:∀ t,h≤t→t<l.length→(listed.setIfInBounds i true).getD t true=false:=fun t U h2=>by
    rw [A7 g,Aa];exact b.tail t U h2
   have J:∀ j oj,l[j]? = some oj→(listed.setIfInBounds i true).getD j false=true→∀ e∈oj.after,Region.binds .any e=true→(listed.setIfInBounds i true).getD e.on false=true:=fun j oj hj hl ed he hb=>by
    rw [A7 g] at hl ⊢
    split
    ·rfl
    ·by_cases c:i=j
     ·subst c
      rw [y] at hj;cases hj
      exact K ed he hb
     ·rw [Ai c] at hl
      exact b.closed j oj hj hl ed he hb
   unfold wpOpIn
   simp only [ho]
   by_cases hie:i∈ef
   ·obtain ⟨_,o',t,s0,iz,v,q1,q2,q3,q4,q5,q6,q7,q8,q9⟩:=DV hA hie
    rw [y] at q1
    cases q1
    have hw:Region.wanted o (yielded l.toArray a.tmps)=true:=by simp [Region.wanted,q4]
    rw [hw,Ah rfl]
    refine ⟨fun f _=>Jd ro f,?_⟩
    have hs:Oper.semAt (FW ro).round a.eval o=execOp a.eval o:=by
     cases ro with
     | none=>rfl
     | some r=>exact Oper.semAt_some r a.eval o (fun c hh=>by rw [q2] at hh;cases hh)
    have ar:(execOp a.eval o).run P w = .ok (.value (.pointer (some ⟨w.heap.size,0,none⟩))) (w.alloc (.cells v.cells t)):=by
     simp [execOp,q2,Instr.alloc,zeroValue,typeInfo,q5,q6,newVar,newRow]
    rw [hs,ar]
    obtain ⟨z1,z2⟩:=b.rel.newTop v.cells t 0
    have Y:∀ s,(a.put o.dst (.pointer (some ⟨w.heap.size,0,none⟩))).tmps.getD s undef=if s0=s then .pointer (some ⟨w.heap.size,0,none⟩) else a.tmps.getD s undef:=fun s=>by
     rw [Ea a o.dst _ s (by rw [b.tmps,q3];exact q7),q3]
     by_cases c:s0=s
     ·subst c;simp
     ·rw [Ai (fun q=>c (Option.some.inj q)),Ai c]
    have N:∀ j p s,j<h→j≠i→l[j]? = some p→p.dst=some s→s0≠s:=fun j p s hj H hp hd q=>H ((F.2 j p s hj hp hd).1 (by rw [q3,q])).symm
    refine ih _ _ _ (M.newTop w.heap.size 0) (fun j=>if j=i then w.heap.size else bl j) am ⟨by simp [b.size],ae,J,z1,by rw [Iu];exact b.tmps,by rw [Dq];exact b.defers,b.ext.trans z2,fun s x U h2=>?_,fun j p s hj D hp hd hl=>?_,fun j hj hl p s t' hp hd hop=>?_,fun j hj j' O hl Z aa=>?_⟩
    ·rw [Y,Ai (fun q=>U i o ab y (by rw [q3,q]))]
     exact (b.old s x U h2).mono z2
    ·have H:j≠i:=fun q=>D (q▸hie)
     rw [A7 g,Ai (Ne.symm H)] at hl
     rw [Y,Ai (N j p s hj H hp hd)]
     exact (b.new j p s hj D hp hd hl).mono z2
    ·by_cases c:j=i
     ·subst c
      rw [y] at hp
      cases hp
      rw [q3] at hd
      cases hd
      rw [q2] at hop
      cases hop
      rw [Y,Ah rfl]
      simp only [if_true]
      exact ⟨trivial,⟨iz,v,q5,q6,World.alloc_heap_new w _,b.rel.foreign_new (Nat.le_refl _),by simp [Mem.newTop],b.rel.base_le⟩,b.ext.size⟩
     ·have a8:=(DV hA hj).1
      rw [A7 g,Ai (Ne.symm c)] at hl
      obtain ⟨m1,m2,m3⟩:=b.al j hj hl p s t' hp hd hop
      rw [Y,Ai (N j p s a8 c hp hd)]
      simp only [Ai c]
      exact ⟨m1,m2.mono z2,m3⟩
    ·have ak:∀ k∈ef,k≠i→(listed.setIfInBounds i true).getD k false=true→bl k<w.heap.size:=fun k hk H hl=>by
      rw [A7 g,Ai (Ne.symm H)] at hl
      obtain ⟨_,o2,t2,s2,bf,v2,p1,p2,p3,_⟩:=DV hA hk
      exact (b.al k hk hl o2 s2 t2 p1 p3 p2).2.1.lt
     by_cases c:j=i
     ·by_cases c':j'=i
      ·omega
      ·have:=ak j' O c' Z
       rw [Ah c,Ai c'] at aa
       omega
     ·by_cases c':j'=i
      ·have:=ak j hj c hl
       rw [Ai c,Ah c'] at aa
       omega
      ·rw [Ai c,Ai c'] at aa
       rw [A7 g,Ai (Ne.symm c)] at hl
       rw [A7 g,Ai (Ne.symm c')] at Z
       exact b.inj j hj j' O hl Z aa
   ·obtain ⟨t1,t2,t3,t4,t5⟩:=T.step i o (by rw [z _ ab];exact RH hie y)
    have ad:Rel w0 n M (AB true l o (E i)) st a w:=by
     refine ⟨b.rel,b.tmps,fun s x hs=>?_⟩
     simp only [AB,if_true] at hs
     have hm:=GZ _ _ _ _ hs
     have hl:=FA _ _ _ _ hs
     by_cases c:∃ j p,j<h∧j ∉ ef∧l[j]? = some p∧p.dst=some s
     ·obtain ⟨j,p,hj,D,hp,hd⟩:=c
      obtain ⟨bb,hw⟩:=(F.2 j p s hj hp hd).2 hm
      obtain ⟨ed,aj,ah,af⟩:=HZ hw
      have a6:listed.getD j false=true:=af▸K ed aj ah
      have:=(G s i (by omega)).2 j p bb (by rw [z _ hj];exact RH D hp) hd
      rw [this] at hl
      cases hl
      exact b.new j p s hj D hp hd a6
     ·have:=(G s i (by omega)).1 (fun j p hj hp hd=>by
       rw [z _ (by omega)] at hp
       obtain ⟨b1,b2⟩:=FH hp hd
       exact c ⟨j,p,by omega,b1,b2,hd⟩)
      rw [this] at hl
      refine b.old s x (fun j p hj hp hd=>?_) hl
      by_cases cj:j∈ef
      ·obtain ⟨_,o',t,s',iz,v,q1,q2,q3,q4,q5,q6,q7,q8,q9⟩:=DV hA cj
       rw [hp] at q1
       cases q1
       rw [hd] at q3
       cases q3
       exact q9 i o ab y hm
      ·exact c ⟨j,p,hj,cj,hp,hd⟩
    refine JG ad ro m t2 (by rw [t4];exact t5) Q _ fun v w' M' hx ay hv=>?_
    rw [t4] at hv
    have keep:∀ s x,o.dst≠some s→entryOk w0 M w (a.tmps.getD s undef) x→entryOk w0 M' w' ((a.put o.dst v).tmps.getD s undef) x:=by
     intro s x H U
     rw [Ea a o.dst v s (by rw [b.tmps];exact t3),Ai H]
     exact U.mono hx
    refine ih _ _ _ M' bl am ⟨by simp [b.size],ae,J,ay,by rw [Iu];exact b.tmps,by rw [Dq];exact b.defers,b.ext.trans hx,fun s x U h2=>?_,fun j p s hj D hp hd hl=>?_,fun j hj hl p s t' hp hd hop=>?_,fun j hj j' O hl Z aa=>?_⟩
    ·exact keep s x (U i o ab y) (b.old s x U h2)
    ·by_cases c:i=j
     ·subst c
      rw [y] at hp;cases hp
      rw [Ea a o.dst v s (by rw [b.tmps];exact t3),Ah hd]
      exact hv
     ·rw [A7 g,Ai c] at hl
      exact keep s _ (fun hs=>c ((F.2 j p s hj hp hd).1 hs)) (b.new j p s hj D hp hd hl)
    ·have c:i≠j:=fun q=>hie (q▸hj)
     rw [A7 g,Ai c] at hl
     obtain ⟨m1,m2,m3⟩:=b.al j hj hl p s t' hp hd hop
     rw [Ea a o.dst v s (by rw [b.tmps];exact t3),Ai (fun hs=>c ((F.2 j p s (DV hA hj).1 hp hd).1 hs))]
     exact ⟨m1,m2.mono hx,m3⟩
    ·rw [A7 g,Ai (fun q:i=j=>hie (q▸hj))] at hl
     rw [A7 g,Ai (fun q:i=j'=>hie (q▸O))] at Z
     exact b.inj j hj j' O hl Z aa
theorem XH {M0:Mem} {W0:World} {ro:Option Nat} {Q:AQ} {e:Env} {st:St} (hm:P.follows .mixedOrders=true) (h:Nat) (ef:List Nat) (c1 c2:Nat) {id:Nat} {l:List Oper} (hB:JH l h=true) (hA:WC P n l h ef e=true) (hnd:ef.Nodup)
  (hev:Ks P w0 n true l (fun e1 s1=>∃ e2 s2,I0 P n l ef e1 s1=some (e2,s2)∧Ks P w0 n false l (fun e2 s2=>Q .normal e2 s2) c2 (l.drop h) e2 s2) c1 ((Bd ef 0 l).take h) e st):C5 P w0 n M0 W0 ro (.region id l.toArray true) Q e st:=by
 intro m M a w f
 obtain ⟨E,C,V,T,e2,s2,k,D⟩:=JJ _ _ _ hev
 have F:h≤l.length:=by
  simp only [JH,Bool.and_eq_true,decide_eq_true_eq] at hB;exact hB.1.1.1
 have g:((Bd ef 0 l).take h).length=h:=by rw [List.length_take,D1];omega
 rw [g] at k
 obtain ⟨v,r⟩:=f.rel.st.drew
 have q:∀ {b:Bool} {j:Nat},(Array.replicate l.length false).getD j false=true→b=true:=fun {b j} d=>by
  exfalso
  by_cases c:j<l.length
  ·simp [Array.getD_eq_getD_getElem?,c] at d
  ·simp [Array.getD_eq_getD_getElem?,c] at d
 refine wpIn_region_any hm (X5 T hB hA hnd k (M1:=M) (w1:=w) (ds:=a.defers) (fun a1 w1 M1 o i p=>?_) _ _ a _ M (fun _=>0) (by simp) ?_)
 ·refine G0 ro m false l _ _ c2 _ _ s2 a1 w1 M1 o D fun e2 s2 a2 J G y H u q2=>⟨G,_,_,⟨H,f.ext.trans (i.trans u),?_⟩,y⟩
  rw [q2,p]
  exact f.marks.later (i.trans u) f.rel.st
 ·refine ⟨by simp,fun t _ z=>by simp [Array.getD_eq_getD_getElem?,z],fun j _ _ d=>?_,v,f.rel.size,rfl,r,fun s x _ hs=>(f.rel.env s x hs).mono r,fun j _ _ _ _ _ _ d=>?_,fun j _ d=>?_,fun j _ _ _ d=>?_⟩
  all_goals (exfalso;have:=q (b:=false) d;cases this)
end
section
variable {P:Program} {w0:World} {n:Nat}
theorem ZbI {M0:Mem} {W0:World} {ro:Option Nat} {Q:AQ} {e:Env} {st:St} (hm:P.follows .mixedOrders=true) (ef:List Nat) {id:Nat} {l:List Oper} (hB:Gm l ef=true) (F:List Nat→St→Prop) (k:Nat) {e1:Env}
  (hN:∀ t,(∀ i o,i ∉ ef→l[i]? = some o→o.dst≠some t)→look e1 t=look e t) (hF:∀ dn s,F dn s→∀ i o,i ∉ ef→(∀ j∈dn,HB (Db l []) j i=false)→l[i]? = some o→ZT P w0 n l e1 s o)
  (hG:GoodD P w0 n l ef F (fun ev s=>Q .normal ev s) k [] e1 st):C5 P w0 n M0 W0 ro (.region id l.toArray true) Q e st:=by
 intro m M a w hr
 obtain ⟨d1,d2⟩:=hr.rel.st.drew
 refine wpIn_region_any hm (MD (s0:=st) (e:=e) (e1:=e1) (M1:=M) (w1:=w) (ds:=a.defers) (el:=[]) hB (by simp [Na]) hN (fun dn s h i o p q _ f=>hF dn s h i o p q f) (fun ev s M' r u g b d hd=>?_) _ _ a _ M k [] e1 st ?_ hG ?_)
 ·refine ⟨M',_,_,⟨b,hr.ext.trans d,?_⟩,g⟩
  rw [hd]
  exact hr.marks.later d hr.rel.st
 ·simp
 ·have hnl:∀ j,(Array.replicate l.toArray.size false).getD j false=false:=fun j=>by
   by_cases c:j<l.length
   ·simp [Array.getD_eq_getD_getElem?,c]
   ·simp [Array.getD_eq_getD_getElem?,c]
  exact ⟨by simp,fun _=>rfl,fun j _ _ hl=>(by rw [hnl] at hl;cases hl),fun i _=>(by rw [hnl];simp),fun _ h=>(nomatch h),d1,hr.rel.size,rfl,d2,fun _ _=>rfl,fun _ _ ⟨_,h,_⟩=>(nomatch h),
   fun _ _ _ ⟨i,_,_,_,_,h⟩=>(by rw [hnl] at h;cases h),fun t x _ hs=>(hr.rel.env t x hs).mono d2⟩
theorem Ut {F:Fl} {all:List Oper} {gl:TypeId→Nat→Option AV} {call:AV→List AV→St→Option (AV × St)}:∀ (os:List Oper) (e:Env) (st:St) (e':Env) (st':St),Fb P n F true all gl call os e st=some (e',st')→st'=st∧∃ p,e'=p++e
 | [],e,st,e',st',h=>by cases h;exact ⟨rfl,[],rfl⟩
 | o::os,e,st,e',st',h=>by
  have ih:=fun c v (h:Fb P n F true all gl call os (C0 e o.dst c v) st=some (e',st'))=>Ut os _ _ _ _ h
  have fin:∀ c v,Fb P n F true all gl call os (C0 e o.dst c v) st=some (e',st')→st'=st∧∃ p,e'=p++e:=fun c v h=>by
   obtain ⟨b,p,a⟩:=ih c v h
   refine ⟨b,?_⟩
   cases hd:o.dst with
   | none=>rw [hd] at a;exact ⟨p,a⟩
   | some d=>rw [hd] at a;exact ⟨p++[(d,c,v)],by rw [a];simp [C0]⟩
  rw [Fb] at h
  by_cases h0:guardOk all (AB true all o e) o.guard∧dstOk n o.dst
  rotate_left
  ·rw [Ai h0] at h;cases h
  rw [Ah h0] at h
  split at h
  ·split at h
   ·split at h
    ·split at h
     ·split at h
      ·exact fin _ _ h
      ·rename_i q;exact absurd rfl q
     ·cases h
    ·cases h
   ·exact fin _ _ h
  ·split at h
   ·rename_i q;cases q
   ·cases h
  ·split at h
   ·split at h
    ·exact fin _ _ h
    ·cases h
   ·split at h
    ·rename_i q;cases q.2
    ·cases h
theorem WP {F:Fl} {all:List Oper} {gl:TypeId→Nat→Option AV} {call:AV→List AV→St→Option (AV × St)} (os:List Oper) (e:Env) (st:St) (e':Env) (st':St) (h:P1 P n F true all gl call os e st=some (e',st')):st'=st∧∃ p,e'=p++e :=
 Ut os e st e' st' (N7 _ _ _ _ h)
noncomputable def Zeo (e1:Env):Env→Bool
 | []=>true
 | (k,c,v)::p=>(match look e1 k with | some (c',v')=>c == c'&&PI 60 v v' | none=>false)&&Zeo e1 p
theorem Ql {e1:Env}:∀ (p:Env),Zeo e1 p=true→PreOk e1 (p++e1)
 | [],_ => .nil
 | (k,c,v)::p,h=>by
  simp only [Zeo,Bool.and_eq_true] at h
  obtain ⟨h1,a⟩:=h
  split at h1
  ·rename_i c' v' hl
   simp only [Bool.and_eq_true] at h1
   have e1:=eq_of_beq h1.1
   have e2:=N3 60 _ _ h1.2
   subst e1 e2
   exact .cons hl (Ql p a)
  ·cases h1
noncomputable def ZaP (l:List Oper) (ms:List Nat) (ef dn:List Nat):List Nat:=(List.range l.length).filter fun i => !ef.contains i&&dn.any fun j=>HB ms j i
noncomputable def N1 (P:Program) (n:Nat) (F:Fl) (gl:TypeId→Nat→Option AV) (call0:AV→List AV→St→Option (AV × St)) (l:List Oper) (ms ef dn:List Nat) (e1:Env) (s:St):Bool :=
 match dn with
 | []=>true
 | _=>match P1 P n F true l gl call0 (Bd (ef++ZaP l ms ef dn) 0 l) e1 s with
  | some (e',_)=>Zeo e1 (e'.take (e'.length-e1.length))
  | none=>false
noncomputable def SZ (P:Program) (l:List Oper) (call:AV→List AV→St→Option (AV × St)) (F:Fl) (o:Oper) (ev:Env) (s:St):Option (AV × St) :=
 match o.op with
 | .call ⟨.value f,args,_⟩=>Xn true l o ev fun w=>CC w f fun fv=>QW w (BM w 0) args.toList fun vs=>call fv vs s
 | op=>Xn true l o ev fun w=>Tm P F w s op fun v s=>some (v,s)
noncomputable def JU (P:Program) (n:Nat) (F:Fl) (gl:TypeId→Nat→Option AV) (call0 call:AV→List AV→St→Option (AV × St)) (l:List Oper) (ms ef:List Nat) (e1:Env):List Nat→List Nat→Env→St→Option (Env × St)
 | [],dn,ev,s=>if N1 P n F gl call0 l ms ef dn e1 s&&(JB l ef dn).isEmpty then some (ev,s) else none
 | i::is,dn,ev,s=>if N1 P n F gl call0 l ms ef dn e1 s&&decide (JB l ef dn=[i]) && !(ef.all fun j=>dn.contains j) then match l[i]? with
   | some o=>if o.guard.isNone=true∧dstOk n o.dst then match SZ P l call F o ev s with
     | some (v,s')=>JU P n F gl call0 call l ms ef e1 is (i::dn) (C0 ev o.dst true v) s'
     | none=>none
    else none
   | none=>none
  else none
noncomputable def Zaz (P:Program) (n:Nat) (F:Fl) (gl:TypeId→Nat→Option AV) (call0 call:AV→List AV→St→Option (AV × St)) (l:List Oper) (ef:List Nat) (e:Env) (st:St):Option (Env × St) :=
 if Gm l ef=true then match P1 P n F true l gl call0 (Bd ef 0 l) e st with
  | some (e1,_)=>JU P n F gl call0 call l (Db l []) ef e1 ef [] e1 st
  | none=>none
 else none
variable {F:Fl} {gl:TypeId→Nat→Option AV} {call0 call:AV→List AV→St→Option (AV × St)} {l:List Oper} {ef:List Nat} {e1:Env}
noncomputable def ZaI (P:Program) (n:Nat) (F:Fl) (gl:TypeId→Nat→Option AV) (call0:AV→List AV→St→Option (AV × St)) (l:List Oper) (ef:List Nat) (e1:Env) (st:St) (dn:List Nat) (s:St):Prop :=
 (dn=[]→s=st)∧N1 P n F gl call0 l (Db l []) ef dn e1 s=true
theorem Zbz (hcall:∀ fv args st v st',call fv args st=some (v,st')→Gu P w0 fv args st fun r s=>r=v∧s=st') {o:Oper} {ev:Env} {s:St} {v:AV} {s':St} (h:SZ P l call F o ev s=some (v,s')):Ee P w0 (AB true l o ev) s o v s':=by
 obtain ⟨m,op,n,e,b,c⟩:=o
 unfold SZ at h
 split at h
 ·rename_i f args ts q
  simp only at q
  subst q
  rw [JK] at h
  obtain ⟨g,k⟩:=AP h
  obtain ⟨d,j⟩:=I8 _ _ k
  exact ⟨g,d,hcall _ _ _ _ _ j⟩
 ·rename_i hne
  rw [JK] at h
  obtain ⟨i,a,h⟩:=J0 h
  ·have h:=Option.some.inj h
   rw [Lu (fun q=>by
    simp only at q hne
    cases op with
    | call cc =>
     obtain ⟨cl,args,ts⟩:=cc
     cases cl with
     | value f=>exact hne _ _ _ rfl
     | _=>cases q
    | _=>cases q)]
   exact ⟨a,congrArg Prod.fst h,congrArg Prod.snd h⟩
theorem ND (hcall:∀ fv args st v st',call fv args st=some (v,st')→Gu P w0 fv args st fun r s=>r=v∧s=st') {st:St} {e2:Env} {s2:St} {T:Env→St→Prop} (hT:T e2 s2) :
  ∀ (is dn:List Nat) (ev:Env) (s:St),(dn=[]→s=st)→JU P n F gl call0 call l (Db l []) ef e1 is dn ev s=some (e2,s2)→GoodD P w0 n l ef (ZaI P n F gl call0 l ef e1 st) T (is.length+1) dn ev s
 | [],dn,ev,s,h0,h=>by
  simp only [JU] at h
  split at h
  ·rename_i hc
   rw [Bool.and_eq_true] at hc
   cases h
   refine ⟨⟨h0,hc.1⟩,fun _=>hT,fun i b hd hr=>?_⟩
   have:i∈JB l ef dn:=List.mem_filter.2 ⟨b,by rw [hd];simpa using hr⟩
   rw [List.isEmpty_iff.1 hc.2] at this
   cases this
  ·cases h
 | i::is,dn,ev,s,h0,h=>by
  simp only [JU] at h
  split at h
  rotate_left
  ·cases h
  rename_i hc
  simp only [Bool.and_eq_true,decide_eq_true_eq,Bool.not_eq_true'] at hc
  obtain ⟨⟨c,d⟩,a⟩:=hc
  split at h
  rotate_left
  ·cases h
  rename_i o ho
  split at h
  rotate_left
  ·cases h
  rename_i hg
  split at h
  rotate_left
  ·cases h
  rename_i v s' hs
  refine ⟨⟨h0,c⟩,fun q=>(by rw [a] at q;cases q),fun j hj hd hr=>?_⟩
  have:j∈JB l ef dn:=List.mem_filter.2 ⟨hj,by rw [hd];simpa using hr⟩
  rw [d,List.mem_singleton] at this
  subst this
  refine ⟨o,ho,Option.isNone_iff_eq_none.1 hg.1,hg.2,fun r t=>r=v∧t=s',.inr ⟨v,s',Zbz hcall hs,fun _ _ q=>q⟩,?_⟩
  rintro _ _ ⟨rfl,rfl⟩
  exact ND hcall hT is _ _ _ (fun q=>by cases q) h
theorem Zby {M0:Mem} {W0:World} {ro:Option Nat} {Q:AQ} {e:Env} {st:St} (hm:P.follows .mixedOrders=true) (hL:∀ fv args st v st',call0 fv args st=some (v,st')→st'=st) (hcall0:∀ fv args st v st',call0 fv args st=some (v,st')→Gu P w0 fv args st fun r s=>r=v∧s=st')
  (hcall:∀ fv args st v st',call fv args st=some (v,st')→Gu P w0 fv args st fun r s=>r=v∧s=st') (hgl:∀ t g x,gl t g=some x→Je P w0 t g x) {id:Nat} {e2:Env} {s2:St} (h:Zaz P n F gl call0 call l ef e st=some (e2,s2)) (hQ:Q .normal e2 s2):C5 P w0 n M0 W0 ro (.region id l.toArray true) Q e st:=by
 unfold Zaz at h
 split at h
 rotate_left
 ·cases h
 rename_i hB
 split at h
 rotate_left
 ·cases h
 rename_i e1 s1 h1
 have c:=MH (P:=P) (w0:=w0) (n:=n) (e1:=e1) (s:=st) hB ⟨Js (Bd ef 0 l)+1,Gv (K:=fun e' s'=>e'=e1∧s'=st) (fun _=>hL) hcall0 hgl _ _ _ _ _ h1 ⟨rfl,(WP _ _ _ _ _ h1).1⟩⟩
 refine ZbI hm ef hB (ZaI P n F gl call0 l ef e1 st) _ c.1 (fun dn s f i o b a ho=>?_) (ND (T:=fun ev s=>Q .normal ev s) hcall hQ ef [] e1 st (fun _=>rfl) h)
 obtain ⟨u,f2⟩:=f
 unfold N1 at f2
 split at f2
 ·rw [u rfl]
  exact c.2 i o b ho
 ·split at f2
  ·rename_i e' s' q
   obtain ⟨k,p,d⟩:=WP _ _ _ _ _ q
   have y:e'.take (e'.length-e1.length)=p:=by rw [d];simp
   rw [y] at f2
   refine SH (el:=ZaP l (Db l []) ef dn) hB ⟨Js (Bd (ef++ZaP l (Db l []) ef dn) 0 l)+1,Gv (K:=fun e' s'=>s'=s∧PreOk e1 e') (fun _=>hL) hcall0 hgl _ _ _ _ _ q ⟨k,by rw [d];exact Ql p f2⟩⟩ i o b (fun m=>?_) ho
   have:=(List.mem_filter.1 m).2
   simp only [Bool.and_eq_true,List.any_eq_true] at this
   obtain ⟨_,j,w,ha⟩:=this
   rw [a j w] at ha
   cases ha
  ·cases f2
end
section
structure Cfg where
 gl:TypeId→Nat→Option AV
 ext:FuncId→List AV→Option AV
 exs:Fl→FuncId→List AV→St→Option (AV × St)
 isX:FuncId→Bool
 kp:FuncId→Bool
 im:FuncId→Bool
 imx:FuncId→FuncId→Bool
 q:Nat
 m:Nat
noncomputable def Cfg.at (C:Cfg) (f:FuncId) (m:Nat):Cfg:={ C with im:=fun g=>C.im g||C.imx f g,m:=m }
noncomputable def Cfg.m0 (C:Cfg):Cfg:={ C with m:=0 }
noncomputable def W3 (l:List Operand) (m:Nat):Nat:=List.rec (motive:=fun _=>Nat→Nat) (fun m=>m) (fun x _ ih m=>match x with | .tmp t=>ih (Nat.lor m (Nat.shiftLeft 1 t)) | _=>ih m) l m
noncomputable def ZjC (ops:List Oper):Nat:=List.rec (motive:=fun _=>Nat→Nat→Nat) (fun m s=>m) (fun o _ ih m s=>ih (Nat.lor m (Nat.lor (Nat.xor (Nat.land (W3 o.op.operands.toList 0) s) (W3 o.op.operands.toList 0)) 0)) (match o.dst with | some d=>Nat.lor s (Nat.shiftLeft 1 d) | none=>s)) ops 0 0
noncomputable def Sv:Code→Nat
 | .region _ ops _=>ZjC ops.toList
 | .seq a b=>Nat.lor (Sv a) (Sv b)
 | .cond o a b=>Nat.lor (W3 [o] 0) (Nat.lor (Sv a) (Sv b))
 | .block _ a=>Sv a
 | .loop a=>Sv a
 | .rangeFunc g ps asg body=>Nat.lor (W3 [g] 0) (Nat.lor (Sv asg) (Sv body))
 | _=>0
noncomputable def Ie (fn:Func) (c:Code):Nat:=List.rec (motive:=fun _=>Nat→Nat) (fun m=>m) (fun r _ ih m=>match r with | .tmp t=>ih (Nat.lor m (Nat.shiftLeft 1 t)) | .cell t _=>ih (Nat.lor m (Nat.shiftLeft 1 t))) fn.results.toList (Sv c)
noncomputable def Vu:Nat→AV→List Nat
 | 0,_=>[]
 | k+1,.agg xs=>xs.flatMap (Vu k)
 | k+1,.tup xs=>xs.flatMap (Vu k)
 | k+1,.list xs _=>xs.flatMap (Vu k)
 | k+1,.elem x _=>Vu k x
 | k+1,.clo _ xs=>xs.flatMap (Vu k)
 | _+1,.vec i _ _ _=>[i]
 | _+1,_=>[]
theorem OM {F:Fl} {f:AV→AV} {s:St} (hf:Fits F s):Pre F s (G3 F.b F.r f s) :=
 ⟨⟨II _ _ _,II _ _ _,rfl⟩,by simpa [G3,Ew] using hf.1,by simpa [G3,Ew] using hf.2.1,hf.2.2⟩
noncomputable def Xu {β:Type} (g:AV→AV) (n:Nat):AV→(AV→β)→β :=
 Nat.rec (motive:=fun _=>AV→(AV→β)→β) (fun x k=>k x) (fun _ ih x k=>match x with
  | .agg xs=>Ij ih xs fun xs=>k (.agg xs)
  | .tup xs=>Ij ih xs fun xs=>k (.tup xs)
  | .list (x::xs) o=>ih x fun x=>Ij ih xs fun xs=>k (.list (x::xs) o)
  | .list [] o=>fA 60 (g (.list [] o)) k
  | .elem x i=>ih x fun x=>k (.elem x i)
  | .clo f xs=>Ij ih xs fun xs=>k (.clo f xs)
  | .vec a b c d=>fA 60 (g (.vec a b c d)) k
  | x=>k x) n
theorem Q7 {β:Type} (g:AV→AV):∀ (n:Nat) (x:AV) (k:AV→β),Xu g n x k=k (deep g n x)
 | 0,x,k=>rfl
 | n+1,x,k=>by
  have ih:∀ (x:AV) (k:AV→β),Xu g n x k=k (deep g n x):=fun x k=>Q7 g n x k
  have e:∀ (l:List AV) (k:List AV→β),Ij (Xu g n) l k=k (l.map (deep g n)):=fun l k=>IJ ih l k
  cases x with
  | agg xs=>show Ij (Xu g n) xs (fun xs=>k (.agg xs))=_;rw [e];rfl
  | tup xs=>show Ij (Xu g n) xs (fun xs=>k (.tup xs))=_;rw [e];rfl
  | list xs o =>
   cases xs with
   | nil=>show fA 60 (g (.list [] o)) k=_;rw [LM];rfl
   | cons x xs =>
    show Xu g n x (fun x=>Ij (Xu g n) xs fun xs=>k (.list (x::xs) o))=_
    rw [ih,e];rfl
  | elem x i=>show Xu g n x (fun x=>k (.elem x i))=_;rw [ih];rfl
  | clo f xs=>show Ij (Xu g n) xs (fun xs=>k (.clo f xs))=_;rw [e];rfl
  | vec a b c d=>show fA 60 (g (.vec a b c d)) k=_;rw [LM];rfl
  | _=>rfl
noncomputable def ZiF {β:Type} (g:AV→AV) (x:Nat × Bool × AV) (k:Nat × Bool × AV→β):β :=
 Prod.rec (motive:=fun _=>β) (fun s p=>Prod.rec (motive:=fun _=>β) (fun c v=>Bool.rec (motive:=fun _=>β) (k (s,c,deep g 60 v)) (Xu g 60 v fun v=>k (s,c,v)) c) p) x
noncomputable def dEK {β:Type} (g:AV→AV) (e:Env) (k:Env→β):β:=Ij (ZiF g) e k
theorem RI {β:Type} (g:AV→AV) (e:Env) (k:Env→β):dEK g e k=k (Ns (deep g 60) e):=by
 have b:∀ (x:Nat × Bool × AV) (k:Nat × Bool × AV→β),ZiF g x k=k (x.1,x.2.1,deep g 60 x.2.2):=by
  rintro ⟨s,c,v⟩ k
  cases c
  ·rfl
  ·exact Q7 g 60 v fun v=>k (s,true,v)
 have a:∀ e:Env,e.map (fun x=>(x.1,x.2.1,deep g 60 x.2.2))=Ns (deep g 60) e:=by
  intro e
  induction e with
  | nil=>rfl
  | cons x e ih=>obtain ⟨s,c,v⟩:=x;rw [List.map_cons,ih];rfl
 rw [dEK,IJ b,a]
noncomputable def Za3 {α β:Type} (f:α→(α→β)→β) (n:Nat) (l:List α) (k:List α→β):β :=
 List.rec (motive:=fun _=>Nat→(List α→β)→β) (fun _ k=>k []) (fun x xs ih n k=>Nat.rec (motive:=fun _=>β) (Ij f (x::xs) k) (fun m _=>ih m fun r=>k (x::r)) n) l n k
theorem Ou {α β:Type} {f:α→(α→β)→β} {g:α→α} (hf:∀ x k,f x k=k (g x)):∀ (l:List α) (n:Nat) (k:List α→β),Za3 f n l k=k (Es n g l)
 | [],0,k=>rfl
 | [],n+1,k=>rfl
 | x::xs,0,k=>IJ hf (x::xs) k
 | x::xs,n+1,k=>Ou hf xs n fun r=>k (x::r)
noncomputable def ZiZ {β:Type} (g:AV→AV) (r:RowA) (k:RowA→β):β:=match r with
 | .vec v sz cs=>fN v fun v=>fN sz fun sz=>Ij (Xu g 60) cs fun cs=>k (.vec v sz cs)
 | .dead v=>fN v fun v=>k (.dead v)
 | r=>k r
theorem ZeQ {β:Type} (g:AV→AV) (r:RowA) (k:RowA→β):ZiZ g r k=k (WT (deep g 60) r):=by
 cases r with
 | vec v sz cs=>show fN v (fun v=>fN sz fun sz=>Ij (Xu g 60) cs fun cs=>k (.vec v sz cs))=_;rw [CS,CS,IJ (Q7 g 60)];rfl
 | dead v=>exact CS v fun v=>k (.dead v)
 | grow a b=>rfl
noncomputable def ZdJ {β:Type} (b r:Nat) (g:AV→AV) (bx:Aq) (rw:Au) (lp:Av) (k:St→β):β :=
 Za3 (fun cs k=>Ij (Xu g 60) cs k) b bx fun bx=>Za3 (ZiZ g) r rw fun rw=>Ij Xf lp fun lp=>k ⟨bx,rw,lp⟩
theorem N6 {β:Type} (b r:Nat) (g:AV→AV) (bx:Aq) (rw_:Au) (lp:Av) (k:St→β):ZdJ b r g bx rw_ lp k=k (G3 b r (deep g 60) ⟨bx,rw_,lp⟩):=by
 rw [ZdJ,Ou (g:=fun cs=>cs.map (deep g 60)) (fun cs k=>IJ (Q7 g 60) cs k),Ou (ZeQ g),Ef OA];rfl
noncomputable def HG (F:Fl) (ids:Env→St→List Nat):Nat→Env→St→Env × St
 | 0,e,st=>(e,st)
 | k+1,e,st=>match (ids e st).filter (Nat.ble F.r) with
  | []=>(e,st)
  | id::_=>match st.rows[id]? with
   | some (.vec ver sz cs)=>if Nat.ble F.r id=true then dEK (VW id ver sz cs) e fun e=>ZdJ F.b F.r (VW id ver sz cs) st.boxes (st.rows.set id (.dead (ver+1))) st.loops fun st=>HG F ids k e st else (e,st)
   | _=>(e,st)
theorem IU (w0:World) (F:Fl) (ids:Env→St→List Nat):∀ (k:Nat) (e:Env) (st:St),ConvE w0 e st (HG F ids k e st).1 (HG F ids k e st).2
 | 0,e,st => .refl _ _ _
 | k+1,e,st=>by
  unfold HG
  split
  ·exact .refl _ _ _
  ·split
   ·rename_i h
    split
    ·rw [RI,N6]
     exact (TQ w0 F.b F.r 60 e st _ _ _ _ h).trans (IU w0 F ids k _ _)
    ·exact .refl _ _ _
   ·exact .refl _ _ _
theorem JA {F:Fl} (ids:Env→St→List Nat):∀ (k:Nat) (e:Env) (st:St),Fits F st→Pre F st (HG F ids k e st).2
 | 0,e,st,hf => .refl hf
 | k+1,e,st,hf=>by
  unfold HG
  split
  ·exact .refl hf
  ·split
   ·split
    ·rename_i hi
     rw [RI,N6]
     exact (Pre.row _ hf (Nat.le_of_ble_eq_true hi)).andThen fun b=>(OM b).andThen fun a=>JA ids k _ _ a
    ·exact .refl hf
   ·exact .refl hf
noncomputable def LU (F:Fl):Nat→Nat→Env→St→Env × St
 | 0,_,e,st=>(e,st)
 | k+1,i,e,st=>match st.rows[i]? with
  | some (.grow 0 sz)=>if Nat.blt 0 sz=true∧Nat.ble F.r i=true then dEK (Pn i) e (fun e=>ZdJ F.b F.r (Pn i) st.boxes (st.rows.set i (.vec 0 sz [])) st.loops fun st=>LU F k (i+1) e st) else LU F k (i+1) e st
  | some _=>LU F k (i+1) e st
  | none=>(e,st)
theorem I5 (w0:World) (F:Fl):∀ (k i:Nat) (e:Env) (st:St),ConvE w0 e st (LU F k i e st).1 (LU F k i e st).2
 | 0,i,e,st => .refl _ _ _
 | k+1,i,e,st=>by
  unfold LU
  split
  ·rename_i sz h
   split
   ·rename_i hs
    rw [RI,N6]
    exact (Yu w0 F.b F.r 60 e st i sz h (DZ hs.1)).trans (I5 w0 F k _ _ _)
   ·exact I5 w0 F k _ _ _
  ·exact I5 w0 F k _ _ _
  ·exact .refl _ _ _
theorem J2 {F:Fl}:∀ (k i:Nat) (e:Env) (st:St),Fits F st→Pre F st (LU F k i e st).2
 | 0,i,e,st,hf => .refl hf
 | k+1,i,e,st,hf=>by
  unfold LU
  split
  ·rename_i sz h
   split
   ·rename_i hs
    rw [RI,N6]
    exact (Pre.row _ hf (Nat.le_of_ble_eq_true hs.2)).andThen fun b=>(OM b).andThen fun a=>J2 k _ _ _ a
   ·exact J2 k _ _ _ hf
  ·exact J2 k _ _ _ hf
  ·exact .refl hf
noncomputable def Zja:Op→Bool
 | .call ⟨.builtin .append,_,_⟩=>true
 | _=>false
noncomputable def ZfX:Op→Bool
 | .makeSlice _ _ _=>true
 | _=>false
noncomputable def UA (isX:FuncId→Bool):List Oper→List Nat
 | []=>[]
 | o::os=>match o.op with
  | .call ⟨.value (.func f),args,_⟩=>if isX f=true then F5 args.toList++UA isX os else UA isX os
  | _=>UA isX os
noncomputable def Zdo:Op→Bool
 | .move _ | .assign _ | .load _ (.tmp _) | .nilCheck _ | .slice _ _ _ _ _ | .fieldAddr _ _ _ | .field _ _ _ | .indexAddr _ _ _ | .extract _ _=>true
 | _=>false
noncomputable def Tz (P:Program) (F:Fl) (st:St):List Oper→Env→Env
 | [],e=>e
 | o::os,e=>match Zdo o.op with
  | true=>match Tm P F e st o.op fun v _=>some v with
   | some v=>X6 e o.dst true v fun e=>Tz P F st os e
   | none=>Tz P F st os e
  | false=>Tz P F st os e
noncomputable def ZlU (P:Program) (F:Fl) (isX:FuncId→Bool) (ops:List Oper) (e:Env) (st:St):List Nat :=
 (UA isX ops).flatMap fun t=>Vu 60 (Ap (Tz P F st ops e) (.tmp t))
noncomputable def Zgd (d:Option Nat) (os:List Oper):Bool :=
 match d with
 | some s=>os.any fun o=>match o.op with | .call ⟨_,args,_⟩=>(F5 args.toList).any (Nat.beq s) | _=>false
 | none=>false
noncomputable def IQ:List Oper→Env→Env
 | [],e=>e
 | o::os,e=>match o.op with
  | .buildSlice t _ _=>if Zgd o.dst os=true then IQ os e else IQ os ((1000000+t,false,.junk)::e)
  | _=>IQ os e
noncomputable def FT (F:Fl) (all:List Oper) (le:Env):List Oper→Env→St→Env × St
 | [],e,st=>(e,st)
 | o::os,e,st=>match o.op with
  | .call ⟨.builtin .append,args,_⟩=>match args.toList with
   | [.tmp s,_]=>match all.find? (fun p=>match p.dst with | some d=>Nat.beq d s | none=>false) with
    | some p=>match p.op with
     | .load _ (.tmp a)=>match Ap le (.tmp a) with
      | .box l i=>if Nat.ble F.b l=true then FT F all le os e (PK st l i) else FT F all le os e st
      | _=>FT F all le os e st
     | .move (.tmp u)=>FT F all le os (Xo u e) st
     | _=>FT F all le os e st
    | none=>FT F all le os (Xo s e) st
   | _=>FT F all le os e st
  | _=>FT F all le os e st
theorem Di (w0:World) (F:Fl) (all:List Oper) (le:Env):∀ (os:List Oper) (e:Env) (st:St),ConvE w0 e st (FT F all le os e st).1 (FT F all le os e st).2
 | [],e,st => .refl _ _ _
 | o::os,e,st=>by
  unfold FT
  split
  ·split
   ·split
    ·split
     ·split
      ·split
       ·exact (Us w0 e st _ _).trans (Di w0 F all le os _ _)
       ·exact Di w0 F all le os _ _
      ·exact Di w0 F all le os _ _
     ·exact (OG w0 e st _).trans (Di w0 F all le os _ _)
     ·exact Di w0 F all le os _ _
    ·exact (OG w0 e st _).trans (Di w0 F all le os _ _)
   ·exact Di w0 F all le os _ _
  ·exact Di w0 F all le os _ _
theorem Wp {F:Fl} {st:St} {l i:Nat} (hf:Fits F st) (hl:F.b≤l):Pre F st (PK st l i):=by
 unfold PK
 split
 ·split
  ·exact .box _ hf hl
  ·exact .refl hf
 ·exact .refl hf
theorem DX {F:Fl} (all:List Oper) (le:Env):∀ (os:List Oper) (e:Env) (st:St),Fits F st→Pre F st (FT F all le os e st).2
 | [],e,st,hf => .refl hf
 | o::os,e,st,hf=>by
  unfold FT
  split
  ·split
   ·split
    ·split
     ·split
      ·split
       ·rename_i hl
        have p:=Wp (i:=by assumption) hf (Nat.le_of_ble_eq_true hl)
        exact p.trans (DX all le os _ _ p.2)
       ·exact DX all le os _ _ hf
      ·exact DX all le os _ _ hf
     ·exact DX all le os _ _ hf
     ·exact DX all le os _ _ hf
    ·exact DX all le os _ _ hf
   ·exact DX all le os _ _ hf
  ·exact DX all le os _ _ hf
noncomputable def Za9 (x:Env × St):Env × St:=match x with | (e,s)=>fE e fun e=>UY s fun s=>(e,s)
theorem QN (x:Env × St):Za9 x=x:=by
 obtain ⟨e,s⟩:=x
 show (fE e fun e=>UY s fun s=>(e,s))=_
 rw [NH,JQ]
noncomputable def SI (P:Program) (F:Fl) (ops:List Oper) (e:Env) (st:St):Env × St:=if ops.any (fun o=>Zja o.op)=true then Za9 (FT F ops (Tz P F st ops e) ops e st) else (e,st)
noncomputable def Vf (P:Program) (F:Fl) (C:Cfg) (ops:List Oper) (x:Env × St):Env × St:=if (UA C.isX ops).isEmpty=true then x else HG F (ZlU P F C.isX ops) 20 x.1 x.2
noncomputable def PL (F:Fl) (ops:List Oper) (n0:Nat) (e:Env) (st:St):Env × St:=if ops.any (fun o=>ZfX o.op)=true then LU F (st.rows.length-n0) n0 e st else (e,st)
noncomputable def NQ (m s:Nat):Bool:=Nat.beq (Nat.land (Nat.shiftRight m s) 1) 1
noncomputable def VF (m:Nat) (s:Nat):Bool:=Bool.rec (motive:=fun _=>Bool) (NQ m s) (Nat.blt s 1000000) (Nat.beq m 0)
noncomputable def Ux (m:Nat):Env→Env
 | []=>[]
 | x::e=>if VF m x.1=true then x::Ux m e else Ux m e
theorem XU (m:Nat) (e:Env):∀ (s:Nat),look (Ux m e) s=if VF m s=true then look e s else none:=by
 induction e with
 | nil=>intro s;split<;>rfl
 | cons x e ih =>
  obtain ⟨k,c,v⟩:=x
  intro s
  rw [Ux]
  by_cases hk:VF m k=true
  ·rw [Ah hk,look]
   by_cases q:k=s
   ·subst q;rw [Ah rfl,Ah hk,look,Ah rfl]
   ·rw [Ai q,ih s,look,Ai q]
  ·rw [Ai hk,ih s]
   by_cases hs:VF m s=true
   ·rw [Ah hs,Ah hs,look,Ai (fun q:k=s=>hk (q▸hs))]
   ·rw [Ai hs,Ai hs]
theorem ZbR (m:Nat) (e:Env):QZ (Ux m e) e:=fun s x h=>by
 rw [XU] at h
 split at h
 ·exact h
 ·cases h
noncomputable def Zd3 {β:Type} (m:Nat) (e:Env) (k:Env→β):β :=
 List.rec (motive:=fun _=>(Env→β)→β) (fun k=>k []) (fun x _ ih k=>Prod.rec (motive:=fun _=>β) (fun s p=>Bool.rec (motive:=fun _=>β) (ih k) (ih fun e=>k ((s,p)::e)) (VF m s)) x) e k
theorem SG {β:Type} (m:Nat):∀ (e:Env) (k:Env→β),Zd3 m e k=k (Ux m e)
 | [],k=>rfl
 | (s,c,v)::e,k=>by
  show (Bool.rec (motive:=fun _=>β) (Zd3 m e k) (Zd3 m e fun e=>k ((s,c,v)::e)) (VF m s):β)=_
  rw [Ux]
  cases hq:VF m s with
  | true=>rw [Ah rfl];exact SG m e _
  | false=>rw [Ai (by decide)];exact SG m e _
noncomputable def Zgn:Op→Bool
 | .buildSlice _ _ _=>true
 | .load _ (.global _)=>true
 | .call ⟨.value _,_,_⟩=>true
 | _=>false
noncomputable def Vp (ops:List Oper):Bool:=Nat.ble 3 ops.length||ops.any fun o=>Zgn o.op
noncomputable def NU (m:Nat) (ops:List Oper) (e:Env):Env:=if Vp ops=true then Ux m e else e
theorem Q8 (w0:World) (m:Nat) (ops:List Oper) (e:Env) (st:St):ConvE w0 e st (NU m ops e) st:=by
 unfold NU
 split
 ·exact fun n M a w h=>⟨M,.refl _ _ _,h.sub (ZbR m e)⟩
 ·exact .refl _ _ _
theorem Yt (w0:World) (P:Program) (F:Fl) (ops:List Oper) (e:Env) (st:St):ConvE w0 e st (SI P F ops e st).1 (SI P F ops e st).2:=by
 unfold SI
 split
 ·rw [QN];exact Di w0 F _ _ _ e st
 ·exact .refl _ _ _
theorem XG (w0:World) (P:Program) (F:Fl) (C:Cfg) (ops:List Oper) (x:Env × St):ConvE w0 x.1 x.2 (Vf P F C ops x).1 (Vf P F C ops x).2:=by
 unfold Vf
 split
 ·exact .refl _ _ _
 ·exact IU w0 F _ _ _ _
theorem V3 (w0:World) (F:Fl) (ops:List Oper) (n0:Nat) (e:Env) (st:St):ConvE w0 e st (PL F ops n0 e st).1 (PL F ops n0 e st).2:=by
 unfold PL
 split
 ·exact I5 w0 F _ _ _ _
 ·exact .refl _ _ _
theorem ZaQ {P:Program} {F:Fl} {ops:List Oper} {e:Env} {st:St} (hf:Fits F st):Pre F st (SI P F ops e st).2:=by
 unfold SI
 split
 ·rw [QN];exact DX _ _ _ _ _ hf
 ·exact .refl hf
theorem Z4 {P:Program} {F:Fl} {C:Cfg} {ops:List Oper} {x:Env × St} (hf:Fits F x.2):Pre F x.2 (Vf P F C ops x).2:=by
 unfold Vf
 split
 ·exact .refl hf
 ·exact JA _ _ _ _ hf
theorem Yk {F:Fl} {ops:List Oper} {n0:Nat} {e:Env} {st:St} (hf:Fits F st):Pre F st (PL F ops n0 e st).2:=by
 unfold PL
 split
 ·exact J2 _ _ _ _ hf
 ·exact .refl hf
noncomputable def U6 (m:Nat):Env→Nat→Env
 | [],_=>[]
 | x::e,seen=>if NQ m x.1=true∧seen.testBit x.1=false then x::U6 m e (seen ||| 2 ^ x.1) else U6 m e seen
theorem MK (m:Nat):∀ (e:Env) (seen s:Nat) (x:Bool × AV),look (U6 m e seen) s=some x→seen.testBit s=false∧NQ m s=true∧look e s=some x
 | [],seen,s,x,h=>by cases h
 | (k,c,v)::e,seen,s,x,h=>by
  rw [U6] at h
  split at h
  ·rename_i hk
   rw [look] at h
   split at h
   ·rename_i q
    have q:k=s:=q
    subst q
    refine ⟨hk.2,hk.1,?_⟩
    rw [look,Ah rfl]
    exact h
   ·rename_i q
    have q:k≠s:=q
    obtain ⟨h1,h2,a⟩:=MK m e _ s x h
    rw [Nat.testBit_or,Bool.or_eq_false_iff] at h1
    refine ⟨h1.1,h2,?_⟩
    rw [look,Ai q];exact a
  ·rename_i hk
   obtain ⟨h1,h2,a⟩:=MK m e _ s x h
   refine ⟨h1,h2,?_⟩
   by_cases q:k=s
   ·subst q;exact absurd ⟨h2,h1⟩ hk
   ·rw [look,Ai q];exact a
noncomputable def Tj (m:Nat) (e:Env):Env:=if Nat.beq m 0=true then e else U6 m e 0
theorem X7 (m:Nat) (e:Env):QZ (Tj m e) e:=by
 unfold Tj
 split
 ·exact fun _ _ h=>h
 ·exact fun s x h=>(MK m e 0 s x h).2.2
abbrev Gh:=AV→List AV→St→Option (AV × St)
noncomputable def Zbp (C:Cfg):Op→Bool
 | .call ⟨.value (.func f),_,_⟩=>C.im f
 | _=>false
noncomputable def KA (C:Cfg) (l:List Oper) (e:Env):Env:=if l.any (fun o=>Zbp C o.op)=true then KY C.gl l ((1000000+0,false,.junk)::e) else KY C.gl l e
noncomputable def Zhh:Op→Bool
 | .call ⟨.value (.tmp _),_,_⟩=>true
 | _=>false
noncomputable def JD (P:Program) (C:Cfg) (al tc:Bool):List Oper→Nat
 | []=>0
 | o::os=>if (ZfU o.op && !(al&&LX P o))||Zbp C o.op||(tc&&Zhh o.op) then 0 else JD P C al tc os+1
noncomputable def L9 (P:Program) (l:List Oper) (h:Nat):List Nat:=(List.range h).filter fun i=>match l[i]? with | some o=>LX P o | none=>false
noncomputable def Za1 (l:List Oper) (ef:List Nat):List Nat:=ef.filterMap fun i=>(l[i]?).bind (·.dst)
noncomputable def Xg (ss:List Nat) (e:Env):Env:=if ss.isEmpty then e else Do ((ZaT e []).filter fun s => !ss.any (Nat.beq s)) e
theorem Yy (ss:List Nat) (e:Env):QZ (Xg ss e) e:=by
 unfold Xg
 split
 ·exact fun _ _ h=>h
 ·exact EZ _ _
noncomputable def Zat (P:Program) (n:Nat) (C:Cfg) (l:List Oper) (h:Nat) (ef:List Nat) (e:Env):Bool:=JH l h&&WC P n l h ef (IQ l (KA C l (Xg (Za1 l ef) e)))
noncomputable def Oz (P:Program) (n:Nat) (F:Fl) (C:Cfg) (call0 call:Gh) (l:List Oper) (h:Nat) (ef:List Nat) (e:Env) (st:St):Option (Env × St) :=
 if Zat P n C l h ef e=true then
  fE (IQ l (KA C l (Xg (Za1 l ef) e))) fun e0=>match P1 P n F true l C.gl call0 ((Bd ef 0 l).take h) e0 st with
  | some (e1,s1)=>match I0 P n l ef e1 s1 with
   | some (e2,s2)=>fE e2 fun e2=>UY s2 fun s2=>P1 P n F false l C.gl call (l.drop h) e2 s2
   | none=>none
  | none=>none
 else none
noncomputable def ZgY (C:Cfg) (l:List Oper):Nat→List Oper→List Nat→List Nat
 | _,[],_=>[]
 | i,o::os,ds=>if ZfU o.op||Zbp C o.op||(looks l o).any (fun s=>ds.any (Nat.beq s)) then i::ZgY C l (i+1) os (match o.dst with | some d=>d::ds | none=>ds) else ZgY C l (i+1) os ds
noncomputable def asks (C:Cfg):Op→Bool
 | .buildSlice _ _ _=>true
 | .load _ (.global _)=>true
 | .call ⟨.value (.func f),_,_⟩=>C.im f
 | _=>false
noncomputable def mkE (C:Cfg) (l:List Oper) (e:Env):Env:=Bool.rec (motive:=fun _=>Env) e (IQ l (KA C l e)) (l.any fun o=>asks C o.op)
theorem Zhm (C:Cfg) (l:List Oper) (e:Env):mkE C l e=e∨mkE C l e=IQ l (KA C l e):=by
 unfold mkE
 cases l.any fun o=>asks C o.op
 ·exact .inl rfl
 ·exact .inr rfl
noncomputable def Yq (P:Program) (n:Nat) (F:Fl) (C:Cfg) (call0 call:Gh) (l:List Oper) (draw:Bool) (e:Env) (st:St):Option (Env × St) :=
 match draw with
 | false=>match ZE P n l with
  | some (mt,xs,rest)=>P1 P n F false l C.gl call rest (C0 e (some mt) true (.tab xs)) st
  | none=>P1 P n F false l C.gl call l (mkE C l e) st
 | true =>
  if Zat P n C l (JD P C true true l) (L9 P l (JD P C true true l)) e=true then Oz P n F C call0 call l (JD P C true true l) (L9 P l (JD P C true true l)) e st
  else if Zat P n C l (JD P C true false l) (L9 P l (JD P C true false l)) e=true then Oz P n F C call0 call l (JD P C true false l) (L9 P l (JD P C true false l)) e st
  else if Zat P n C l (JD P C false false l) [] e=true then Oz P n F C call0 call l (JD P C false false l) [] e st
  else Zaz P n F C.gl call0 call l (ZgY C l 0 l []) (KA C l e) st
noncomputable def NE {β:Type} (x:Env × St) (k:Env→St→β):β:=match x with | (e,s)=>k e s
theorem Ju {β:Type} (x:Env × St) (k:Env→St→β):NE x k=k x.1 x.2:=rfl
noncomputable def Zdv {β:Type} (m:Nat) (ops:List Oper) (e:Env) (k:Env→β):β:=Bool.rec (motive:=fun _=>β) (k e) (Zd3 m e k) (Vp ops)
theorem WF {β:Type} (m:Nat) (ops:List Oper) (e:Env) (k:Env→β):Zdv m ops e k=k (NU m ops e):=by
 unfold Zdv NU
 cases hq:Vp ops with
 | true=>rw [Ah rfl];exact SG m e k
 | false=>rw [Ai (by decide)]
noncomputable def Zbx {β:Type} (m:Nat) (e:Env) (seen:Nat) (k:Env→β):β :=
 List.rec (motive:=fun _=>Nat→(Env→β)→β) (fun _ k=>k []) (fun x _ ih seen k=>Prod.rec (motive:=fun _=>β) (fun s p=>Bool.rec (motive:=fun _=>β) (ih seen k) (fN (Nat.lor seen (Nat.pow 2 s)) fun seen=>ih seen fun e=>k ((s,p)::e)) (NQ m s && !Nat.testBit seen s)) x) e seen k
theorem Rr {β:Type} (m:Nat):∀ (e:Env) (seen:Nat) (k:Env→β),Zbx m e seen k=k (U6 m e seen)
 | [],seen,k=>rfl
 | (s,p)::e,seen,k=>by
  show (Bool.rec (motive:=fun _=>β) (Zbx m e seen k) (fN (Nat.lor seen (Nat.pow 2 s)) fun seen=>Zbx m e seen fun e=>k ((s,p)::e)) (NQ m s && !Nat.testBit seen s):β)=_
  rw [U6]
  by_cases hq:NQ m s=true∧seen.testBit s=false
  ·rw [Ah hq,hq.1,hq.2]
   show fN (Nat.lor seen (Nat.pow 2 s)) (fun seen=>Zbx m e seen fun e=>k ((s,p)::e))=_
   rw [CS]
   exact Rr m e _ _
  ·rw [Ai hq]
   have:(NQ m s && !Nat.testBit seen s)=false:=by
    cases h1:NQ m s with
    | false=>rfl
    | true=>cases h2:Nat.testBit seen s with
     | true=>rfl
     | false=>exact absurd ⟨h1,h2⟩ hq
   rw [this]
   exact Rr m e _ _
noncomputable def W6 {β:Type} (m:Nat) (e:Env) (k:Env→β):β:=Bool.rec (motive:=fun _=>β) (Zbx m e 0 k) (k e) (Nat.beq m 0)
theorem Uc {β:Type} (m:Nat) (e:Env) (k:Env→β):W6 m e k=k (Tj m e):=by
 unfold W6 Tj
 cases hq:Nat.beq m 0 with
 | true=>rw [Ah rfl]
 | false=>rw [Ai (by decide)];exact Rr m e 0 k
noncomputable def Zao:LoopState→Bool
 | .busy=>true
 | _=>false
noncomputable def ZdC:LoopState→Bool
 | .ready=>true
 | _=>false
noncomputable def FK (P:Program) (n:Nat) (rf:Bool) (F:Fl) (C:Cfg) (call0 call:Gh):Nat→Code→Env→St→Option (Exit × Env × St)
 | 0,_,_,_=>none
 | k+1,c,e,st=>match c with
  | .skip=>some (.normal,e,st)
  | .region _ ops draw=>NE (SI P F ops.toList e st) fun e1 s1=>NE (Vf P F C ops.toList (e1,s1)) fun e2 s2=>match Yq P n F C call0 call ops.toList draw e2 s2 with
   | some (e',s')=>Zdv C.m ops.toList e' fun e'=>NE (PL F ops.toList st.rows.length e' s') fun e' s'=>some (.normal,e',s')
   | none=>none
  | .seq a b=>match FK P n rf F C call0 call k a e st with
   | some (.normal,e',s')=>FK P n rf F C call0 call k b e' s'
   | r=>r
  | .cond o a b=>CC e o fun v=>match v with
    | .val (.bool true)=>FK P n rf F C call0 call k a e st
    | .val (.bool false)=>FK P n rf F C call0 call k b e st
    | _=>none
  | .block id b=>match FK P n rf F C call0 call k b e st with
   | some (.exit i,e',s')=>if i=id then some (.normal,e',s') else some (.exit i,e',s')
   | r=>r
  | .loop b=>match W6 C.m e fun e=>FK P n rf F C call0 call k b e st with
   | some (.normal,e',s')=>FK P n rf F C call0 call k (.loop b) e' s'
   | r=>r
  | .rangeFunc g ps asg body=>if rf=true∧argOk e true g then match Ap e g with
    | .clo gf caps=>match UY (st.push ⟨e,n,ps,asg,body,.ready,none,none⟩) fun s0=>Iw st.loops fun nl=>call (.clo gf caps) [.yld nl] s0 with
     | some (_,s3)=>match s3.loops[st.loops.length]? with
      | some la=>if la.keys.isNone=true∧Zao la.st=false then match la.pend with
        | none=>UY { s3 with loops:=s3.loops.set st.loops.length (R2 la .exhausted la.pend) } fun s4=>some (.normal,e,s4)
        | some .ret=>UY { s3 with loops:=s3.loops.set st.loops.length (R2 la .exhausted la.pend) } fun s4=>some (.ret,e,s4)
        | some (.exit id)=>UY { s3 with loops:=s3.loops.set st.loops.length (R2 la .exhausted la.pend) } fun s4=>some (.exit id,e,s4)
        | _=>none
       else none
      | none=>none
     | none=>none
    | _=>none
   else none
  | .exit id=>some (.exit id,e,st)
  | .ret=>some (.ret,e,st)
  | _=>none
structure SX where
 P:Program
 n:Nat
 rf:Bool
 F:Fl
 C:Cfg
 call0:Gh
 call:Gh
abbrev QR:=Option (Exit × Env × St)
abbrev QK:=SX→(Code→Env→St→QR)→Env→St→QR
noncomputable def Zj1:QK:=fun X ih e st=>some (.normal,e,st)
noncomputable def ZlS (e:Env) (s:St):QR:=some (.normal,e,s)
noncomputable def ZiY (F:Fl) (ops:List Oper) (nr:Nat) (s:St) (e:Env):QR:=NE (PL F ops nr e s) ZlS
noncomputable def Ze2 (F:Fl) (m:Nat) (ops:List Oper) (nr:Nat) (x:Option (Env × St)):QR:=match x with
 | some (e,s)=>Zdv m ops e (ZiY F ops nr s)
 | none=>none
noncomputable def ZfG (P:Program) (n:Nat) (F:Fl) (C:Cfg) (call0 call:Gh) (ops:List Oper) (draw:Bool) (nr:Nat) (e:Env) (s:St):QR:=Ze2 F C.m ops nr (Yq P n F C call0 call ops draw e s)
noncomputable def Y4 (P:Program) (n:Nat) (F:Fl) (C:Cfg) (call0 call:Gh) (ops:List Oper) (draw:Bool) (nr:Nat) (e:Env) (s:St):QR:=NE (Vf P F C ops (e,s)) (ZfG P n F C call0 call ops draw nr)
noncomputable def Zk3 (ops:List Oper) (draw:Bool) (e:Env) (st:St) (P:Program) (n:Nat) (rf:Bool) (F:Fl) (C:Cfg) (call0 call:Gh):QR:=NE (SI P F ops e st) (Y4 P n F C call0 call ops draw st.rows.length)
noncomputable def ZdV (id:Nat) (ops:Array Oper) (draw:Bool):QK:=fun X ih e st=>SX.rec (motive:=fun _=>QR) (Zk3 ops.toList draw e st) X
noncomputable def ZL (k:Env→St→QR) (x:QR):QR:=match x with
 | some (.normal,e,s)=>k e s
 | r=>r
noncomputable def Zlf (a b:Code):QK:=fun X ih e st=>ZL (ih b) (ih a e st)
noncomputable def Zk4 (x y:QR) (v:AV):QR:=match v with
 | .val (.bool true)=>x
 | .val (.bool false)=>y
 | _=>none
noncomputable def Zjq (o:Operand) (a b:Code):QK:=fun X ih e st=>CC e o (Zk4 (ih a e st) (ih b e st))
noncomputable def Zlw (id:Nat) (x:QR):QR:=match x with
 | some (.exit i,e,s)=>if i=id then some (.normal,e,s) else some (.exit i,e,s)
 | r=>r
noncomputable def Zg4 (id:Nat) (b:Code):QK:=fun X ih e st=>Zlw id (ih b e st)
noncomputable def ZiX (b:Code):QK:=fun X ih e st=>ZL (ih (.loop b)) (W6 X.C.m e fun e=>ih b e st)
noncomputable def Zhq (g:Operand) (ps:Array Tmp) (asg body:Code):QK:=fun X ih e st =>
 if X.rf=true∧argOk e true g then match Ap e g with
    | .clo gf caps=>match UY (st.push ⟨e,X.n,ps,asg,body,.ready,none,none⟩) fun s0=>Iw st.loops fun nl=>X.call (.clo gf caps) [.yld nl] s0 with
     | some (_,s3)=>match s3.loops[st.loops.length]? with
      | some la=>if la.keys.isNone=true∧Zao la.st=false then match la.pend with
        | none=>UY { s3 with loops:=s3.loops.set st.loops.length (R2 la .exhausted la.pend) } fun s4=>some (.normal,e,s4)
        | some .ret=>UY { s3 with loops:=s3.loops.set st.loops.length (R2 la .exhausted la.pend) } fun s4=>some (.ret,e,s4)
        | some (.exit id)=>UY { s3 with loops:=s3.loops.set st.loops.length (R2 la .exhausted la.pend) } fun s4=>some (.exit id,e,s4)
        | _=>none
       else none
      | none=>none
     | none=>none
    | _=>none
   else none
noncomputable def ZiL (id:Nat):QK:=fun X ih e st=>some (.exit id,e,st)
noncomputable def ZlG:QK:=fun X ih e st=>some (.ret,e,st)
noncomputable def WY:QK:=fun X ih e st=>none
noncomputable def ZfE (c:Code):QK:=Code.casesOn (motive:=fun _=>QK) c Zj1 ZdV Zlf Zjq Zg4 ZiX Zhq ZiL (fun _=>WY) (fun _=>WY) (fun _=>WY) ZlG (fun _=>WY)
noncomputable def Jb (X:SX) (k:Nat):Code→Env→St→QR:=Nat.rec (motive:=fun _=>Code→Env→St→QR) (fun _ _ _=>none) (fun _ ih c e st=>ZfE c X ih e st) k
theorem WB (X:SX):∀ (k:Nat) (c:Code) (e:Env) (st:St),Jb X k c e st=FK X.P X.n X.rf X.F X.C X.call0 X.call k c e st
 | 0,c,e,st=>rfl
 | k+1,c,e,st=>by
  have ih:Jb X k=FK X.P X.n X.rf X.F X.C X.call0 X.call k:=by funext c e st;exact WB X k c e st
  show ZfE c X (Jb X k) e st=_
  rw [ih]
  cases c with
  | skip=>rfl
  | region id ops draw =>
   simp only [FK,Ju]
   obtain ⟨P,n,rf,F,C,call0,call⟩:=X
   show NE (SI P F ops.toList e st) (Y4 P n F C call0 call ops.toList draw st.rows.length)=_
   rw [Ju]
   unfold Y4
   rw [Ju]
   unfold ZfG Ze2
   rfl
  | seq a b =>
   simp only [FK]
   show ZL _ (FK _ _ _ _ _ _ _ k a e st)=_
   unfold ZL
   rfl
  | cond o a b=>rfl
  | block id b=>rfl
  | loop b=>rfl
  | rangeFunc g ps asg body=>rfl
  | exit id=>rfl
  | ret=>rfl
  | _=>rfl
noncomputable def Qd (P:Program) (n:Nat) (rf:Bool) (F:Fl) (C:Cfg) (call0 call:Gh) (k:Nat) (c:Code) (e:Env) (st:St):QR:=Jb ⟨P,n,rf,F,C,call0,call⟩ k c e st
theorem LH (P:Program) (n:Nat) (rf:Bool) (F:Fl) (C:Cfg) (call0 call:Gh) (k:Nat) (c:Code) (e:Env) (st:St):Qd P n rf F C call0 call k c e st=FK P n rf F C call0 call k c e st:=WB _ _ _ _ _
section
variable {P:Program} {w0:World} {n:Nat} {F:Fl} {C:Cfg} {call0 call:Gh} {M0:Mem} {W0:World} {ro:Option Nat}
theorem Hk (hn:n≤1000000) {Q:AQ} {c:Code} {st:St}:∀ (os:List Oper) (e:Env),C5 P w0 n M0 W0 ro c Q (IQ os e) st→C5 P w0 n M0 W0 ro c Q e st
 | [],e,h=>h
 | o::os,e,h=>by
  unfold IQ at h
  split at h
  ·split at h
   ·exact Hk hn os _ h
   ·exact TZ _ hn (Hk hn os _ h)
  ·exact Hk hn os _ h
theorem Lp (hn:n≤1000000) {Q:AQ} {c:Code} {st:St} (l:List Oper) (e:Env) (h:C5 P w0 n M0 W0 ro c Q (KA C l e) st):C5 P w0 n M0 W0 ro c Q e st:=by
 unfold KA at h
 split at h
 ·exact TZ _ hn (Hn hn l _ h)
 ·exact Hn hn l _ h
noncomputable def LI (F:Fl) (call:Gh):Prop:=∀ fv args st v st',Fits F st→call fv args st=some (v,st')→Pre F st st'
noncomputable def HeadC (call:Gh):Prop:=∀ fv args st v st',call fv args st=some (v,st')→st'=st
theorem HeadC.keep {call:Gh} (h:HeadC call) (F:Fl):LI F call:=fun _ _ _ _ _ a q => .of a (h _ _ _ _ _ q)
theorem PD {l:List Oper}:∀ (is:List Nat) (e:Env) (st:St) (e2:Env) (s2:St),Fits F st→I0 P n l is e st=some (e2,s2)→Pre F st s2
 | [],e,st,e2,s2,hf,h=>by cases h;exact .refl hf
 | i::is,e,st,e2,s2,hf,h=>by
  simp only [I0] at h
  split at h
  ·split at h
   ·split at h
    ·split at h
     ·exact (Pre.boxes _ hf).andThen fun a=>PD is _ _ _ _ a h
     ·cases h
    ·cases h
   ·cases h
  ·cases h
theorem MF (h0:HeadC call0) (h1:LI F call) {l:List Oper} {hh:Nat} {ef:List Nat} {e:Env} {st:St} {e2:Env} {st':St} (hf:Fits F st) (h:Oz P n F C call0 call l hh ef e st=some (e2,st')):Pre F st st':=by
 unfold Oz at h
 split at h
 ·rw [NH] at h
  split at h
  ·rename_i e1 s1 q
   have q1:=LJ (h0.keep F) _ _ _ _ _ hf q
   split at h
   ·rename_i had
    rw [NH,JQ] at h
    have q2:=q1.trans (PD _ _ _ _ _ q1.2 had)
    exact q2.trans (LJ h1 _ _ _ _ _ q2.2 h)
   ·cases h
  ·cases h
 ·cases h
theorem Xy (h1:LI F call) {l:List Oper} {o:Oper} {ev:Env} {s:St} {v:AV} {s':St} (hf:Fits F s) (h:SZ P l call F o ev s=some (v,s')):Pre F s s':=by
 unfold SZ at h
 split at h
 ·rw [JK] at h
  obtain ⟨_,a⟩:=AP h
  obtain ⟨_,b⟩:=I8 _ _ a
  exact h1 _ _ _ _ _ hf b
 ·rw [JK] at h
  obtain ⟨c,_,h⟩:=J0 h
  have h:=Option.some.inj h
  have a:(evOp P (AB true l o ev) true s o.op).2.2=s':=congrArg Prod.snd h
  rw [←a]
  exact Ti hf c
theorem On (h1:LI F call) {l:List Oper} {gl:TypeId→Nat→Option AV} {ms ef:List Nat} {e1:Env} {e2:Env} {s2:St}:∀ (is dn:List Nat) (ev:Env) (s:St),Fits F s→JU P n F gl call0 call l ms ef e1 is dn ev s=some (e2,s2)→Pre F s s2
 | [],dn,ev,s,hf,h=>by
  simp only [JU] at h
  split at h
  ·cases h;exact .refl hf
  ·cases h
 | i::is,dn,ev,s,hf,h=>by
  simp only [JU] at h
  split at h
  ·split at h
   ·split at h
    ·split at h
     ·rename_i hs
      have q:Pre F s _:=Xy h1 hf hs
      exact q.trans (On h1 is _ _ _ q.2 h)
     ·cases h
    ·cases h
   ·cases h
  ·cases h
theorem ZK (h1:LI F call) {l:List Oper} {gl:TypeId→Nat→Option AV} {ef:List Nat} {e:Env} {st:St} {e2:Env} {st':St} (hf:Fits F st) (h:Zaz P n F gl call0 call l ef e st=some (e2,st')):Pre F st st':=by
 unfold Zaz at h
 split at h
 ·split at h
  ·exact On h1 _ _ _ _ hf h
  ·cases h
 ·cases h
theorem Za6 (h0:HeadC call0) (h1:LI F call) {l:List Oper} {draw:Bool} {e:Env} {st:St} {e2:Env} {st':St} (hf:Fits F st) (h:Yq P n F C call0 call l draw e st=some (e2,st')):Pre F st st':=by
 unfold Yq at h
 split at h
 ·split at h
  ·exact LJ h1 _ _ _ _ _ hf h
  ·exact LJ h1 _ _ _ _ _ hf h
 ·split at h
  ·exact MF h0 h1 hf h
  ·split at h
   ·exact MF h0 h1 hf h
   ·split at h
    ·exact MF h0 h1 hf h
    ·exact ZK h1 hf h
theorem Jt (h0:HeadC call0) (h1:LI F call) {rf:Bool}:∀ (k:Nat) (c:Code) (e:Env) (st:St) (x:Exit) (e':Env) (st':St),Fits F st→FK P n rf F C call0 call k c e st=some (x,e',st')→Pre F st st'
 | 0,_,_,_,_,_,_,_,h=>by cases h
 | k+1,c,e,st,x,e',st',hf,h=>by
  have ih:=Jt h0 h1 (rf:=rf) k
  cases c with
  | skip=>cases h;exact .refl hf
  | region id ops draw =>
   simp only [FK,Ju] at h
   split at h
   rotate_left
   ·cases h
   rename_i e2 s2 h2
   rw [WF] at h
   cases h
   have d:Pre F st (SI P F ops.toList e st).2:=ZaQ hf
   have f:=d.trans (Z4 (P:=P) (C:=C) (ops:=ops.toList) d.2)
   have p2:=f.trans (Za6 h0 h1 f.2 h2)
   exact p2.trans (Yk p2.2)
  | seq a b =>
   simp only [FK] at h
   split at h
   ·rename_i e1 s1 q
    have q1:=ih _ _ _ _ _ _ hf q
    exact q1.trans (ih _ _ _ _ _ _ q1.2 h)
   ·exact ih _ _ _ _ _ _ hf h
  | cond o a b =>
   simp only [FK] at h
   obtain ⟨_,h⟩:=AP h
   split at h
   ·exact ih _ _ _ _ _ _ hf h
   ·exact ih _ _ _ _ _ _ hf h
   ·cases h
  | block id b =>
   simp only [FK] at h
   split at h
   ·rename_i i e1 s1 q
    have q1:=ih _ _ _ _ _ _ hf q
    split at h
    ·cases h;exact q1
    ·cases h;exact q1
   ·exact ih _ _ _ _ _ _ hf h
  | loop b =>
   simp only [FK,Uc] at h
   split at h
   ·rename_i e1 s1 q
    have q1:=ih _ _ _ _ _ _ hf q
    exact q1.trans (ih _ _ _ _ _ _ q1.2 h)
   ·exact ih _ _ _ _ _ _ hf h
  | rangeFunc g ps asg body =>
   simp only [FK,JQ,F7,N4] at h
   split at h
   rotate_left
   ·cases h
   split at h
   rotate_left
   ·cases h
   split at h
   rotate_left
   ·cases h
   rename_i v s3 q
   have d:Pre F st (st.push ⟨e,n,ps,asg,body,.ready,none,none⟩) := .loops _ hf
   have f:=h1 _ _ _ _ _ d.2 q
   split at h
   rotate_left
   ·cases h
   split at h
   rotate_left
   ·cases h
   have p2:=fun j=>(d.trans f).trans (Pre.loop j f.2 hf.2.2)
   split at h<;>first | (cases h;exact p2 _) | cases h
  | exit id=>cases h;exact .refl hf
  | ret=>cases h;exact .refl hf
  | _=>cases h
noncomputable def Le (P:Program) (w0:World) (call:Gh):Prop:=∀ fv args st v st',call fv args st=some (v,st')→Gu P w0 fv args st fun r s=>r=v∧s=st'
theorem V1 (hm:P.follows .mixedOrders=true) (hn:n≤1000000) (hH:HeadC call0) (hcall0:Le P w0 call0) (hcall:Le P w0 call) (hgl:∀ t g x,C.gl t g=some x→Je P w0 t g x)
  (l:List Oper) (draw:Bool) (id:Nat) (e:Env) (st:St) (e2:Env) (st':St) (h:Yq P n F C call0 call l draw e st=some (e2,st')):C5 P w0 n M0 W0 ro (.region id l.toArray draw) (fun x e1 s1=>x = .normal∧e1=e2∧s1=st') e st:=by
 have f:∀ (d:Nat) (ef:List Nat),ef.Nodup→Oz P n F C call0 call l d ef e st=some (e2,st')→C5 P w0 n M0 W0 ro (.region id l.toArray true) (fun x e1 s1=>x = .normal∧e1=e2∧s1=st') e st:=by
  intro d ef o h1
  unfold Oz at h1
  split at h1
  rotate_left
  ·cases h1
  rename_i hB
  unfold Zat at hB
  rw [Bool.and_eq_true] at hB
  rw [NH] at h1
  split at h1
  rotate_left
  ·cases h1
  rename_i e3 s3 h3
  split at h1
  rotate_left
  ·cases h1
  rename_i e4 s4 had
  rw [NH,JQ] at h1
  have sub:∀ {e0:Env},QZ e0 e→C5 P w0 n M0 W0 ro (.region id l.toArray true) (fun x e1 s1=>x = .normal∧e1=e2∧s1=st') e0 st→C5 P w0 n M0 W0 ro (.region id l.toArray true) (fun x e1 s1=>x = .normal∧e1=e2∧s1=st') e st :=
   fun hs h m M a w k=>h m M a w ⟨k.rel.sub hs,k.ext,k.marks⟩
  refine sub (Yy (Za1 l ef) e) (Lp (C:=C) hn l _ (Hk hn l _ (XH hm d ef (Js ((Bd ef 0 l).take d)+1) (Js (l.drop d)+1) hB.1 hB.2 o ?_)))
  refine Gv (K:=fun e1 s1=>∃ c s2',I0 P n l ef e1 s1=some (c,s2')∧Ks P w0 n false l (fun c p=>Exit.normal=Exit.normal∧c=e2∧p=st') (Js (l.drop d)+1) (l.drop d) c s2') (fun _=>hH) hcall0 hgl _ _ _ _ _ h3 ?_
  exact ⟨e4,s4,had,Gv (K:=fun b i=>Exit.normal=Exit.normal∧b=e2∧i=st') (fun q=>by cases q) hcall hgl _ _ _ _ _ h1 ⟨rfl,rfl,rfl⟩⟩
 have j:∀ h,(L9 P l h).Nodup:=fun h=>List.filter_sublist.nodup List.nodup_range
 unfold Yq at h
 split at h
 ·split at h
  ·rename_i mt xs rest hl
   refine ZdG hl (Js rest+1) ?_
   exact Gv (K:=fun b i=>Exit.normal=Exit.normal∧b=e2∧i=st') (fun q=>by cases q) hcall hgl rest _ _ _ _ h ⟨rfl,rfl,rfl⟩
  ·have go:∀ b,mkE C l e=b→C5 P w0 n M0 W0 ro (.region id l.toArray false) (fun x e1 s1=>x = .normal∧e1=e2∧s1=st') b st→C5 P w0 n M0 W0 ro (.region id l.toArray false) (fun x e1 s1=>x = .normal∧e1=e2∧s1=st') e st:=by
    intro b q h
    rcases Zhm C l e with q' | q'
    ·rw [q'] at q;subst q;exact h
    ·rw [q'] at q;subst q;exact Lp (C:=C) hn l e (Hk hn l _ h)
   refine go _ rfl (UT (Js l+1) ?_)
   exact Gv (K:=fun b i=>Exit.normal=Exit.normal∧b=e2∧i=st') (fun q=>by cases q) hcall hgl l _ _ _ _ h ⟨rfl,rfl,rfl⟩
 ·split at h
  ·exact f _ _ (j _) h
  ·split at h
   ·exact f _ _ (j _) h
   ·split at h
    ·exact f _ _ .nil h
    ·exact Lp (C:=C) hn l e (Zby hm hH hcall0 hcall hgl h ⟨rfl,rfl,rfl⟩)
theorem IP (hm:P.follows .mixedOrders=true) (hn:n≤1000000) (hH:HeadC call0) (hcall0:Le P w0 call0) (hcall:Le P w0 call) (hgl:∀ t g x,C.gl t g=some x→Je P w0 t g x) {rf:Bool} (hrf:rf=true→ro=none) :
  ∀ (k:Nat) (c:Code) (e:Env) (st:St) (x:Exit) (e':Env) (st':St) (Q:AQ),FK P n rf F C call0 call k c e st=some (x,e',st')→Q x e' st'→C5 P w0 n M0 W0 ro c Q e st:=by
 intro k
 induction k using Nat.strongRecOn with
 | _ k ih =>
 intro c e st x e' st' Q h hq
 cases k with
 | zero=>cases h
 | succ k =>
 have ihk:=ih k (Nat.lt_succ_self k)
 cases c with
 | skip=>cases h;exact CG hq
 | region id ops draw =>
  have D:ops=ops.toList.toArray:=by simp
  rw [D]
  simp only [FK,Ju] at h
  split at h
  rotate_left
  ·cases h
  rename_i e2 s2 h2
  rw [WF] at h
  cases h
  refine OT (Yt w0 P F ops.toList e st) (OT (XG w0 P F C ops.toList _) (KV (V1 hm hn hH hcall0 hcall hgl ops.toList draw id _ _ e2 s2 h2) ?_))
  rintro x e1 s1 ⟨rfl,rfl,rfl⟩
  exact ⟨_,_,(Q8 w0 C.m ops.toList e1 s1).trans (V3 w0 F ops.toList st.rows.length _ s1),hq⟩
 | seq a b =>
  simp only [FK] at h
  refine Am fun K u=>?_
  split at h
  ·rename_i e1 s1 h1
   exact ihk a e st _ _ _ _ h1 (u _ _ (ihk b _ _ _ _ _ _ h hq))
  ·rename_i hne
   refine ihk a e st _ _ _ _ h ?_
   cases x with
   | normal=>exact absurd h (hne _ _)
   | _=>exact hq
 | cond o a b =>
  simp only [FK] at h
  obtain ⟨ho,h⟩:=AP h
  split at h
  ·rename_i hv
   exact BJ true ho hv (fun _=>ihk a _ _ _ _ _ _ h hq) (fun q=>by cases q)
  ·rename_i hv
   exact BJ false ho hv (fun q=>by cases q) (fun _=>ihk b _ _ _ _ _ _ h hq)
  ·cases h
 | block id b =>
  simp only [FK] at h
  refine As ?_
  split at h
  ·rename_i i e1 s1 h1
   split at h
   ·rename_i q
    cases h
    refine ihk b _ _ _ _ _ _ h1 ?_
    simp only [JL]
    rw [Ah q];exact hq
   ·rename_i q
    cases h
    refine ihk b _ _ _ _ _ _ h1 ?_
    simp only [JL]
    rw [Ai q];exact hq
  ·rename_i hne
   refine ihk b _ _ _ _ _ _ h ?_
   cases x with
   | exit i=>exact absurd h (hne _ _ _)
   | _=>exact hq
 | loop b =>
  refine AN (fun m e s=>m≤k+1∧FK P n rf F C call0 call m (.loop b) e s=some (x,e',st')) (k+1) ⟨Nat.le_refl _,h⟩ ?_
  rintro m e1 s1 ⟨y,h1⟩ K u
  cases m with
  | zero=>cases h1
  | succ m =>
   simp only [FK,Uc] at h1
   have f:=ih m (by omega)
   refine fun z M a w l=>(?_:C5 P w0 n M0 W0 ro b _ (Tj C.m e1) s1) z M a w ⟨l.rel.sub (X7 C.m e1),l.ext,l.marks⟩
   split at h1
   ·rename_i e2 s2 h2
    exact f b _ _ _ _ _ _ h2 (u m _ _ (Nat.lt_succ_self m) ⟨by omega,h1⟩)
   ·rename_i hne
    refine f b _ _ _ _ _ _ h1 ?_
    cases x with
    | normal=>exact absurd h1 (hne _ _)
    | _=>exact hq
 | rangeFunc g ps asg body =>
  simp only [FK,JQ,F7,N4] at h
  split at h
  rotate_left
  ·cases h
  rename_i hg
  obtain rfl:=hrf hg.1
  split at h
  rotate_left
  ·cases h
  rename_i gf caps hgv
  split at h
  rotate_left
  ·cases h
  rename_i v s3 hc
  have hv:=hcall _ _ _ _ _ hc
  split at h
  rotate_left
  ·cases h
  rename_i la hla
  split at h
  rotate_left
  ·cases h
  rename_i hk
  have r:la.keys=none:=Option.isNone_iff_eq_none.1 hk.1
  have j:la.st ≠ .busy:=fun q=>by have:=hk.2;rw [q] at this;cases this
  have d:=fun hq p=>Wm (M0:=M0) (W0:=W0) (Q:=Q) hg.2 hgv (ACalls.mono hv fun _ _ q=>q.2) hla r j hq p
  split at h
  ·rename_i hp
   cases h
   refine d (fun ex q=>?_) ⟨.normal,by rw [hp];rfl⟩
   rw [hp] at q
   cases ex<;>first | exact hq | cases q
  ·rename_i hp
   cases h
   refine d (fun ex q=>?_) ⟨.ret,by rw [hp];rfl⟩
   rw [hp] at q
   cases ex<;>first | exact hq | cases q
  ·rename_i id hp
   cases h
   refine d (fun ex q=>?_) ⟨.exit id,by rw [hp];rfl⟩
   rw [hp] at q
   cases ex<;>first | (cases q;done) | (cases q;exact hq)
  ·cases h
 | exit id=>cases h;exact H8 hq
 | ret=>cases h;exact Bz hq
 | _=>cases h
end
noncomputable def Zlg (P:Program) (e:Env) (st:St):ResultVar→AV
 | .tmp t=>Ap e (.tmp t)
 | .cell t ty=>(evOp P e true st (.load ty (.tmp t))).2.1
noncomputable def Zav (P:Program) (rs:List ResultVar) (e:Env) (st:St):List Nat:=rs.flatMap fun r=>Vu 60 (Zlg P e st r)
noncomputable def ZiD (rs:List ResultVar):List Nat:=rs.map fun r=>match r with | .tmp t=>t | .cell t _=>t
noncomputable def ZgI (P:Program) (F:Fl) (rs:List ResultVar) (e:Env) (st:St):Bool := !((Zav P rs e st).filter (Nat.ble F.r)).isEmpty
noncomputable def Jh (P:Program) (F:Fl) (keep:Bool) (rs:List ResultVar) (e:Env) (st:St):Env × St:=if keep=true then (e,st) else fE (Do (ZiD rs) e) fun e=>HG F (Zav P rs) 40 e st
theorem XD (w0:World) (P:Program) (F:Fl) (keep:Bool) (rs:List ResultVar) (e:Env) (st:St):ConvE w0 e st (Jh P F keep rs e st).1 (Jh P F keep rs e st).2:=by
 unfold Jh
 split
 ·exact .refl _ _ _
 ·rw [NH]
  exact ConvE.trans (fun n M a w h=>⟨M,.refl _ _ _,h.sub (EZ _ e)⟩) (IU w0 F _ _ _ _)
theorem Um {P:Program} {F:Fl} {keep:Bool} {rs:List ResultVar} {e:Env} {st:St} (hf:Fits F st):Pre F st (Jh P F keep rs e st).2:=by
 unfold Jh
 split
 ·exact .refl hf
 ·rw [NH];exact JA _ _ _ _ hf
noncomputable def WS:List Bool:=List.replicate 40 false
noncomputable def Zc4 (st:St) (r:AV) (s:St):AV × St :=
 if Nat.ble st.boxes.length s.boxes.length&&Nat.ble st.rows.length s.rows.length&&Nat.ble st.loops.length s.loops.length&&F3 st.boxes.length st.rows.length st.loops.length 60 r&&WN st.boxes.length st.rows.length st.loops.length (s.cut st.boxes.length st.rows.length st.loops.length)
 then (r,s.cut st.boxes.length st.rows.length st.loops.length) else (r,s)
noncomputable def fQ {β:Type} (deepq:Bool) (v:AV) (k:AV→β):β:=match deepq with | true=>fA 60 v k | false=>fT v k
theorem ZaX {β:Type} (deepq:Bool) (v:AV) (k:AV→β):fQ deepq v k=k v:=by
 cases deepq
 ·exact Zjo _ _
 ·exact LM 60 v k
noncomputable def NA {α:Type} (a b:List α):Bool:=Iw a fun n=>Iw b fun m=>Nat.ble (Nat.add n 40) m
noncomputable def Zf7 (g:Bool) (st:St) (r:AV) (s:St):AV × St:=match g with | true=>Zew st r s | false=>(r,s)
noncomputable def Zhz (g:Bool) (st:St) (r:AV) (s:St):AV × St:=match g with | true=>Zc4 st r s | false=>(r,s)
noncomputable def Zdy (deepq:Bool) (x:AV × St):Option (AV × St):=match x with | (v,s)=>fQ deepq v fun v=>UY s fun s=>some (v,s)
theorem J8 (deepq:Bool) (x:AV × St):Zdy deepq x=some x:=by
 obtain ⟨v,s⟩:=x
 show (fQ deepq v fun v=>UY s fun s=>some (v,s))=_
 rw [ZaX,JQ]
noncomputable def V8 (P:Program) (pu keep deepq:Bool) (st:St) (rs:List ResultVar) (x:Env × St):Option (AV × St) :=
 if ∀ r∈rs,resOk P x.1 x.2 r then match pu with
  | true=>fQ deepq (KP (rs.map (PR P x.1 x.2))).pubA fun v=>if F3 st.boxes.length st.rows.length st.loops.length 60 v=true then some (v,st) else none
  | false=>match keep with
   | true=>Zdy deepq (Zhz (NA st.boxes x.2.boxes||NA st.rows x.2.rows) st (pubS WS (KP (rs.map (Rm P x.1 x.2)))) x.2)
   | false=>Zdy deepq (Zf7 (NA st.boxes x.2.boxes||NA st.rows x.2.rows) st (KP (rs.map (PR P x.1 x.2))) x.2)
 else none
theorem Zbf {F:Fl} {st s:St} {r:AV} (hf:Fits F st) (h:Pre F st s):Pre F st (Zew st r s).2:=by
 unfold Zew
 split
 ·rename_i hq
  simp only [Bool.and_eq_true] at hq
  obtain ⟨⟨⟨⟨q1,q2⟩,q3⟩,c⟩,a⟩:=hq
  have q1:=Nat.le_of_ble_eq_true q1
  have q2:=Nat.le_of_ble_eq_true q2
  have q3:=Nat.le_of_ble_eq_true q3
  refine ⟨⟨?_,?_,?_⟩,?_,?_,?_⟩
  ·show (s.boxes.take st.boxes.length).take F.b=_
   rw [List.take_take,Nat.min_eq_left hf.1]
   exact h.1.1
  ·show (s.rows.take st.rows.length).take F.r=_
   rw [List.take_take,Nat.min_eq_left hf.2.1]
   exact h.1.2.1
  ·show (s.loops.take st.loops.length).take F.l=_
   rw [List.take_take,Nat.min_eq_left hf.2.2]
   exact h.1.2.2
  ·have:=hf.1;simp [St.cut];omega
  ·have:=hf.2.1;simp [St.cut];omega
  ·have:=hf.2.2;simp [St.cut];omega
 ·exact h
theorem ACalls.finPure {P:Program} {w0:World} {f:FuncId} {args:List AV} {st s0:St} {v0:AV} (h:ACalls P w0 f args st fun r s=>r=v0∧s=s0) (hp:Pre st.fl st s0) (hu:Under st.boxes.length st.rows.length st.loops.length v0.pubA):ACalls P w0 f args st fun r s=>r=v0.pubA∧s=st:=by
 refine ⟨h.1,fun M w d a e=>(h.2 M w d a e).mono ?_⟩
 rintro en o ⟨v,M',r,c,n,⟨rfl,rfl⟩,h3,h4,h5⟩
 have k:=hp.cut
 obtain ⟨i,m,g⟩:=hp.2
 have j:=h4.cut i m g (by rw [show c.cut st.fl.b st.fl.r st.fl.l=st from k];exact a.calm)
 rw [show c.cut st.fl.b st.fl.r st.fl.l=st from k] at j
 exact ⟨v,M'.cut st.boxes.length st.rows.length st.loops.length,r.pubA,st,n,⟨rfl,rfl⟩,h3.cut (by have:=a.N;omega) (by have:=a.NR;omega) (by have:=a.loop.NL;omega) (by rw [h4.loop.NL];exact g) (by rw [h4.N];exact i) (by rw [h4.NR];exact m),j,h5.pubA.cut (by rw [h4.loop.NL];exact g) hu⟩
theorem ZbS {F:Fl} {st s:St} {r:AV} (hf:Fits F st) (h:Pre F st s):Pre F st (Zc4 st r s).2:=by
 unfold Zc4
 split
 ·rename_i hq
  simp only [Bool.and_eq_true] at hq
  obtain ⟨⟨⟨⟨q1,q2⟩,q3⟩,c⟩,a⟩:=hq
  have q1:=Nat.le_of_ble_eq_true q1
  have q2:=Nat.le_of_ble_eq_true q2
  have q3:=Nat.le_of_ble_eq_true q3
  refine ⟨⟨?_,?_,?_⟩,?_,?_,?_⟩
  ·show (s.boxes.take st.boxes.length).take F.b=_
   rw [List.take_take,Nat.min_eq_left hf.1]
   exact h.1.1
  ·show (s.rows.take st.rows.length).take F.r=_
   rw [List.take_take,Nat.min_eq_left hf.2.1]
   exact h.1.2.1
  ·show (s.loops.take st.loops.length).take F.l=_
   rw [List.take_take,Nat.min_eq_left hf.2.2]
   exact h.1.2.2
  ·have:=hf.1;simp [St.cut];omega
  ·have:=hf.2.1;simp [St.cut];omega
  ·have:=hf.2.2;simp [St.cut];omega
 ·exact h
theorem Zbe {F:Fl} {st s:St} {r:AV} (g:Bool) (hf:Fits F st) (h:Pre F st s):Pre F st (Zf7 g st r s).2:=by
 cases g
 ·exact h
 ·exact Zbf hf h
theorem Y6 {F:Fl} {st s:St} {r:AV} (g:Bool) (hf:Fits F st) (h:Pre F st s):Pre F st (Zhz g st r s).2:=by
 cases g
 ·exact h
 ·exact ZbS hf h
theorem ACalls.finU {P:Program} {w0:World} {f:FuncId} {args:List AV} {st:St} {Post:AV→St→Prop} (h:ACalls P w0 f args st fun r s=>st.boxes.length≤s.boxes.length∧st.rows.length≤s.rows.length∧st.loops.length≤s.loops.length∧Calm st.boxes.length st.rows.length st.loops.length (s.cut st.boxes.length st.rows.length st.loops.length)∧Under st.boxes.length st.rows.length st.loops.length r∧Post r (s.cut st.boxes.length st.rows.length st.loops.length)):ACalls P w0 f args st Post:=by
 refine ⟨h.1,fun M w b a c=>(h.2 M w b a c).mono ?_⟩
 rintro en n ⟨v,M',r,i,j,⟨d,g,e,l,k,m⟩,h3,h4,h5⟩
 exact ⟨v,M'.cut st.boxes.length st.rows.length st.loops.length,r,_,j,m,h3.cut (by have:=a.N;omega) (by have:=a.NR;omega) (by have:=a.loop.NL;omega) (by rw [h4.loop.NL];exact e) (by rw [h4.N];exact d) (by rw [h4.NR];exact g),h4.cut d g e l,h5.cut (by have:=h4.loop.NL;omega) k⟩
abbrev TX:=Option Fl→FuncId→List AV→St→Option (AV × St)
noncomputable def Qe (C:Cfg) (rx:TX) (F:Fl):Gh:=fun fv args st=>match fv with
 | .clo f cs=>if C.im f=true then rx (some F) f (args++cs) st else rx none f (args++cs) st
 | _=>none
noncomputable def Ik (rx:TX):Gh:=fun fv args st=>match fv with
 | .clo f cs=>rx none f (args++cs) st
 | _=>none
noncomputable def Wq (P:Program) (C:Cfg) (rx:TX) (F:Fl) (i:Nat) (x:List AV) (st:St):Option (AV × St) :=
 match st.loops[i]? with
 | some la=>if la.keys.isNone=true∧ZdC la.st=true∧la.pend.isNone=true∧x.length=la.ps.size∧(∀ p∈la.ps.toList,p<la.n)∧la.n≤1000000∧F.b≤st.boxes.length∧F.r≤st.rows.length then
   fEN (Nr la.e la.ps.toList x) fun e0=>match Qd P la.n false ⟨F.b,F.r,i+1⟩ C (Ik rx) (Qe C rx ⟨F.b,F.r,i+1⟩) C.q la.asg e0 st with
   | some (.normal,e1,s1)=>UY { s1 with loops:=s1.loops.set i (R2 la .busy none) } fun s1=>match Qd P la.n false ⟨F.b,F.r,i+1⟩ C (Ik rx) (Qe C rx ⟨F.b,F.r,i+1⟩) C.q la.body e1 s1 with
    | some (ex,_,s2)=>match IF ex with
     | some jump=>fB jump.isNone fun jn=>UY { s2 with loops:=s2.loops.set i (R2 la (if jn then .ready else .done) jump) } fun s3=>some (.val (.bool jn),s3)
     | none=>none
    | none=>none
   | _=>none
  else none
 | none=>none
noncomputable def JF (P:Program) (C:Cfg) (rx:TX) (F:Fl):Gh:=fun fv args st=>match fv with
 | .clo f cs=>if C.im f=true then rx (some F) f (args++cs) st else rx none f (args++cs) st
 | .yld i=>if Nat.ble F.l i=true then Wq P C.m0 rx F i args st else none
 | _=>none
noncomputable def flK {β:Type} (mo:Option Fl) (st:St) (k:Fl→β):β:=Option.rec (motive:=fun _=>β) (Iw st.boxes fun b=>Iw st.rows fun r=>Iw st.loops fun l=>k ⟨b,r,l⟩) (fun F=>k F) mo
theorem QY {β:Type} (mo:Option Fl) (st:St) (k:Fl→β):flK mo st k=k (mo.getD st.fl):=by
 cases mo with
 | none=>show Iw st.boxes (fun b=>Iw st.rows fun r=>Iw st.loops fun l=>k ⟨b,r,l⟩)=_;rw [F7,F7,F7];rfl
 | some F=>rfl
noncomputable def Q6 (P:Program) (C:Cfg) (mo:Option Fl) (f:FuncId) (fn:Func) (F:Fl) (st:St) (e:Env) (s:St):Option (AV × St):=V8 P mo.isNone (mo.isSome&&C.kp f) (ZgI P F fn.results.toList e s) st fn.results.toList (Jh P F (mo.isSome&&C.kp f) fn.results.toList e s)
noncomputable def Un (P:Program) (C:Cfg) (rx:TX) (mo:Option Fl) (f:FuncId) (fn:Func) (c:Code) (args:List AV) (st:St) (F:Fl):Option (AV × St) :=
 fEN (AL 0 args) fun e0=>match Qd P fn.ntmps true F (C.at f (Ie fn c)) (Ik rx) (JF P (C.at f (Ie fn c)) rx F) C.q c e0 st with
  | some (.normal,e',s')=>Q6 P C mo f fn F st e' s'
  | some (.ret,e',s')=>Q6 P C mo f fn F st e' s'
  | _=>none
noncomputable def ZX (x:Option (AV × St)) (k:Option (AV × St)):Option (AV × St):=match x with
 | some y=>Zdy false y
 | none=>k
noncomputable def ZiB (C:Cfg) (mo:Option Fl) (f:FuncId) (args:List AV) (st:St):Option (AV × St):=Option.rec (motive:=fun _=>Option (AV × St)) none (fun F=>C.exs F f args st) mo
noncomputable def HA (P:Program) (C:Cfg):Nat→TX
 | 0=>fun _ _ _ _=>none
 | k+1=>fun mo f args st=>match C.ext f args with
  | some v=>some (v,st)
  | none=>ZX (ZiB C mo f args st) <| match P.funcs[f]? with
   | some fn=>match fn.body with
    | some c =>
     if fn.name ≠ "runtime.NumGoroutine" ∧ args.length≤fn.ntmps∧fn.ntmps≤1000000 then
      flK mo st (Un P C (HA P C k) mo f fn c args st)
     else none
    | none=>none
   | none=>none
structure RunOk (P:Program) (w0:World) (rx:TX):Prop where
 ok:∀ mo f args st v st',rx mo f args st=some (v,st')→ACalls P w0 f args st fun r s=>r=v∧s=st'
 pre:∀ F f args st v st',Fits F st→rx (some F) f args st=some (v,st')→Pre F st st'
 hold:∀ f args st v st',rx none f args st=some (v,st')→st'=st
section
variable {P:Program} {w0:World} {C:Cfg} {rx:TX}
theorem Uo (h:RunOk P w0 rx) (F:Fl):Le P w0 (Qe C rx F):=by
 intro b args st v a q
 unfold Qe at q
 split at q
 ·split at q
  ·exact h.ok _ _ _ _ _ _ q
  ·exact h.ok _ _ _ _ _ _ q
 ·cases q
theorem Pg (h:RunOk P w0 rx) (F:Fl):LI F (Qe C rx F):=by
 intro c args st v b a q
 unfold Qe at q
 split at q
 ·split at q
  ·exact h.pre _ _ _ _ _ _ a q
  ·exact .of a (h.hold _ _ _ _ _ q)
 ·cases q
theorem LS (h:RunOk P w0 rx):Le P w0 (Ik rx):=by
 intro b args st v a q
 unfold Ik at q
 split at q
 ·exact h.ok _ _ _ _ _ _ q
 ·cases q
theorem EI (h:RunOk P w0 rx):HeadC (Ik rx):=by
 intro b args st v a q
 unfold Ik at q
 split at q
 ·exact h.hold _ _ _ _ _ q
 ·cases q
theorem Ny (hm:P.follows .mixedOrders=true) (hgl:∀ t g x,C.gl t g=some x→Je P w0 t g x) (h:RunOk P w0 rx) {F:Fl} {i:Nat} {x:List AV} {st:St} {v:AV} {st':St} (q:Wq P C rx F i x st=some (v,st')) :
  (KJ P w0 i x st fun r s=>r=v∧s=st')∧(F.l≤i→Fits F st→Pre F st st'):=by
 unfold Wq at q
 simp only [LH] at q
 split at q
 rotate_left
 ·cases q
 rename_i la hla
 have d:i<st.loops.length:=(Aj.1 hla).1
 split at q
 rotate_left
 ·cases q
 rename_i hc
 obtain ⟨D,c2,p,w,n,f,u,y⟩:=hc
 rw [Oa] at q
 split at q
 rotate_left
 ·cases q
 rename_i e1 s1 h1
 rw [JQ,N4] at q
 split at q
 rotate_left
 ·cases q
 rename_i ex e2 s2 h2
 split at q
 rotate_left
 ·cases q
 rename_i jump hj
 rw [IA,JQ,N4] at q
 cases q
 have c:=Jt (F:=⟨F.b,F.r,i+1⟩) (EI h) (Pg h _) _ _ _ _ _ _ _ ⟨u,y,d⟩ h1
 have a:i<s1.loops.length:=Nat.lt_of_lt_of_le (Nat.lt_succ_self i) c.2.2.2
 have e:Fits ⟨F.b,F.r,i+1⟩ { s1 with loops:=s1.loops.set i { la with st := .busy,pend:=none } }:=⟨c.2.1,c.2.2.1,by simp only [List.length_set];exact a⟩
 have m:=Jt (F:=⟨F.b,F.r,i+1⟩) (EI h) (Pg h _) _ _ _ _ _ _ _ e h2
 have o:la.st = .ready:=by
  cases hs:la.st<;>first | rfl | (rw [hs] at c2;cases c2)
 have hs1:s1.loops[i]? = some la:=(c.get (Nat.lt_succ_self i)).trans hla
 have hs2:s2.loops[i]? = some { la with st := .busy,pend:=none }:=by
  rw [m.get (Nat.lt_succ_self i)]
  exact List.getElem?_set_self a
 refine ⟨Zdp hla (Option.isNone_iff_eq_none.1 D) o (Option.isNone_iff_eq_none.1 p) w n (fun M0 W0 l=>IP hm f (EI h) (LS h) (Uo h _) hgl (fun q=>by cases q) _ _ _ _ _ _ _ _ h1 ⟨rfl,rfl,rfl⟩) hs1
  (fun M0 W0 l=>IP hm f (EI h) (LS h) (Uo h _) hgl (fun q=>by cases q) _ _ _ _ _ _ _ _ h2 ⟨rfl,rfl⟩) hs2 hj,fun f1 hf=>?_⟩
 have le:F.le ⟨F.b,F.r,i+1⟩:=⟨Nat.le_refl _,Nat.le_refl _,Nat.le_succ_of_le f1⟩
 have j:=c.mono le
 have z:Pre F s1 { s1 with loops:=s1.loops.set i { la with st := .busy,pend:=none } } := .loop _ j.2 f1
 have k:=m.mono le
 exact ((j.trans z).trans k).trans (.loop _ k.2 f1)
theorem Ul (hm:P.follows .mixedOrders=true) (hgl:∀ t g x,C.gl t g=some x→Je P w0 t g x) (h:RunOk P w0 rx) (F:Fl):Le P w0 (JF P C rx F):=by
 intro b args st v a q
 unfold JF at q
 split at q
 ·split at q
  ·exact h.ok _ _ _ _ _ _ q
  ·exact h.ok _ _ _ _ _ _ q
 ·split at q
  ·exact (Ny (C:=C.m0) hm hgl h q).1
  ·cases q
 ·cases q
theorem Pj (hm:P.follows .mixedOrders=true) (hgl:∀ t g x,C.gl t g=some x→Je P w0 t g x) (h:RunOk P w0 rx) (F:Fl):LI F (JF P C rx F):=by
 intro c args st v b a q
 unfold JF at q
 split at q
 ·split at q
  ·exact h.pre _ _ _ _ _ _ a q
  ·exact .of a (h.hold _ _ _ _ _ q)
 ·split at q
  ·rename_i hi
   exact (Ny (C:=C.m0) hm hgl h q).2 (Nat.le_of_ble_eq_true hi) a
  ·cases q
 ·cases q
theorem Xe (hm:P.follows .mixedOrders=true) (hgl:∀ t g x,C.gl t g=some x→Je P w0 t g x)
  (hext:∀ f args v st,C.ext f args=some v→ACalls P w0 f args st fun r s=>r=v∧s=st)
  (hexs:∀ F f args st v st',C.exs F f args st=some (v,st')→(ACalls P w0 f args st fun r s=>r=v∧s=st')∧(Fits F st→Pre F st st')):∀ k:Nat,RunOk P w0 (HA P C k)
 | 0=>⟨fun _ _ _ _ _ _ h=>(nomatch h),fun _ _ _ _ _ _ _ h=>(nomatch h),fun _ _ _ _ _ h=>(nomatch h)⟩
 | k+1=>by
  have ih:=Xe hm hgl hext hexs k
  refine ⟨fun mo f args st v st' h=>?_,fun F f args st v st' hf h=>?_,fun f args st v st' h=>?_⟩
  ·rw [HA] at h;simp only [QY,Un,Q6,LH] at h
   split at h
   ·rename_i r hv
    cases h
    exact hext _ _ _ _ hv
   unfold ZX at h
   split at h
   ·rename_i y hy
    rw [J8] at h
    cases h
    cases mo with
    | none=>cases hy
    | some F=>exact (hexs F _ _ _ _ _ hy).1
   split at h
   rotate_left
   ·cases h
   rename_i fn hf
   split at h
   rotate_left
   ·cases h
   rename_i c hb
   split at h
   rotate_left
   ·cases h
   rename_i hc
   obtain ⟨l,i,n⟩:=hc
   have fin:∀ (x:Exit) (e':Env) (s':St),(x = .normal∨x = .ret)→FK P fn.ntmps true (mo.getD st.fl) (C.at f (Ie fn c)) (Ik (HA P C k)) (JF P (C.at f (Ie fn c)) (HA P C k) (mo.getD st.fl)) C.q c (AL 0 args) st=some (x,e',s')→V8 P mo.isNone (mo.isSome&&C.kp f) (ZgI P (mo.getD st.fl) fn.results.toList e' s') st fn.results.toList (Jh P (mo.getD st.fl) (mo.isSome&&C.kp f) fn.results.toList e' s')=some (v,st') →
     ACalls P w0 f args st fun r s=>r=v∧s=st':=by
    intro x e' s' D b hret
    have hcv:=XD w0 P (mo.getD st.fl) (mo.isSome&&C.kp f) fn.results.toList e' s'
    have hpre:mo=none→Pre st.fl st (Jh P (mo.getD st.fl) (mo.isSome&&C.kp f) fn.results.toList e' s').2:=fun hmo=>by
     subst hmo
     have o:=Jt (EI ih) (Pj (C:=C.at f (Ie fn c)) hm hgl ih st.fl) _ _ _ _ _ _ _ (Fits.self st) b
     exact o.trans (Um o.2)
    generalize Jh P (mo.getD st.fl) (mo.isSome&&C.kp f) fn.results.toList e' s'=z at hret hcv hpre
    unfold V8 at hret
    split at hret
    rotate_left
    ·cases hret
    rename_i hres
    have base:∀ a:AV→St→Prop,a (KP (fn.results.toList.map (PR P z.1 z.2))) z.2→ACalls P w0 f args st a:=fun a p =>
     DF (rs:=fn.results.toList) hf hb (by simp) rfl (enters_of hf hb l) i (fun M0 W0 _ _ _ _ _=>KV (Q':=fun j e1 m=>j=x∧e1=e'∧m=s') (IP (C:=C.at f (Ie fn c)) hm n (EI ih) (LS ih) (Ul (C:=C.at f (Ie fn c)) hm hgl ih _) hgl (fun _=>rfl) C.q c _ _ _ _ _ _ b ⟨rfl,rfl,rfl⟩) (by
      rintro j e1 m ⟨rfl,rfl,rfl⟩
      refine ⟨z.1,z.2,hcv,?_⟩
      rcases D with rfl | rfl<;>exact ⟨hres,p⟩))
    cases mo with
    | none =>
     simp only [Option.isNone] at hret
     rw [ZaX] at hret
     split at hret
     ·rename_i hu
      cases hret
      exact ACalls.finPure (base _ ⟨rfl,rfl⟩) (hpre rfl) (DN _ _ hu)
     ·cases hret
    | some F =>
     simp only [Option.isNone] at hret
     split at hret
     ·have d:∀ a:AV→St→Prop,a (pubS WS (KP (fn.results.toList.map (Rm P z.1 z.2)))) z.2→ACalls P w0 f args st a:=fun a p =>
       Ws (mk:=WS) (rs:=fn.results.toList) hf hb (by simp) rfl (enters_of hf hb l) i (fun M0 W0 _ _ _ _ _=>KV (Q':=fun j e1 m=>j=x∧e1=e'∧m=s') (IP (C:=C.at f (Ie fn c)) hm n (EI ih) (LS ih) (Ul (C:=C.at f (Ie fn c)) hm hgl ih _) hgl (fun _=>rfl) C.q c _ _ _ _ _ _ b ⟨rfl,rfl,rfl⟩) (by
        rintro j e1 m ⟨rfl,rfl,rfl⟩
        refine ⟨z.1,z.2,hcv,?_⟩
        rcases D with rfl | rfl<;>exact ⟨hres,p⟩))
      rw [J8] at hret
      have hcut:=Option.some.inj hret
      unfold Zhz at hcut
      split at hcut
      rotate_left
      ·cases hcut
       exact d _ ⟨rfl,rfl⟩
      unfold Zc4 at hcut
      split at hcut
      ·rename_i hq
       simp only [Bool.and_eq_true] at hq
       obtain ⟨⟨⟨⟨q1,q2⟩,q3⟩,w⟩,u⟩:=hq
       cases hcut
       exact ACalls.finU (d _ ⟨Nat.le_of_ble_eq_true q1,Nat.le_of_ble_eq_true q2,Nat.le_of_ble_eq_true q3,Px u,DN _ _ w,rfl,rfl⟩)
      ·cases hcut
       exact d _ ⟨rfl,rfl⟩
     rw [J8] at hret
     have hcut:=Option.some.inj hret
     unfold Zf7 at hcut
     split at hcut
     rotate_left
     ·cases hcut
      exact base _ ⟨rfl,rfl⟩
     unfold Zew at hcut
     split at hcut
     ·rename_i hq
      simp only [Bool.and_eq_true] at hq
      obtain ⟨⟨⟨⟨q1,q2⟩,q3⟩,w⟩,u⟩:=hq
      cases hcut
      exact ACalls.finP (base _ ⟨Nat.le_of_ble_eq_true q1,Nat.le_of_ble_eq_true q2,Nat.le_of_ble_eq_true q3,Px u,DN _ _ w,rfl,rfl⟩)
     ·cases hcut
      exact base _ ⟨rfl,rfl⟩
   rw [Oa] at h
   split at h
   ·rename_i e' s' hr
    exact fin _ _ _ (.inl rfl) hr h
   ·rename_i e' s' hr
    exact fin _ _ _ (.inr rfl) hr h
   ·cases h
  ·rw [HA] at h;simp only [QY,Un,Q6,LH] at h
   split at h
   ·rename_i r hv
    cases h
    exact .refl hf
   unfold ZX at h
   split at h
   ·rename_i y hy
    rw [J8] at h
    cases h
    exact (hexs F _ _ _ _ _ hy).2 hf
   split at h
   rotate_left
   ·cases h
   rename_i fn hfn
   split at h
   rotate_left
   ·cases h
   rename_i c hb
   split at h
   rotate_left
   ·cases h
   have fin:∀ (x:Exit) (e':Env) (s':St),FK P fn.ntmps true F (C.at f (Ie fn c)) (Ik (HA P C k)) (JF P (C.at f (Ie fn c)) (HA P C k) F) C.q c (AL 0 args) st=some (x,e',s')→V8 P false (C.kp f) (ZgI P F fn.results.toList e' s') st fn.results.toList (Jh P F (C.kp f) fn.results.toList e' s')=some (v,st')→Pre F st st':=by
    intro x e' s' b hret
    have o:=Jt (EI ih) (Pj (C:=C.at f (Ie fn c)) hm hgl ih F) _ _ _ _ _ _ _ hf b
    have E:=o.trans (Um (P:=P) (keep:=C.kp f) (rs:=fn.results.toList) (e:=e') o.2)
    unfold V8 at hret
    split at hret
    ·simp only at hret
     split at hret
     ·rw [J8] at hret
      have:=Y6 (r:=pubS WS (KP (fn.results.toList.map (Rm P (Jh P F (C.kp f) fn.results.toList e' s').1 (Jh P F (C.kp f) fn.results.toList e' s').2)))) (NA st.boxes (Jh P F (C.kp f) fn.results.toList e' s').2.boxes||NA st.rows (Jh P F (C.kp f) fn.results.toList e' s').2.rows) hf E
      rw [Option.some.inj hret] at this
      exact this
     rw [J8] at hret
     have:=Zbe (NA st.boxes (Jh P F (C.kp f) fn.results.toList e' s').2.boxes||NA st.rows (Jh P F (C.kp f) fn.results.toList e' s').2.rows) (r:=KP (fn.results.toList.map (PR P (Jh P F (C.kp f) fn.results.toList e' s').1 (Jh P F (C.kp f) fn.results.toList e' s').2))) hf E
     rw [Option.some.inj hret] at this
     exact this
    ·cases hret
   rw [Oa] at h
   split at h
   ·rename_i e' s' hr
    exact fin _ _ _ hr (by simpa using h)
   ·rename_i e' s' hr
    exact fin _ _ _ hr (by simpa using h)
   ·cases h
  ·rw [HA] at h;simp only [QY,Un,Q6,LH] at h
   split at h
   ·cases h;rfl
   unfold ZX at h
   split at h
   ·rename_i y hy
    cases hy
   split at h
   rotate_left
   ·cases h
   split at h
   rotate_left
   ·cases h
   split at h
   rotate_left
   ·cases h
   have fin:∀ {keep dq:Bool} (rs:List ResultVar) (z:Env × St),V8 P true keep dq st rs z=some (v,st')→st'=st:=fun rs z hret=>by
    unfold V8 at hret
    split at hret
    ·simp only at hret
     rw [ZaX] at hret
     split at hret
     ·cases hret;rfl
     ·cases hret
    ·cases hret
   rw [Oa] at h
   split at h
   ·exact fin _ _ h
   ·exact fin _ _ h
   ·cases h
theorem U8 (hm:P.follows .mixedOrders=true) (hgl:∀ t g x,C.gl t g=some x→Je P w0 t g x)
  (hext:∀ f args v st,C.ext f args=some v→ACalls P w0 f args st fun r s=>r=v∧s=st)
  (hexs:∀ F f args st v st',C.exs F f args st=some (v,st')→(ACalls P w0 f args st fun r s=>r=v∧s=st')∧(Fits F st→Pre F st st')) (k:Nat) (mo:Option Fl) (f:FuncId) (args:List AV) (st:St) (v:AV) (st':St) (h:HA P C k mo f args st=some (v,st')):ACalls P w0 f args st fun r s=>r=v∧s=st' :=
 (Xe hm hgl hext hexs k).ok _ _ _ _ _ _ h
end
end
end Go.Ev
namespace Go.Proofs
open Go.Shelf
def Tryz.lays119_ren:Go.Shelf.Ren:=⟨fun | 119=>317 | n=>n,fun | 21=>21 | 4=>4 | n=>n,fun | n=>n⟩
theorem Tryz.lays119:Go.Proofs.Lays.n119 Tryz.prog Tryz.lays119_ren:={
 mixed:=by kernel_rfl
 f119:=Tryz.func317.trans (congrArg some (by kernel_rfl))
 t4:=Tryz.underlying4
 a4:=Tryz.isAgg4
 z4:=Tryz.sizeOf4
 v4:=Tryz.zeroValue4
 t21:=Tryz.underlying21
 a21:=Tryz.isAgg21
 z21:=Tryz.sizeOf21
 v21:=Tryz.zeroValue21 }
theorem Tryz.utf8_ValidRune (r:Int) (w:World) :
  Calls Tryz.prog 317 #[.int .i32 r] w fun e w'=>e = .returned (.bool (Lib.validRune r))∧w'=w:=Any.utf8_ValidRune Tryz.lays119 r w
def Tryz.lays137_ren:Go.Shelf.Ren:=⟨fun | 137=>316 | 217=>351 | 266=>368 | n=>n,fun | 9=>9 | 5=>5 | 3=>3 | n=>n,fun | n=>n⟩
theorem Tryz.lays137:Go.Proofs.Lays.n137 Tryz.prog Tryz.lays137_ren:={
 mixed:=by kernel_rfl
 f137:=Tryz.func316.trans (congrArg some (by kernel_rfl))
 f217:=Tryz.func351.trans (congrArg some (by kernel_rfl))
 f266:=Tryz.func368.trans (congrArg some (by kernel_rfl))
 t3:=Tryz.underlying3
 a3:=Tryz.isAgg3
 z3:=Tryz.sizeOf3
 v3:=Tryz.zeroValue3
 t5:=Tryz.underlying5
 a5:=Tryz.isAgg5
 z5:=Tryz.sizeOf5
 v5:=Tryz.zeroValue5
 t9:=Tryz.underlying9
 a9:=Tryz.isAgg9
 z9:=Tryz.sizeOf9
 v9:=Tryz.zeroValue9 }
open Go.RowKit in
theorem Tryz.strings_IndexByte (s:ByteArray) (c:Int) (w:World) :
  Calls Tryz.prog 316 #[.string s,.int .u8 c] w fun e w'=>e = .returned (.int .i64 (Lib.indexByte s.data.toList c.toNat.toUInt8))∧w'=w:=Any.strings_IndexByte Tryz.lays137 s c w
def Tryz.lays145_ren:Go.Shelf.Ren:=⟨fun | 145=>237 | 220=>280 | 219=>320 | 217=>351 | 225=>319 | 224=>318 | 267=>352 | 266=>368 | 314=>369 | n=>n,fun | 9=>9 | 4=>4 | 59=>309 | 3=>3 | 5=>5 | 46=>177 | 146=>425 | 51=>221 | n=>n,fun | 1=>0 | n=>n⟩
theorem Tryz.lays145:Go.Proofs.Lays.n145 Tryz.prog Tryz.lays145_ren:={
 mixed:=by kernel_rfl
 f145:=Tryz.func237.trans (congrArg some (by kernel_rfl))
 f217:=Tryz.func351.trans (congrArg some (by kernel_rfl))
 f219:=Tryz.func320.trans (congrArg some (by kernel_rfl))
 f220:=Tryz.func280.trans (congrArg some (by kernel_rfl))
 f224:=Tryz.func318.trans (congrArg some (by kernel_rfl))
 f225:=Tryz.func319.trans (congrArg some (by kernel_rfl))
 f266:=Tryz.func368.trans (congrArg some (by kernel_rfl))
 f267:=Tryz.func352.trans (congrArg some (by kernel_rfl))
 f314:=Tryz.func369.trans (congrArg some (by kernel_rfl))
 t3:=Tryz.underlying3
 a3:=Tryz.isAgg3
 z3:=Tryz.sizeOf3
 v3:=Tryz.zeroValue3
 t4:=Tryz.underlying4
 a4:=Tryz.isAgg4
 z4:=Tryz.sizeOf4
 v4:=Tryz.zeroValue4
 t5:=Tryz.underlying5
 a5:=Tryz.isAgg5
 z5:=Tryz.sizeOf5
 v5:=Tryz.zeroValue5
 t9:=Tryz.underlying9
 a9:=Tryz.isAgg9
 z9:=Tryz.sizeOf9
 v9:=Tryz.zeroValue9
 t46:=Tryz.underlying177
 a46:=Tryz.isAgg177
 z46:=Tryz.sizeOf177
 v46:=Tryz.zeroValue177
 t51:=Tryz.underlying221
 a51:=Tryz.isAgg221
 z51:=Tryz.sizeOf221
 v51:=Tryz.zeroValue221
 t59:=Tryz.underlying309
 a59:=Tryz.isAgg309
 z59:=Tryz.sizeOf309
 v59:=Tryz.zeroValue309
 t146:=Tryz.underlying425
 a146:=Tryz.isAgg425
 z146:=Tryz.sizeOf425
 v146:=Tryz.zeroValue425
 g1:=by kernel_rfl }
open Go.RowKit Go.Lib in
theorem Tryz.strings_Cut (s sep:ByteArray) (m:Int) (w:World) (hs:s.size<4294967281) (hm:w.cell? ⟨0,0,none⟩=some (.int .i64 m)) :
  Calls Tryz.prog 237 #[.string s,.string sep] w fun e w'=>e = .returned (.tuple #[.string ⟨(Lib.cut s.data.toList sep.data.toList).1.toArray⟩,.string ⟨(Lib.cut s.data.toList sep.data.toList).2.1.toArray⟩,.bool (Lib.cut s.data.toList sep.data.toList).2.2])∧∃ n,w'=w.drewN n:=Any.strings_Cut Tryz.lays145 s sep m w hs hm
def Tryz.lays99_ren:Go.Shelf.Ren:=⟨fun | 99=>236 | 206=>279 | n=>n,fun | 9=>9 | 4=>4 | 3=>3 | n=>n,fun | n=>n⟩
theorem Tryz.lays99:Go.Proofs.Lays.n99 Tryz.prog Tryz.lays99_ren:={
 mixed:=by kernel_rfl
 f99:=Tryz.func236.trans (congrArg some (by kernel_rfl))
 f206:=Tryz.func279.trans (congrArg some (by kernel_rfl))
 t3:=Tryz.underlying3
 a3:=Tryz.isAgg3
 z3:=Tryz.sizeOf3
 v3:=Tryz.zeroValue3
 t4:=Tryz.underlying4
 a4:=Tryz.isAgg4
 z4:=Tryz.sizeOf4
 v4:=Tryz.zeroValue4
 t9:=Tryz.underlying9
 a9:=Tryz.isAgg9
 z9:=Tryz.sizeOf9
 v9:=Tryz.zeroValue9 }
open Go.RowKit Go.Lib in
theorem Tryz.strings_HasPrefix (s p:ByteArray) (w:World) :
  Calls Tryz.prog 236 #[.string s,.string p] w fun e w'=>e = .returned (.bool (Lib.hasPrefix s.data.toList p.data.toList))∧w'=w:=Any.strings_HasPrefix Tryz.lays99 s p w
def Tryz.lays152_ren:Go.Shelf.Ren:=⟨fun | 152=>275 | 137=>316 | 119=>317 | 224=>318 | 225=>319 | 217=>351 | 266=>368 | n=>n,fun | 9=>9 | 21=>21 | 3=>3 | 4=>4 | 5=>5 | 0=>0 | 46=>177 | n=>n,fun | n=>n⟩
theorem Tryz.lays152:Go.Proofs.Lays.n152 Tryz.prog Tryz.lays152_ren:={
 mixed:=by kernel_rfl
 f119:=Tryz.func317.trans (congrArg some (by kernel_rfl))
 f137:=Tryz.func316.trans (congrArg some (by kernel_rfl))
 f152:=Tryz.func275.trans (congrArg some (by kernel_rfl))
 f217:=Tryz.func351.trans (congrArg some (by kernel_rfl))
 f224:=Tryz.func318.trans (congrArg some (by kernel_rfl))
 f225:=Tryz.func319.trans (congrArg some (by kernel_rfl))
 f266:=Tryz.func368.trans (congrArg some (by kernel_rfl))
 t0:=Tryz.underlying0
 a0:=Tryz.isAgg0
 z0:=Tryz.sizeOf0
 v0:=Tryz.zeroValue0
 t3:=Tryz.underlying3
 a3:=Tryz.isAgg3
 z3:=Tryz.sizeOf3
 v3:=Tryz.zeroValue3
 t4:=Tryz.underlying4
 a4:=Tryz.isAgg4
 z4:=Tryz.sizeOf4
 v4:=Tryz.zeroValue4
 t5:=Tryz.underlying5
 a5:=Tryz.isAgg5
 z5:=Tryz.sizeOf5
 v5:=Tryz.zeroValue5
 t9:=Tryz.underlying9
 a9:=Tryz.isAgg9
 z9:=Tryz.sizeOf9
 v9:=Tryz.zeroValue9
 t21:=Tryz.underlying21
 a21:=Tryz.isAgg21
 z21:=Tryz.sizeOf21
 v21:=Tryz.zeroValue21
 t46:=Tryz.underlying177
 a46:=Tryz.isAgg177
 z46:=Tryz.sizeOf177
 v46:=Tryz.zeroValue177 }
open Go.RowKit Go.Lib in
theorem Tryz.strings_IndexRune_ascii (s:ByteArray) (r:Int) (w:World) (h0:0≤r) (h1:r<128) :
  Calls Tryz.prog 275 #[.string s,.int .i32 r] w fun e w'=>e = .returned (.int .i64 (Lib.indexByte s.data.toList r.toNat.toUInt8))∧w'=w:=Any.strings_IndexRune_ascii Tryz.lays152 s r w h0 h1
def Tryz.lays226_ren:Go.Shelf.Ren:=⟨fun | 226=>276 | n=>n,fun | 3=>3 | 4=>4 | n=>n,fun | n=>n⟩
theorem Tryz.lays226:Go.Proofs.Lays.n226 Tryz.prog Tryz.lays226_ren:={
 mixed:=by kernel_rfl
 f226:=Tryz.func276.trans (congrArg some (by kernel_rfl))
 t3:=Tryz.underlying3
 a3:=Tryz.isAgg3
 z3:=Tryz.sizeOf3
 v3:=Tryz.zeroValue3
 t4:=Tryz.underlying4
 a4:=Tryz.isAgg4
 z4:=Tryz.sizeOf4
 v4:=Tryz.zeroValue4 }
open Go.RowKit Go.Lib in
theorem Tryz.strings_shouldUseASCIISet (n:Int) (w:World) :
  Calls Tryz.prog 276 #[.int .i64 n] w fun e w'=>e = .returned (.bool (decide (8<n)))∧w'=w:=Any.strings_shouldUseASCIISet Tryz.lays226 n w
def Tryz.lays153_ren:Go.Shelf.Ren:=⟨fun | 153=>235 | 152=>275 | 226=>276 | 227=>277 | 228=>278 | 137=>316 | 119=>317 | 224=>318 | 225=>319 | 217=>351 | 266=>368 | n=>n,fun | 9=>9 | 3=>3 | 4=>4 | 5=>5 | 21=>21 | 117=>347 | 116=>346 | 0=>0 | 46=>177 | 124=>379 | n=>n,fun | n=>n⟩
theorem Tryz.lays153:Go.Proofs.Lays.n153 Tryz.prog Tryz.lays153_ren:={
 mixed:=by kernel_rfl
 f119:=Tryz.func317.trans (congrArg some (by kernel_rfl))
 f137:=Tryz.func316.trans (congrArg some (by kernel_rfl))
 f152:=Tryz.func275.trans (congrArg some (by kernel_rfl))
 f153:=Tryz.func235.trans (congrArg some (by kernel_rfl))
 f217:=Tryz.func351.trans (congrArg some (by kernel_rfl))
 f224:=Tryz.func318.trans (congrArg some (by kernel_rfl))
 f225:=Tryz.func319.trans (congrArg some (by kernel_rfl))
 f226:=Tryz.func276.trans (congrArg some (by kernel_rfl))
 f227:=Tryz.func277.trans (congrArg some (by kernel_rfl))
 f228:=Tryz.func278.trans (congrArg some (by kernel_rfl))
 f266:=Tryz.func368.trans (congrArg some (by kernel_rfl))
 t0:=Tryz.underlying0
 a0:=Tryz.isAgg0
 z0:=Tryz.sizeOf0
 v0:=Tryz.zeroValue0
 t3:=Tryz.underlying3
 a3:=Tryz.isAgg3
 z3:=Tryz.sizeOf3
 v3:=Tryz.zeroValue3
 t4:=Tryz.underlying4
 a4:=Tryz.isAgg4
 z4:=Tryz.sizeOf4
 v4:=Tryz.zeroValue4
 t5:=Tryz.underlying5
 a5:=Tryz.isAgg5
 z5:=Tryz.sizeOf5
 v5:=Tryz.zeroValue5
 t9:=Tryz.underlying9
 a9:=Tryz.isAgg9
 z9:=Tryz.sizeOf9
 v9:=Tryz.zeroValue9
 t21:=Tryz.underlying21
 a21:=Tryz.isAgg21
 z21:=Tryz.sizeOf21
 v21:=Tryz.zeroValue21
 t46:=Tryz.underlying177
 a46:=Tryz.isAgg177
 z46:=Tryz.sizeOf177
 v46:=Tryz.zeroValue177
 t116:=Tryz.underlying346
 a116:=Tryz.isAgg346
 z116:=Tryz.sizeOf346
 t117:=Tryz.underlying347
 a117:=Tryz.isAgg347
 z117:=Tryz.sizeOf347
 v117:=Tryz.zeroValue347
 t124:=Tryz.underlying379
 a124:=Tryz.isAgg379
 z124:=Tryz.sizeOf379
 v124:=Tryz.zeroValue379 }
open Go.RowKit Go.Lib in
theorem Tryz.strings_IndexAny_long (hv116:∀ w,(zeroValue 346).run Tryz.prog w = .ok (.agg (Array.replicate 256 (.bool false))) w) (s chars:ByteArray) (w:World) (h2:2≤chars.size) (h8:8<s.size) (hs:s.size<4294967281) (hcs:chars.size<4294967281) (hascii:∀ (j:Nat) b,chars.data.toList[j]? = some b→b.toNat<128) :
  Calls Tryz.prog 235 #[.string s,.string chars] w fun e w'=>e = .returned (.int .i64 (Lib.indexAny s.data.toList chars.data.toList))∧w'=((w.alloc (.cells (Lib.setCells chars.data.toList) 346)).alloc (.cells (Lib.setCells chars.data.toList) 346)):=Any.strings_IndexAny_long Tryz.lays153 hv116 (by kernel_rfl) s chars w h2 h8 hs hcs hascii
end Go.Proofs
namespace Go.Proofs
open Go.Shelf Go.RowKit Go.Lib Go
variable {P:Program} {ρ:Ren}
abbrev stops:ByteArray:=⟨#[46,91,63]⟩
theorem Uj:∀ (i:Nat) (h:i<stops.size),(stops[i]'h).toNat<128∧((stops[i]'h).toNat:Int)≠65533:=by decide
theorem Zfy (n:Nat):128≤(UInt8.ofNat (128+n % 64)).toNat:=by rw [UInt8.toNat_ofNat'];omega
theorem XF (r:Int) (h0:128≤r):(∃ a b,Utf8.encode r=⟨#[a,b]⟩∧128≤b.toNat)∨(∃ a b c,Utf8.encode r=⟨#[a,b,c]⟩∧128≤c.toNat)∨∃ a b c d,Utf8.encode r=⟨#[a,b,c,d]⟩:=by
 obtain ⟨c,hc,he⟩:∃ c:Nat,128≤c∧(if Utf8.valid r=true then r.toNat else Utf8.runeError)=c:=by
  by_cases h:Utf8.valid r=true
  ·exact ⟨r.toNat,by omega,by rw [Ah h]⟩
  ·exact ⟨Utf8.runeError,by decide,by rw [Ai h]⟩
 unfold Utf8.encode
 simp only [he]
 rw [Aa]
 by_cases h1:c<2048
 ·rw [Ah h1];exact .inl ⟨_,_,rfl,Zfy _⟩
 rw [Ai h1]
 by_cases h2:c<65536
 ·rw [Ah h2];exact .inr (.inl ⟨_,_,_,rfl,Zfy _⟩)
 ·rw [Ai h2];exact .inr (.inr ⟨_,_,_,_,rfl⟩)
set_option maxRecDepth 1000000 in
theorem U9 (L:Lays.n152 P ρ) (w:World) :
  Calls P (ρ.f 152) #[.string stops,.int .i32 65533] w fun e w'=>e = .returned (.int .i64 (-1))∧∃ pos,w'=w.iter stops pos:=by
 have t3:=L.t3;have a3:=L.a3;have z3:=L.z3;have v3:=L.v3
 have t4:=L.t4;have a4:=L.a4;have z4:=L.z4;have v4:=L.v4
 have t5:=L.t5;have a5:=L.a5;have z5:=L.z5;have v5:=L.v5
 have t9:=L.t9;have a9:=L.a9;have z9:=L.z9;have v9:=L.v9
 have t21:=L.t21;have a21:=L.a21;have z21:=L.z21;have v21:=L.v21
 go_enter L.f152,Body.n152_ntmps ρ
 go_wp2
 go_loopg [5,6] 3 (fun g _ _ wx=>∃ i:Nat,i+g=3∧wx=w.iter stops i)
 case atStart=>exact ⟨0,by omega,rfl⟩
 case round =>
  obtain ⟨i,hig,rfl⟩:=hrel
  cases gk with
  | zero =>
   obtain rfl:i=3:=by omega
   have hnx:=run_next_end (P:=P) w stops 3
   go_wp2
   go_ret
   exact ⟨rfl,_,rfl⟩
  | succ g =>
   have hi:i<stops.size:=by show i<3;omega
   obtain ⟨x,hx⟩:∃ x:UInt8,stops[i]'hi=x:=⟨_,rfl⟩
   obtain ⟨hx128,hxn⟩:=Uj i hi
   have hnx:=fun ty=>run_next_ascii (P:=P) w stops i ty hi hx128
   rw [hx] at hnx hxn
   have hb:((x.toNat:Int) == 65533)=false:=beq_eq_false_iff_ne.2 hxn
   go_wp2
   go_roundg g
   case measure=>omega
   case rel=>exact ⟨i+1,by omega,rfl⟩
set_option maxRecDepth 1000000 in
theorem YZ (L:Lays.n152 P ρ) (r:Int) (w:World) (h0:128≤r) (h1:r≠65533) (hv:Lib.validRune r=false) :
  Calls P (ρ.f 152) #[.string stops,.int .i32 r] w fun e w'=>e = .returned (.int .i64 (-1))∧Below w.heap.size w w':=by
 have t3:=L.t3;have a3:=L.a3;have z3:=L.z3;have v3:=L.v3
 have t4:=L.t4;have a4:=L.a4;have z4:=L.z4;have v4:=L.v4
 have t5:=L.t5;have a5:=L.a5;have z5:=L.z5;have v5:=L.v5
 have t9:=L.t9;have a9:=L.a9;have z9:=L.z9;have v9:=L.v9
 have t21:=L.t21;have a21:=L.a21;have z21:=L.z21;have v21:=L.v21
 have e119:∀ args w,(callFunc (ρ.f 119) args).run P w = .ok (.enter (ρ.f 119) args) w:=enters_of L.f119 (by kernel_rfl) rfl
 have hlt:¬ r<128:=by omega
 have hne:(r == 65533)=false:=beq_eq_false_iff_ne.2 h1
 go_enter L.f152,Body.n152_ntmps ρ
 go_wp2_with (go_at_fn (ρ.f 119);refine (Any.utf8_ValidRune { L with } _ _).mono ?_;rintro e w' ⟨rfl,hw⟩;rw [hw,hv])
 go_ret
 exact ⟨rfl,.refl _ _⟩
set_option maxRecDepth 1000000 in
theorem Zbv (L:Lays.n152 P ρ) (r:Int) (w:World) (h0:128≤r) (h1:r≠65533) (hv:Lib.validRune r=true) (a b:UInt8) (he:Utf8.encode r=⟨#[a,b]⟩) (hb:128≤b.toNat) :
  Calls P (ρ.f 152) #[.string stops,.int .i32 r] w fun e w'=>e = .returned (.int .i64 (-1))∧Below w.heap.size w w':=by
 have mixed:=L.mixed
 have t3:=L.t3;have a3:=L.a3;have z3:=L.z3;have v3:=L.v3
 have t4:=L.t4;have a4:=L.a4;have z4:=L.z4;have v4:=L.v4
 have t5:=L.t5;have a5:=L.a5;have z5:=L.z5;have v5:=L.v5
 have t9:=L.t9;have a9:=L.a9;have z9:=L.z9;have v9:=L.v9
 have t21:=L.t21;have a21:=L.a21;have z21:=L.z21;have v21:=L.v21
 have e119:∀ args w,(callFunc (ρ.f 119) args).run P w = .ok (.enter (ρ.f 119) args) w:=enters_of L.f119 (by kernel_rfl) rfl
 have e137:∀ args w,(callFunc (ρ.f 137) args).run P w = .ok (.enter (ρ.f 137) args) w:=enters_of L.f137 (by kernel_rfl) rfl
 have hlt:¬ r<128:=by omega
 have hne:(r == 65533)=false:=beq_eq_false_iff_ne.2 h1
 have hbn:(((stops[1]'(by decide)).toNat:Int) != (((⟨#[a,b]⟩:ByteArray)[1]'(by simp [ByteArray.size])).toNat:Int))=true:=bne_iff_ne.2 (by show (91:Int)≠(b.toNat:Int);omega)
 have hsum:IntKind.i64.wrap (1+1)=2:=by decide
 have hx:Lib.indexByte (stops.extract 2 3).data.toList ((((⟨#[a,b]⟩:ByteArray)[1]'(by simp [ByteArray.size])).toNat:Int)).toNat.toUInt8 = -1:=by
  show Lib.indexByte [63] (b.toNat:Int).toNat.toUInt8 = -1
  have e:(b.toNat:Int).toNat.toUInt8=b:=by simp
  rw [e]
  have hn:((63:UInt8) == b)=false:=beq_eq_false_iff_ne.2 (fun q=>by rw [←q] at hb;exact absurd hb (by decide))
  simp [Lib.indexByte,hn]
 go_enter L.f152,Body.n152_ntmps ρ
 go_wp2_with (first
  | (go_at_fn (ρ.f 119);refine (Any.utf8_ValidRune { L with } _ _).mono ?_;rintro e w' ⟨rfl,hw⟩;rw [hw,hv])
  | (go_at_fn (ρ.f 137);refine (Any.strings_IndexByte { L with } _ _ _).mono ?_;rintro e w' ⟨rfl,hw⟩;rw [hw]))
 go_step3
 go_wp2
 go_loopg [9] 1 (fun g s9 wx=>s9 = .int .i64 1∧wx=w)
 case atStart=>exact ⟨rfl,rfl⟩
 case round =>
  obtain ⟨rfl,rfl⟩:=hrel
  go_wp2
  go_step3
  go_wp2
  refine wp_region_quiet_lit mixed (by kernel_rfl) ?_
  repeat (first | go_big_quiet_step (fail) | quiet_step (fail))
  refine wpQuiet_nil ?_
  intro _ hw'
  obtain ⟨nq,hw''⟩:=hw'
  subst hw''
  go_wp2
  refine wp_region_quiet_lit mixed (by kernel_rfl) ?_
  repeat (first | go_big_quiet_step (fail) | quiet_step (fail))
  refine wpQuiet_step (fun K hK=>?_)
  go_simp
  refine ⟨_,fun q=>((Any.strings_IndexByte { L with } _ _ _).mono fun e w' h=>⟨h.1,q,h.2⟩),hK _ ?_⟩
  clear hK K
  repeat (first | go_big_quiet_step (fail) | quiet_step (fail))
  refine wpQuiet_nil ?_
  intro _ hw'
  obtain ⟨nq2,hw''⟩:=hw'
  subst hw''
  rw [hx]
  go_wp2
  go_simp
  try rw [Exit.noGoto_ret]
  go_ret
  exact ⟨rfl,⟨rfl,rfl,rfl,Nat.le_refl _,fun _ _=>rfl⟩⟩
set_option maxRecDepth 1000000 in
theorem Wb (L:Lays.n152 P ρ) (r:Int) (w:World) (h0:128≤r) (h1:r≠65533) (hv:Lib.validRune r=true) (a b c:UInt8) (he:Utf8.encode r=⟨#[a,b,c]⟩) (hb:128≤c.toNat) :
  Calls P (ρ.f 152) #[.string stops,.int .i32 r] w fun e w'=>e = .returned (.int .i64 (-1))∧Below w.heap.size w w':=by
 have mixed:=L.mixed
 have t3:=L.t3;have a3:=L.a3;have z3:=L.z3;have v3:=L.v3
 have t4:=L.t4;have a4:=L.a4;have z4:=L.z4;have v4:=L.v4
 have t5:=L.t5;have a5:=L.a5;have z5:=L.z5;have v5:=L.v5
 have t9:=L.t9;have a9:=L.a9;have z9:=L.z9;have v9:=L.v9
 have t21:=L.t21;have a21:=L.a21;have z21:=L.z21;have v21:=L.v21
 have e119:∀ args w,(callFunc (ρ.f 119) args).run P w = .ok (.enter (ρ.f 119) args) w:=enters_of L.f119 (by kernel_rfl) rfl
 have e137:∀ args w,(callFunc (ρ.f 137) args).run P w = .ok (.enter (ρ.f 137) args) w:=enters_of L.f137 (by kernel_rfl) rfl
 have hlt:¬ r<128:=by omega
 have hne:(r == 65533)=false:=beq_eq_false_iff_ne.2 h1
 have hbn:(((stops[2]'(by decide)).toNat:Int) != (((⟨#[a,b,c]⟩:ByteArray)[2]'(by simp [ByteArray.size])).toNat:Int))=true:=bne_iff_ne.2 (by show (63:Int)≠(c.toNat:Int);omega)
 have hsum:IntKind.i64.wrap (2+1)=3:=by decide
 have hx:Lib.indexByte ByteArray.empty.data.toList ((((⟨#[a,b,c]⟩:ByteArray)[2]'(by simp [ByteArray.size])).toNat:Int)).toNat.toUInt8 = -1:=by
  show Lib.indexByte [] (c.toNat:Int).toNat.toUInt8 = -1
  have e:(c.toNat:Int).toNat.toUInt8=c:=by simp
  rw [e]
  rfl
 go_enter L.f152,Body.n152_ntmps ρ
 go_wp2_with (first
  | (go_at_fn (ρ.f 119);refine (Any.utf8_ValidRune { L with } _ _).mono ?_;rintro e w' ⟨rfl,hw⟩;rw [hw,hv])
  | (go_at_fn (ρ.f 137);refine (Any.strings_IndexByte { L with } _ _ _).mono ?_;rintro e w' ⟨rfl,hw⟩;rw [hw]))
 go_step3
 go_wp2
 go_loopg [9] 1 (fun g s9 wx=>s9 = .int .i64 2∧wx=w)
 case atStart=>exact ⟨rfl,rfl⟩
 case round =>
  obtain ⟨rfl,rfl⟩:=hrel
  go_wp2
  go_step3
  go_wp2
  refine wp_region_quiet_lit mixed (by kernel_rfl) ?_
  repeat (first | go_big_quiet_step (fail) | quiet_step (fail))
  refine wpQuiet_nil ?_
  intro _ hw'
  obtain ⟨nq,hw''⟩:=hw'
  subst hw''
  go_wp2
  refine wp_region_quiet_lit mixed (by kernel_rfl) ?_
  repeat (first | go_big_quiet_step (fail) | quiet_step (fail))
  refine wpQuiet_step (fun K hK=>?_)
  go_simp
  refine ⟨_,fun q=>((Any.strings_IndexByte { L with } _ _ _).mono fun e w' h=>⟨h.1,q,h.2⟩),hK _ ?_⟩
  clear hK K
  repeat (first | go_big_quiet_step (fail) | quiet_step (fail))
  refine wpQuiet_nil ?_
  intro _ hw'
  obtain ⟨nq2,hw''⟩:=hw'
  subst hw''
  rw [hx]
  go_wp2
  go_simp
  try rw [Exit.noGoto_ret]
  go_ret
  exact ⟨rfl,⟨rfl,rfl,rfl,Nat.le_refl _,fun _ _=>rfl⟩⟩
set_option maxRecDepth 1000000 in
theorem XS (L:Lays.n152 P ρ) (r:Int) (w:World) (h0:128≤r) (h1:r≠65533) (hv:Lib.validRune r=true) (a b c d:UInt8) (he:Utf8.encode r=⟨#[a,b,c,d]⟩) :
  Calls P (ρ.f 152) #[.string stops,.int .i32 r] w fun e w'=>e = .returned (.int .i64 (-1))∧Below w.heap.size w w':=by
 have mixed:=L.mixed
 have t3:=L.t3;have a3:=L.a3;have z3:=L.z3;have v3:=L.v3
 have t4:=L.t4;have a4:=L.a4;have z4:=L.z4;have v4:=L.v4
 have t5:=L.t5;have a5:=L.a5;have z5:=L.z5;have v5:=L.v5
 have t9:=L.t9;have a9:=L.a9;have z9:=L.z9;have v9:=L.v9
 have t21:=L.t21;have a21:=L.a21;have z21:=L.z21;have v21:=L.v21
 have e119:∀ args w,(callFunc (ρ.f 119) args).run P w = .ok (.enter (ρ.f 119) args) w:=enters_of L.f119 (by kernel_rfl) rfl
 have e137:∀ args w,(callFunc (ρ.f 137) args).run P w = .ok (.enter (ρ.f 137) args) w:=enters_of L.f137 (by kernel_rfl) rfl
 have hlt:¬ r<128:=by omega
 have hne:(r == 65533)=false:=beq_eq_false_iff_ne.2 h1
 go_enter L.f152,Body.n152_ntmps ρ
 go_wp2_with (first
  | (go_at_fn (ρ.f 119);refine (Any.utf8_ValidRune { L with } _ _).mono ?_;rintro e w' ⟨rfl,hw⟩;rw [hw,hv])
  | (go_at_fn (ρ.f 137);refine (Any.strings_IndexByte { L with } _ _ _).mono ?_;rintro e w' ⟨rfl,hw⟩;rw [hw]))
 go_step3
 go_wp2
 go_loopg [9] 1 (fun g s9 wx=>s9 = .int .i64 3∧wx=w)
 case atStart=>exact ⟨rfl,rfl⟩
 case round =>
  obtain ⟨rfl,rfl⟩:=hrel
  go_wp2
  go_simp
  try rw [Exit.noGoto_ret]
  go_ret
  exact ⟨rfl,.refl _ _⟩
theorem ZS (L:Lays.n152 P ρ) (r:Int) (w:World) (h0:128≤r) :
  Calls P (ρ.f 152) #[.string stops,.int .i32 r] w fun e w'=>e = .returned (.int .i64 (-1))∧Below w.heap.size w w':=by
 by_cases h1:r=65533
 ·subst h1
  refine (U9 L w).mono ?_
  rintro e w' ⟨h,g,rfl⟩
  exact ⟨h,(Below.refl _ _).alloc (Nat.le_refl _) _⟩
 cases hv:Lib.validRune r with
 | false=>exact YZ L r w h0 h1 hv
 | true =>
  rcases XF r h0 with ⟨a,b,he,hb⟩ | ⟨a,b,c,he,hb⟩ | ⟨a,b,c,d,he⟩
  ·exact Zbv L r w h0 h1 hv a b he hb
  ·exact Wb L r w h0 h1 hv a b c he hb
  ·exact XS L r w h0 h1 hv a b c d he
theorem get!_at (s:ByteArray) (k:Nat) (h:k<s.size):s.data.toList[k]? = some (s.get! k):=by
 rw [Lib.data_getElem? s k h]
 congr 1
 exact (get_at s k h).symm
theorem ZN (s : ByteArray) (pos : Nat) (h : pos < s.size) (ha : 128 ≤ (s[pos]'h).toNat) : pos + (Utf8.decode s pos).2 ≤ s.size ∧ ∀ j, pos ≤ j → j < pos + (Utf8.decode s pos).2 → 128 ≤ (s.get! j).toNat := by
  have h0 : 128 ≤ (s.get! (pos + 0)).toNat := by rw [get_at s pos h]; exact ha
  have fin : ∀ n, (∀ k, k < n → pos + k < s.size ∧ 128 ≤ (s.get! (pos + k)).toNat) → 0 < n → pos + n ≤ s.size ∧ ∀ j, pos ≤ j → j < pos + n → 128 ≤ (s.get! j).toNat := fun n hn h1 =>
    ⟨by have := (hn (n - 1) (by omega)).1; omega, fun j hj hj2 => by have := (hn (j - pos) (by omega)).2; rwa [Nat.add_sub_cancel' hj] at this⟩
  have cont : ∀ k, (decide (pos + k < s.size) && (s.get! (pos + k)).toNat / 64 == 2) = true → pos + k < s.size ∧ 128 ≤ (s.get! (pos + k)).toNat := fun k q => by
    rw [Bool.and_eq_true, decide_eq_true_eq, beq_iff_eq] at q; exact ⟨q.1, by omega⟩
  have z : pos + 0 < s.size ∧ 128 ≤ (s.get! (pos + 0)).toNat := ⟨h, h0⟩
  have one : ∀ c : Nat, pos + (c, 1).2 ≤ s.size ∧ ∀ j, pos ≤ j → j < pos + (c, 1).2 → 128 ≤ (s.get! j).toNat := fun _ => fin 1 (fun k hk => by obtain rfl : k = 0 := by omega
                                                                                                                                               exact z) (by omega)
  unfold Utf8.decode
  simp only
  rw [Aa]
  split
  · rename_i q
    rw [Bool.and_eq_true] at q
    split
    · exact fin 2 (fun k hk => by
        rcases (by omega : k = 0 ∨ k = 1) with rfl | rfl
        · exact z
        · exact cont 1 q.2) (by omega)
    · exact one _
  · split
    · rename_i q
      rw [Bool.and_eq_true, Bool.and_eq_true] at q
      split
      · exact fin 3 (fun k hk => by
          rcases (by omega : k = 0 ∨ k = 1 ∨ k = 2) with rfl | rfl | rfl
          · exact z
          · exact cont 1 q.1.2
          · exact cont 2 q.2) (by omega)
      · exact one _
    · split
      · rename_i q
        rw [Bool.and_eq_true, Bool.and_eq_true, Bool.and_eq_true] at q
        split
        · exact fin 4 (fun k hk => by
            rcases (by omega : k = 0 ∨ k = 1 ∨ k = 2 ∨ k = 3) with rfl | rfl | rfl | rfl
            · exact z
            · exact cont 1 q.1.1.2
            · exact cont 2 q.1.2
            · exact cont 3 q.2) (by omega)
        · exact one _
      · exact one _
theorem Wn (b:UInt8) (h:128≤b.toNat):stops.data.toList.contains b=false:=by
 show ([46,91,63]:List UInt8).contains b=false
 simp
 refine ⟨?_,?_,?_⟩<;>(rintro rfl;exact absurd h (by decide))
set_option maxRecDepth 1000000 in
theorem Yf (L:Lays.n153 P ρ) (s:ByteArray) (w:World) (h8:s.size≤8) :
  Calls P (ρ.f 153) #[.string s,.string stops] w fun e w'=>e = .returned (.int .i64 (Lib.indexAny s.data.toList stops.data.toList))∧Below w.heap.size w w':=by
 have hemp:stops.toList.isEmpty=false:=by rw [Lib.toList_data];rfl
 have hn1:((stops.size:Int) == 1)=false:=by decide
 have h8z:decide ((8:Int)<(s.size:Int))=false:=Af (by omega)
 have t3:=L.t3;have a3:=L.a3;have z3:=L.z3;have v3:=L.v3
 have t4:=L.t4;have a4:=L.a4;have z4:=L.z4;have v4:=L.v4
 have t5:=L.t5;have a5:=L.a5;have z5:=L.z5;have v5:=L.v5
 have t9:=L.t9;have a9:=L.a9;have z9:=L.z9;have v9:=L.v9
 have t21:=L.t21;have a21:=L.a21;have z21:=L.z21;have v21:=L.v21
 have e152:∀ args w,(callFunc (ρ.f 152) args).run P w = .ok (.enter (ρ.f 152) args) w:=enters_of L.f152 (by kernel_rfl) rfl
 have e226:∀ args w,(callFunc (ρ.f 226) args).run P w = .ok (.enter (ρ.f 226) args) w:=enters_of L.f226 (by kernel_rfl) rfl
 go_enter L.f153,Body.n153_ntmps ρ
 go_wp2_with (go_at_fn (ρ.f 226);refine (Any.strings_shouldUseASCIISet { L with } _ _).mono ?_;rintro e w' ⟨rfl,hw⟩;rw [hw,h8z])
 go_loopg [9,10] s.size (fun g _ _ wr=>∃ pos:Nat,pos+g=s.size∧wr.heap[w.heap.size]? = some (.stringIter s pos)∧Below w.heap.size w wr∧Lib.NoAny s.data.toList stops.data.toList pos)
 case atStart=>exact ⟨0,by omega,World.iter_heap w s 0,(Below.refl _ _).alloc (Nat.le_refl _) _,Lib.NoAny.zero _ _⟩
 case round =>
  obtain ⟨i,hig,hit,hbw,hno⟩:=hrel
  have HN:Aside (Lib.NoAny s.data.toList stops.data.toList i):=hno
  clear hno
  by_cases hp:i<s.size
  ·have hnx:=fun ty=>Lib.run_next_any_at (P:=P) wr w.heap.size s i ty hit hp
   have hit2:=Lib.iterAt_heap wr w.heap.size s i (i+(Utf8.decode s i).2) hit
   have hbw2:=Lib.below_iterAt hbw (k:=w.heap.size) (Nat.le_refl _) s (i+(Utf8.decode s i).2)
   obtain ⟨W1,hW1⟩:∃ W1,W1=wr.iterAt w.heap.size s (i+(Utf8.decode s i).2):=⟨_,rfl⟩
   rw [←hW1] at hnx hit2 hbw2
   have hlt1:w.heap.size<W1.heap.size:=(Array.getElem?_eq_some_iff.1 hit2).1
   clear hW1
   obtain ⟨x,hx⟩:∃ x:UInt8,s[i]'hp=x:=⟨_,rfl⟩
   have hxl:s.data.toList[i]? = some x:=by rw [←hx];exact Lib.data_getElem? s i hp
   by_cases hxa:x.toNat<128
   ·have hdec:Utf8.decode s i=(x.toNat,1):=by rw [←hx];exact decode_ascii s i hp (by rw [hx];exact hxa)
    rw [hdec] at hnx hit2
    have Hx:Aside (s.data.toList[i]? = some x):=hxl
    clear hxl hx hdec
    have hcon:=Lib.contains_iff_indexByte stops.data.toList x
    have hback:(x.toNat:Int).toNat.toUInt8=x:=by simp
    cases hin:stops.data.toList.contains x
    ·rw [hin] at hcon
     have hlt:¬ ((0:Int)≤Lib.indexByte stops.data.toList x):=of_decide_eq_false hcon.symm
     clear hcon
     go_wp2_with (go_at_fn (ρ.f 152);refine (Any.strings_IndexRune_ascii { L with } _ _ _ (by omega) (by omega)).mono ?_;rintro e w' ⟨rfl,hw⟩;rw [hw,hback])
     go_roundg (s.size-(i+1))
     case measure=>omega
     case rel=>exact ⟨i+1,by omega,hit2,hbw2,HN.out.succ Hx.out hin⟩
    ·rw [hin] at hcon
     have hge:(0:Int)≤Lib.indexByte stops.data.toList x:=of_decide_eq_true hcon.symm
     clear hcon
     go_wp2_with (go_at_fn (ρ.f 152);refine (Any.strings_IndexRune_ascii { L with } _ _ _ (by omega) (by omega)).mono ?_;rintro e w' ⟨rfl,hw⟩;rw [hw,hback])
     go_ret
     exact ⟨by rw [Lib.indexAny_hit HN.out Hx.out hin];rfl,hbw2⟩
   ·have hxa':128≤(s[i]'hp).toNat:=by rw [hx];omega
    obtain ⟨d1,d2⟩:=decode_high s i hp hxa'
    obtain ⟨d3,d4⟩:=ZN s i hp hxa'
    have HD:Aside (Lib.NoAny s.data.toList stops.data.toList (i+(Utf8.decode s i).2)):=fun j b hj hb=>by
     by_cases c:j<i
     ·exact HN.out j b c hb
     ·have q:=d4 j (by omega) hj
      have hjs:j<s.size:=by omega
      rw [get!_at s j hjs] at hb
      cases hb
      exact Wn _ q
    generalize hdd:Utf8.decode s i=dd at *
    obtain ⟨r,k⟩:=dd
    simp only at d1 d2 d3 HD hnx hit2
    clear d4 hdd hxa' hxa hxl hx
    have hlt:¬ ((0:Int) ≤ -1):=by decide
    go_wp2_with (go_at_fn (ρ.f 152);refine (ZS { L with } _ _ (by omega)).mono ?_;rintro e w2 ⟨rfl,hb2⟩)
    go_roundg (s.size-(i+k))
    case measure=>omega
    case rel=>exact ⟨i+k,by omega,by rw [hb2.block w.heap.size hlt1];exact hit2,hbw2.trans ⟨hb2.os,hb2.tape,hb2.output,by have:=hb2.size;omega,fun j hj=>hb2.block j (by omega)⟩,HD.out⟩
  ·have hnx:=Lib.run_next_end_at (P:=P) wr w.heap.size s i
   have hnx:=fun ty=>hnx ty hit hp
   go_wp2
   go_ret
   exact ⟨by rw [Lib.indexAny_none (by rw [←Lib.size_eq];exact fun j b hj=>HN.out j b (by omega))];rfl,hbw⟩
end Go.Proofs
namespace Go.Proofs.YtcdnijfbfdnjlaaGreatDoor
open Go Go.RowKit Go.Ev
abbrev Vh (w0:World):Prop:=∃ m,w0.cell? ⟨0,0,none⟩=some (.int .i64 m)
abbrev ZgK (w0:World):Prop:=(∃ ev,w0.cell? ⟨6,0,none⟩=some ev∧(ev = .nilIface∨∃ te pe,ev = .iface te pe))∧∃ ev,w0.cell? ⟨7,0,none⟩=some ev∧(ev = .nilIface∨∃ te pe,ev = .iface te pe)
theorem Yr:∀ (j:Nat) (b:UInt8),stops.data.toList[j]? = some b→b.toNat<128:=fun j b h=>by
 have a:b∈([46,91,63]:List UInt8):=List.mem_of_getElem? h
 simp only [List.mem_cons,List.not_mem_nil,or_false] at a
 rcases a with rfl | rfl | rfl<;>decide
theorem O4 {w0 w:World} {p:Addr} {v:Value} (h:w0.cell? p=some v) (hb:Below w0.heap.size w0 w):w.cell? p=some v:=by
 rw [hb.cell (World.block_lt_of_cell? w0 _ h)];exact h
def ZjZ (s:ByteArray):Int:=Lib.indexAny s.data.toList [46,91,63]
def Zm (s p:ByteArray):Bool:=Lib.hasPrefix s.data.toList p.data.toList
def Zl (s p:ByteArray):ByteArray:=⟨(Lib.cut s.data.toList p.data.toList).1.toArray⟩
def Ze (s p:ByteArray):ByteArray:=⟨(Lib.cut s.data.toList p.data.toList).2.1.toArray⟩
def ZgG (s p:ByteArray):Bool:=(Lib.cut s.data.toList p.data.toList).2.2
section
variable (w0:World) (B:Aq) (Rw:Au) (L:Av)
theorem P2 (s c:ByteArray) (h:s.size≤4294967280∧c=stops) :
  ACalls Tryz.prog w0 235 [.val (.string s),.val (.string c)] ⟨B,Rw,L⟩ fun v s'=>v=Ak (ZjZ s)∧s'=⟨B,Rw,L⟩ :=
 ES (A2 Tryz.func235 rfl (by decide)) rfl fun M w b j a=>by
  obtain ⟨h,rfl⟩:=h
  have:=Ic (us:=[.string s,.string stops]) a
  subst this
  by_cases h8:s.size≤8
  ·exact Yf Tryz.lays153 s w h8
  ·refine (Tryz.strings_IndexAny_long (zero_of_info (show (Tryz.prog.info? 346).map (fun i=>(i.zero,i.size))=some (some (.agg (Array.replicate 256 (.bool false))),256) by kernel_rfl)).1 s stops w (by decide) (by omega) (by omega) (by decide) Yr).mono fun e g ⟨d,f⟩=>⟨d,?_⟩
   rw [f]
   exact ((Below.refl _ _).alloc (Nat.le_refl _) _).alloc (by simp) _
theorem PG (s p:ByteArray) :
  ACalls Tryz.prog w0 236 [.val (.string s),.val (.string p)] ⟨B,Rw,L⟩ fun v s'=>v = .val (.bool (Zm s p))∧s'=⟨B,Rw,L⟩ :=
 ES (A2 Tryz.func236 rfl (by decide)) rfl fun M w b g a=>by
  have:=Ic (us:=[.string s,.string p]) a
  subst this
  exact (Tryz.strings_HasPrefix s p w).mono fun e f ⟨c,d⟩=>⟨c,d▸Below.refl _ _⟩
theorem YT (s p:ByteArray):(Zl s p).size≤s.size∧(Ze s p).size≤s.size:=by
 have e:s.data.toList.length=s.size:=by simp
 unfold Zl Ze Lib.cut
 split
 ·refine ⟨?_,?_⟩
  ·show ((s.data.toList.take _).toArray).size≤_
   rw [List.size_toArray,List.length_take];omega
  ·show ((s.data.toList.drop _).toArray).size≤_
   rw [List.size_toArray,List.length_drop];omega
 ·refine ⟨?_,?_⟩
  ·show (s.data.toList.toArray).size≤_
   rw [List.size_toArray];omega
  ·exact Nat.zero_le _
theorem Zbo (hM:Vh w0) (s p:ByteArray) (h:s.size≤4294967280) :
  ACalls Tryz.prog w0 237 [.val (.string s),.val (.string p)] ⟨B,Rw,L⟩ fun v s'=>v = .tup [.val (.string (Zl s p)),.val (.string (Ze s p)),.val (.bool (ZgG s p))]∧s'=⟨B,Rw,L⟩ :=
 MS (rs:=[.string (Zl s p),.string (Ze s p),.bool (ZgG s p)]) (A2 Tryz.func237 rfl (by decide)) (by
  obtain ⟨i,j⟩:=YT s p
  have k:∀ x:ByteArray,x.size≤s.size→E9 (.string x)=true:=fun x o=>Ag (by unfold maxLen;omega)
  intro r b
  simp only [List.mem_cons,List.not_mem_nil,or_false] at b
  rcases b with rfl | rfl | rfl
  ·exact k _ i
  ·exact k _ j
  ·rfl) fun M w c l a=>by
  have:=Ic (us:=[.string s,.string p]) a
  subst this
  obtain ⟨m,g⟩:=hM
  exact (Tryz.strings_Cut s p m w (by omega) (O4 g l)).mono fun e q ⟨d,n,f⟩=>⟨d,f▸(⟨rfl,rfl,rfl,Nat.le_refl _,fun _ _=>rfl⟩:Below w.heap.size w (w.drewN n))⟩
end
@[go_sem] theorem Zdf:SD Tryz.prog 312=true:=by kernel_rfl
end Go.Proofs.YtcdnijfbfdnjlaaGreatDoor
namespace Go.Ev
open Go Go.RowKit Go.Shelf Go.Lib Go.Proofs
structure DelLay (P:Program) (ρ:Ren) (nm:String) (sz bytes:Nat) (z:Value):Prop where
 mixed:P.follows .mixedOrders=true
 nmo:(nm == "runtime.NumGoroutine")=false
 f45:P.funcs[ρ.f 45]? = some { SlBodyN.n45 ρ with name:=nm }
 t0:P.underlying (ρ.t 0)=some (TypeDesc.tuple #[])
 a0:∀ w,(isAgg (ρ.t 0)).run P w = .ok false w
 z0:∀ w,(Go.sizeOf (ρ.t 0)).run P w = .ok 1 w
 v0:∀ w,(zeroValue (ρ.t 0)).run P w = .ok (Value.tuple #[]) w
 t3:P.underlying (ρ.t 3)=some (TypeDesc.int IntKind.i64)
 a3:∀ w,(isAgg (ρ.t 3)).run P w = .ok false w
 z3:∀ w,(Go.sizeOf (ρ.t 3)).run P w = .ok 1 w
 v3:∀ w,(zeroValue (ρ.t 3)).run P w = .ok (Value.int IntKind.i64 0) w
 t4:P.underlying (ρ.t 4)=some (TypeDesc.bool)
 a4:∀ w,(isAgg (ρ.t 4)).run P w = .ok false w
 z4:∀ w,(Go.sizeOf (ρ.t 4)).run P w = .ok 1 w
 v4:∀ w,(zeroValue (ρ.t 4)).run P w = .ok (Value.bool false) w
 t22:P.underlying (ρ.t 22)=some (TypeDesc.slice (ρ.t 23))
 a22:∀ w,(isAgg (ρ.t 22)).run P w = .ok false w
 z22:∀ w,(Go.sizeOf (ρ.t 22)).run P w = .ok 1 w
 v22:∀ w,(zeroValue (ρ.t 22)).run P w = .ok (Value.slice none 0 0) w
 z23:∀ w,(Go.sizeOf (ρ.t 23)).run P w = .ok sz w
 v23:∀ w,(zeroValue (ρ.t 23)).run P w = .ok z w
 i23:(P.info? (ρ.t 23)).map (fun i=>(i.zero,i.size,i.bytes))=some (some z,sz,bytes)
section
variable {P:Program} {ρ:Ren} {nm:String} {sz bytes:Nat} {z:Value}
theorem Ss (w:World) (t e ty:TypeId) (ht:P.underlying t=some (.slice e)) (hv:∀ w,(zeroValue e).run P w = .ok z w) (b o n c:Nat) (zs:List Value) (hzs:(Builtin.zeroCells z.cells n).toList=zs) (h1:∀ v∈zs,v.oneCell'=true) (hn:0<n)
  (hc:∀ j,j<zs.length→(w.cell? ⟨b,o+j,none⟩).isSome=true) (hf:∀ j,j<zs.length→w.frozen? ⟨b,o+j,none⟩=false) :
  (Builtin.clear_ #[t] ty #[.slice (some ⟨b,o,none⟩) n c]).run P w = .ok (.tuple #[]) (w.setCells b o zs):=by
 have a:=run_storeCells_cells (P:=P) b o zs 0 w (by simpa using hc) (by simpa using hf) h1
 simp only [Nat.add_zero] at a
 obtain ⟨m,rfl⟩:∃ m,n=m+1:=⟨n-1,by omega⟩
 simp [Builtin.clear_,run_underlying ht,hv,hzs,a]
set_option maxRecDepth 1000000 in
theorem XK (L:DelLay P ρ nm sz bytes z) (b off n c i j:Nat) (cs zs:List Value) (w:World) (hij:i<j) (hj:j≤n) (hnc:n≤c) (hc63:c≤9223372036854775807)
  (hcl:cs.length=n*sz) (hcs:∀ k v,cs[k]? = some v→w.cell? ⟨b,off+k,none⟩=some v) (hfz:∀ k,w.frozen? ⟨b,k,none⟩=false) (h1c:∀ v∈cs,v.oneCell'=true)
  (hzs:(Builtin.zeroCells z.cells (n-(i+(n-j)))).toList=zs) (hzl:zs.length=(j-i)*sz) (h1z:∀ v∈zs,v.oneCell'=true) :
  Calls P (ρ.f 45) #[.slice (some ⟨b,off,none⟩) n c,.int .i64 i,.int .i64 j] w fun e w' =>
   e = .returned (.slice (some ⟨b,off,none⟩) (i+(n-j)) c)∧w'=(w.drew.setCells b (off+i*sz) (cs.drop (j*sz))).setCells b (off+(i+(n-j))*sz) zs:=by
 have t0:=L.t0;have a0:=L.a0;have z0:=L.z0;have v0:=L.v0;have t3:=L.t3;have a3:=L.a3;have z3:=L.z3;have v3:=L.v3;have t4:=L.t4;have a4:=L.a4;have z4:=L.z4;have v4:=L.v4;have t22:=L.t22;have a22:=L.a22;have z22:=L.z22;have v22:=L.v22;have z23:=L.z23;have v23:=L.v23
 have u0:=run_underlying L.t0;have u3:=run_underlying L.t3;have u4:=run_underlying L.t4;have u22:=run_underlying L.t22
 have mixed:=L.mixed
 obtain ⟨i0,hi0,hz0,hz1,hz2⟩:=info_parts L.i23
 have e1:j*sz+(n-j)*sz=n*sz:=by rw [←Nat.add_mul];congr 1;omega
 have e2:i*sz+(j-i)*sz=j*sz:=by rw [←Nat.add_mul];congr 1;omega
 have e3:(i+(n-j))*sz=i*sz+(n-j)*sz:=Nat.add_mul ..
 have e4:n-(i+(n-j))=j-i:=by omega
 obtain ⟨news,hnews⟩:∃ news,news=cs.drop (j*sz):=⟨_,rfl⟩
 have hlen:news.length=(n-j)*sz:=by rw [hnews,List.length_drop,hcl];omega
 obtain ⟨A,hA,hsrc⟩:∃ A:Addr,(if c=j then some (⟨b,off,none⟩:Addr) else some ⟨b,off+j*sz,none⟩)=some A∧Hid (∀ t u,news[t]? = some u→w.drew.cell? (A.add t)=some u):=by
  by_cases h:c=j
  ·refine ⟨⟨b,off,none⟩,by simp [h],fun t u hu=>?_⟩
   have h0:news.length=0:=by rw [hlen,show n-j=0 by omega,Nat.zero_mul]
   rw [List.length_eq_zero_iff.1 h0] at hu
   simp at hu
  ·refine ⟨⟨b,off+j*sz,none⟩,by simp [h],fun t u hu=>?_⟩
   rw [hnews,List.getElem?_drop] at hu
   rw [Addr.add_lit,Nat.add_assoc]
   exact hcs _ _ hu
 have some_:∀ k,k<n*sz→(w.cell? ⟨b,off+k,none⟩).isSome=true:=fun k hk=>by
  rw [hcs k _ (List.getElem?_eq_getElem (by omega))];rfl
 have s1:Hid (news.length=(n-j)*sz):=hlen
 have s2:Hid (∀ u∈news,u.oneCell'=true):=fun u hu=>h1c u (by rw [hnews] at hu;exact List.mem_of_mem_drop hu)
 have s3:Hid (∀ t,t<news.length→(w.drew.cell? ⟨b,off+i*sz+t,none⟩).isSome=true∧w.drew.frozen? ⟨b,off+i*sz+t,none⟩=false):=by
  intro t ht
  rw [hlen] at ht
  rw [Nat.add_assoc]
  exact ⟨some_ _ (by omega),hfz _⟩
 obtain ⟨W1,hW1⟩:∃ W1,W1=w.drew.setCells b (off+i*sz) news:=⟨_,rfl⟩
 have some1:∀ k,k<n*sz→(W1.cell? ⟨b,off+k,none⟩).isSome=true:=fun k hk=>by
  rw [hW1]
  exact isSome_setCells b _ _ _ (fun t ht=>by rw [Nat.add_assoc];exact some_ _ (by omega)) _ (some_ k hk)
 have hcl:∀ ty,(Builtin.clear_ #[ρ.t 22] ty #[.slice (some ⟨b,off+(i+(n-j))*sz,none⟩) (n-(i+(n-j))) (c-(i+(n-j)))]).run P W1 = .ok (.tuple #[]) (W1.setCells b (off+(i+(n-j))*sz) zs) :=
  fun ty=>Ss W1 _ _ ty t22 v23 b _ _ _ zs hzs h1z (by omega) (fun t ht=>by rw [Nat.add_assoc];exact some1 _ (by omega)) (fun t ht=>by rw [hW1,World.frozen?_setCells];exact hfz _)
 have hW:Hid (W1=w.drew.setCells b (off+i*sz) news):=hW1
 have hN:Aside (news=cs.drop (j*sz)):=hnews
 have hic:i≤c:=by omega
 have hjc:j≤c:=by omega
 have hijn:i≤n:=by omega
 clear hW1 hcs hnews hlen some_ some1 e1 e2 e3 e4 hzs hzl h1z h1c hfz
 have FG:=L.f45
 go_enter FG,SlBodyN.n45_ntmps ρ
 go_wp2_with fail
 go_region_law_o (refine step_append_room rfl (.tmp 22) (.tmp 25) (ρ.t 22) rfl (ρ.t 23) i0 sz t22 hi0 hz1 b off i c (by simp [Act.eval,Act.put]) A (n-j) (c-j) news (by simp [Act.eval,Act.put]) s1.out hsrc.out s2.out (by omega) s3.out ?_;rw [←hW.out])
 go_wp2
 go_ret
 refine ⟨rfl,?_⟩
 rw [hW.out,hN.out]
end
theorem ZiG {T rest:List Value} {cs:List AV} {a b N:Nat} {Rl:Value→AV→Prop} (hab:a≤b) (hbN:b≤N) (hN:N≤T.length) (hc:cs.length=N) (h:∀ (j:Nat) (v:Value) (x:AV),T[j]? = some v→cs[j]? = some x→Rl v x) (k:Nat) (v:Value) (x:AV)
  (h1:(T.take a++(T.take N).drop b++rest)[k]? = some v) (h2:(cs.take a++cs.drop b)[k]? = some x):Rl v x:=by
 have d:(T.take a).length=a:=by simp;omega
 have g:((T.take N).drop b).length=N-b:=by simp;omega
 have e:(cs.take a).length=a:=by simp;omega
 rw [List.append_assoc] at h1
 by_cases c:k<a
 ·rw [List.getElem?_append_left (by omega),List.getElem?_take,Ah c] at h1 h2
  exact h k v x h1 h2
 ·rw [List.getElem?_append_right (by omega),e,List.getElem?_drop] at h2
  have f:=(Aj.1 h2).1
  rw [List.getElem?_append_right (by omega),d,List.getElem?_append_left (by omega),List.getElem?_drop,List.getElem?_take,Ab] at h1
  exact h _ v x h1 h2
theorem Zbs {z:Value} (h:∀ v∈z.cells.toList,v.oneCell'=true) (n:Nat):∀ v∈(Builtin.zeroCells z.cells n).toList,v.oneCell'=true:=by
 intro v hv
 rw [Builtin.zeroCells,Array.toList_map,List.mem_map] at hv
 obtain ⟨k,b,rfl⟩:=hv
 by_cases c:z.cells.size=0
 ·simp [c] at b
 ·have a:k % z.cells.size<z.cells.size:=Nat.mod_lt _ (by omega)
  rw [getElem!_pos z.cells _ a]
  exact h _ (by simp)
section
variable {P:Program} {w0:World} {ρ:Ren} {nm:String} {sz bytes:Nat} {z:Value} {st:St} {M:Mem} {w:World}
theorem VM (L:DelLay P ρ nm sz bytes z) (hzc:z.cells.size=sz) (hz1:∀ v∈z.cells.toList,v.oneCell'=true) (h0:0<sz) {id ver n i j:Nat} {cs:List AV} (hrow:st.rows[id]? = some (.vec ver sz cs)) (hcs:cs.length=n*sz) (hij:i<j) (hj:j≤n)
  {v0:Value} (hst:RelSt w0 M st w) (hv0:R w0 M w v0 (.vec id ver 0 n)) :
  Calls P (ρ.f 45) #[v0,.int .i64 i,.int .i64 j] w (Comes' w0 M w fun r s=>r = .vec id (ver+1) 0 (i+(n-j))∧s={ st with rows:=st.rows.set id (.vec (ver+1) sz (cs.take (i*sz)++cs.drop (j*sz))) }):=by
 have d:id<M.NR:=by rw [hst.NR];exact (Aj.1 hrow).1
 obtain ⟨f1,f2,f3,f4,f5,f6,f7,cur,te,f8,f9,ag,E,H⟩:=hst.row id _ hrow
 cases hv0 with
 | @vec _ _ _ _ p cap hid' hver hh =>
 obtain ⟨rfl,hcap,Z⟩:=hh f1.symm
 simp only [Nat.add_zero,Nat.zero_mul] at hcap ⊢
 subst hcap
 have e1:j*sz+(n-j)*sz=n*sz:=by rw [←Nat.add_mul];congr 1;omega
 have e2:i*sz+(j-i)*sz=j*sz:=by rw [←Nat.add_mul];congr 1;omega
 have e3:(i+(n-j))*sz=i*sz+(n-j)*sz:=Nat.add_mul ..
 have e4:n-(i+(n-j))=j-i:=by omega
 have D:n*sz≤cur.size:=by rw [f9];exact Nat.mul_le_mul_right _ Z
 have e:(cur.toList.take (n*sz)).length=n*sz:=by simp;omega
 have t:∀ v∈cur.toList.take (n*sz),v.oneCell'=true:=by
  intro v hv
  obtain ⟨k,hk,rfl⟩:=List.mem_iff_getElem.1 hv
  rw [e] at hk
  rw [List.getElem_take,Array.getElem_toList]
  exact (H k (by omega) (by omega)).oneCell (E _ (List.getElem_mem _))
 have F:∀ k v,(cur.toList.take (n*sz))[k]? = some v→w.cell? ⟨M.blk id,0+k,none⟩=some v:=by
  intro k u hk
  rw [List.getElem?_take] at hk
  split at hk
  ·rw [Nat.zero_add,cell_of_row w _ k cur te _ f8,←Array.getElem?_toList];exact hk
  ·cases hk
 have J:∀ x∈cs.take (i*sz)++cs.drop (j*sz),x.one=true:=by
  intro x hx
  rcases List.mem_append.1 hx with hx | hx
  ·exact E x (List.mem_of_mem_take hx)
  ·exact E x (List.mem_of_mem_drop hx)
 have ae:(cs.take (i*sz)++cs.drop (j*sz)).length=(i+(n-j))*sz:=by
  rw [List.length_append,List.length_take,List.length_drop,e3];omega
 have y:∀ (cells:Array Value) (rest:List Value),cells.toList=cur.toList.take (i*sz)++(cur.toList.take (n*sz)).drop (j*sz)++rest→∀ (k:Nat) (v:Value) (x:AV),cells[k]? = some v→(cs.take (i*sz)++cs.drop (j*sz))[k]? = some x→R w0 M w v x:=by
  intro cells rest O k v x G ad
  rw [←Array.getElem?_toList,O] at G
  refine ZiG (T:=cur.toList) (rest:=rest) (N:=n*sz) (by omega) (by omega) (by simpa using D) hcs (fun j v x h1 h2=>?_) k v x G ad
  rw [Array.getElem?_toList] at h1
  obtain ⟨q1,rfl⟩:=Array.getElem?_eq_some_iff.1 h1
  obtain ⟨q2,rfl⟩:=Aj.1 h2
  exact H j q1 q2
 obtain ⟨d1,d2⟩:=hst.drew
 obtain ⟨zs,hzs⟩:∃ zs,(Builtin.zeroCells z.cells (n-(i+(n-j)))).toList=zs:=⟨_,rfl⟩
 have U:zs.length=(j-i)*sz:=by rw [←hzs,Array.length_toList,size_zeroCells,hzc,e4]
 have V:∀ v∈zs,v.oneCell'=true:=by rw [←hzs];exact Zbs hz1 _
 refine (XK L (M.blk id) 0 n (M.cap id) i j (cur.toList.take (n*sz)) zs w hij hj Z (by unfold maxLen at f6;omega) e F (fun k=>by simp [World.frozen?,f8]) t hzs U V).mono ?_
 rintro en w' ⟨rfl,rfl⟩
 have h:w.drew.heap[M.blk id]? = some (.cells cur te (0,0)):=f8
 have K:((cur.toList.take (n*sz)).drop (j*sz)).length=(n-j)*sz:=by rw [List.length_drop,e];omega
 rw [L2 P h _ _ (by rw [K];omega) (fun v hv=>t v (List.mem_of_mem_drop hv))]
 have aa:=setRow_heap w.drew (M.blk id) cur (cur.toList.take (0+i*sz)++(cur.toList.take (n*sz)).drop (j*sz)++cur.toList.drop (0+i*sz+((cur.toList.take (n*sz)).drop (j*sz)).length)).toArray te _ h
 rw [L2 P aa _ _ (by simp only [List.size_toArray,List.length_append,List.length_take,List.length_drop,Array.length_toList];omega) V,setRow_setRow]
 simp only [Nat.zero_add]
 generalize hc':((cur.toList.take (i*sz)++(cur.toList.take (n*sz)).drop (j*sz)++cur.toList.drop (i*sz+((cur.toList.take (n*sz)).drop (j*sz)).length)).take ((i+(n-j))*sz)++zs++(cur.toList.take (i*sz)++(cur.toList.take (n*sz)).drop (j*sz)++cur.toList.drop (i*sz+((cur.toList.take (n*sz)).drop (j*sz)).length)).drop ((i+(n-j))*sz+zs.length)).toArray=cur'
 have af:(cur.toList.take (i*sz)++(cur.toList.take (n*sz)).drop (j*sz)).length=(i+(n-j))*sz:=by
  rw [List.length_append,K,List.length_take,Array.length_toList,e3];omega
 have m:cur'.toList=cur.toList.take (i*sz)++(cur.toList.take (n*sz)).drop (j*sz)++(zs++(cur.toList.take (i*sz)++(cur.toList.take (n*sz)).drop (j*sz)++cur.toList.drop (i*sz+((cur.toList.take (n*sz)).drop (j*sz)).length)).drop ((i+(n-j))*sz+zs.length)):=by
  rw [←hc',List.take_append_of_le_length (by omega),List.take_of_length_le (by omega)]
  simp only [List.append_assoc]
 have C:cur'.size=cur.size:=by
  rw [←Array.length_toList,m]
  simp only [List.length_append,List.length_take,List.length_drop,Array.length_toList,U]
  omega
 have o:Ext w0 M w.drew (M.growRow id (M.blk id) (M.cap id) (ver+1) 0) (w.drew.setRow (M.blk id) cur'):=by
  refine Gp (M:=M) (M.growRow id (M.blk id) (M.cap id) (ver+1) 0) rfl (fun _ _=>rfl) rfl (fun i hi=>?_) (fun b=>?_) h f3 (fun j hj=>by rw [f4] at hj;omega) (Mem.own_row d) (fun b=>I6 d)
  ·by_cases c:i=id
   ·subst c
    simp only [Mem.growRow,if_true,f1]
    exact ⟨by omega,fun q=>absurd q (by omega)⟩
   ·simp only [Mem.growRow,Ai c]
    exact ⟨Nat.le_refl _,fun _=>⟨trivial,trivial,trivial⟩⟩
  ·simp only [Mem.growRow]
   split
   ·rename_i c
    rw [c,f4]
    exact Nat.le_refl _
   ·exact Nat.le_refl _
 have Q:=hst.row_lt d
 have q:(M.growRow id (M.blk id) (M.cap id) (ver+1) 0).fr id=ver+1∧(M.growRow id (M.blk id) (M.cap id) (ver+1) 0).blk id=M.blk id∧(M.growRow id (M.blk id) (M.cap id) (ver+1) 0).cap id=M.cap id∧(M.growRow id (M.blk id) (M.cap id) (ver+1) 0).rsz id=M.rsz id∧(M.growRow id (M.blk id) (M.cap id) (ver+1) 0).top (M.blk id)=0:=by simp [Mem.growRow]
 obtain ⟨q1,q2,q3,q4,q5⟩:=q
 have g:i+(n-j)≤M.cap id:=by omega
 have Y:=d1.growRow' hrow (x := .vec (ver+1) sz (cs.take (i*sz)++cs.drop (j*sz))) (w':=w.drew.setRow (M.blk id) cur') (b:=M.blk id) (cap:=M.cap id) (k:=ver+1) (tp:=0) (Below.setRow (Below.refl _ _) f3 _) (by simp) (by simpa using Q)
  (fun l hl=>⟨f5 l hl,setRow_other w.drew _ _ _ (f5 l hl)⟩) (fun i hi ab=>by
   have:M.blk i≠M.blk id:=fun q=>ab (hst.rowinj i id hi d q)
   exact ⟨this,setRow_other w.drew _ _ _ this⟩) (by
   simp only [RowOk,q1,q2,q3,q4,q5]
   exact ⟨trivial,f2,f3,trivial,f5,f6,h0,cur',te,setRow_heap w.drew _ cur cur' te _ h,C.trans f9,by rw [ae,C,f9];exact Nat.mul_le_mul_right _ g,J,
    fun i a b=>((y cur' _ m i _ _ (Array.getElem?_eq_getElem a) (List.getElem?_eq_getElem b)).mono d2).mono o⟩) o (KeepsObj.setRow h _)
 exact ⟨_,_,_,_,rfl,⟨rfl,rfl⟩,d2.trans o,Y,.vec d (by rw [q1];exact Nat.le_refl _) fun _=>⟨by rw [q2];simp,by rw [q3];rfl,g⟩⟩
theorem V5 (L:DelLay P ρ nm sz bytes z) (hen:IZ P (ρ.f 45)) (hzc:z.cells.size=sz) (hz1:∀ v∈z.cells.toList,v.oneCell'=true) (h0:0<sz) {id ver n i j:Nat} {cs:List AV} (hrow:st.rows[id]? = some (.vec ver sz cs)) (hcs:cs.length=n*sz) (hij:i<j) (hj:j≤n) :
  ACalls P w0 (ρ.f 45) [.vec id ver 0 n,Ak i,Ak j] st fun r s=>r = .vec id (ver+1) 0 (i+(n-j))∧s={ st with rows:=st.rows.set id (.vec (ver+1) sz (cs.take (i*sz)++cs.drop (j*sz))) }:=by
 refine ⟨hen,fun M w e k d=>?_⟩
 obtain ⟨v0,v1,v2,rfl⟩:∃ v0 v1 v2,e = #[v0,v1,v2]:=by
  have:=d.1
  simp only [List.length_cons,List.length_nil] at this
  obtain ⟨l⟩:=e
  match l,this with
  | [a,b,c],_=>exact ⟨a,b,c,rfl⟩
 have h:R w0 M w v0 (.vec id ver 0 n):=d.2 0 (by simp) (by simp)
 have m:R w0 M w v1 (Ak i):=d.2 1 (by simp) (by simp)
 have g:R w0 M w v2 (Ak j):=d.2 2 (by simp) (by simp)
 obtain ⟨rfl,_⟩:=m.val_inv
 obtain ⟨rfl,_⟩:=g.val_inv
 exact VM L hzc hz1 h0 hrow hcs hij hj k h
end
end Go.Ev
namespace Go.Proofs.YtcdnijfbfdnjlaaGreatDoor
open Go Go.RowKit Go.Ev
set_option maxRecDepth 100000
noncomputable def ZaA:Nat→Nat→List UInt8
 | 0,_=>[]
 | k+1,u=>if Nat.blt u 10=true then [UInt8.ofNat (48+u)] else ZaA k (u / 10)++[UInt8.ofNat (48+u % 10)]
theorem W5:∀ (k u:Nat),u<10 ^ k→0<k→ZaA k u=Lib.decDigits u
 | 0,u,_,h=>absurd h (Nat.lt_irrefl _)
 | k+1,u,h,_=>by
  rw [ZaA,Lib.decDigits]
  by_cases q:u<10
  ·rw [Ah (by simpa using q),dif_pos q]
  ·rw [Ai (by simpa using q),dif_neg q]
   have a:0<k:=by
    cases k with
    | zero=>simp at h;omega
    | succ k=>omega
   rw [W5 k (u / 10) (by rw [Nat.pow_succ] at h;omega) a]
theorem ZlM {x y:ByteArray} (h:MA x y=true):x=y:=by
 have:x.data.toList=y.data.toList:=eq_of_beq h
 have:x.data=y.data:=Array.toList_inj.1 this
 cases x;cases y;simp_all
section
noncomputable def Zfz (f:FuncId) (args:List AV):Option AV :=
 if Nat.beq f 235=true then (match args with | [.val (.string s),.val (.string c)]=>if (Nat.ble s.size 4294967280&&MA c stops)=true then some (.val (.int .i64 (ZjZ s))) else none | _=>none)
 else if Nat.beq f 236=true then (match args with | [.val (.string s),.val (.string p)]=>some (.val (.bool (Zm s p))) | _=>none)
 else if Nat.beq f 237=true then (match args with | [.val (.string s),.val (.string p)]=>if Nat.ble s.size 4294967280=true then some (.tup [.val (.string (Zl s p)),.val (.string (Ze s p)),.val (.bool (ZgG s p))]) else none | _=>none)
 else if Nat.beq f 64=true then (match args with | [.val (.string s),.val (.string p)]=>some (.val (.int .i64 (Q3 s p))) | _=>none)
 else if Nat.beq f 115=true then (match args with | [.val (.string s)]=>if Nat.ble s.size 4294967280=true then some (.val (.bool (Lib.validD s.data.toList))) else none | _=>none)
 else if Nat.beq f 86=true then (match args with | [.val (.int .i64 (.ofNat n))]=>if Nat.blt n 1000000000000000000=true then some (.val (.string ⟨(ZaA 18 n).toArray⟩)) else none | _=>none)
 else if Nat.beq f 88=true then (match args with | [.list [] .none]=>some (.list [] .full) | [.list [] .full]=>some (.list [] .full) | [.list [] .seed]=>some (.list [] .full) | _=>none)
 else if Nat.beq f 92=true then (match args with | [.list [] .none]=>some (.list [] .full) | [.list [] .full]=>some (.list [] .full) | [.list [] .seed]=>some (.list [] .full) | _=>none)
 else if Nat.beq f 349=true then (match args with | [.list [] .none]=>some (.list [] .full) | [.list [] .full]=>some (.list [] .full) | [.list [] .seed]=>some (.list [] .full) | _=>none)
 else none
noncomputable def Zj4 (f:FuncId) (args:List AV):Option AV:=Bool.rec (motive:=fun _=>Option AV) none (Zfz f args) (NQ 1146749307995035755805410447651043856896077914855712658215122707206886816844725052471715258846899221823488 f)
theorem ZdY {w0:World} (hM:Vh w0) (hP:Pow10 w0) (hT:Lib.Utf8Tabs 1 2 w0) (f:FuncId) (args:List AV) (v:AV) (st:St) (h:Zj4 f args=some v):ACalls Tryz.prog w0 f args st fun r s=>r=v∧s=st:=by
 replace h:=(Gt h).2
 obtain ⟨B,Rw,L⟩:=st
 unfold Zfz at h
 split at h
 ·rename_i q;obtain rfl:=Nat.eq_of_beq_eq_true q
  split at h
  ·split at h
   ·rename_i q
    rw [Bool.and_eq_true] at q
    cases h
    refine P2 w0 B Rw L _ _ ⟨Nat.le_of_ble_eq_true q.1,ZlM q.2⟩
   ·cases h
  ·cases h
 split at h
 ·rename_i q;obtain rfl:=Nat.eq_of_beq_eq_true q
  split at h
  ·cases h;exact PG w0 B Rw L _ _
  ·cases h
 split at h
 ·rename_i q;obtain rfl:=Nat.eq_of_beq_eq_true q
  split at h
  ·split at h
   ·rename_i q;cases h;exact Zbo w0 B Rw L hM _ _ (Nat.le_of_ble_eq_true q)
   ·cases h
  ·cases h
 split at h
 ·rename_i q;obtain rfl:=Nat.eq_of_beq_eq_true q
  split at h
  ·cases h;exact IG w0 B Rw L _ _
  ·cases h
 split at h
 ·rename_i q;obtain rfl:=Nat.eq_of_beq_eq_true q
  split at h
  ·split at h
   ·rename_i q;cases h;exact OD w0 B Rw L hT _ (by have:=Nat.le_of_ble_eq_true q;unfold maxLen;omega)
   ·cases h
  ·cases h
 split at h
 ·rename_i q;obtain rfl:=Nat.eq_of_beq_eq_true q
  split at h
  ·rename_i n
   split at h
   ·rename_i q
    have q:=DZ q
    cases h
    have:=ZaD w0 B Rw L hP (n:Int) (by omega)
    have e:Lib.itoa (n:Int)=ZaA 18 n:=by
     rw [W5 18 n (by omega) (by decide)]
     unfold Lib.itoa;rw [Aa];simp
    rw [e] at this
    exact this
   ·cases h
  ·cases h
 split at h
 ·rename_i q;obtain rfl:=Nat.eq_of_beq_eq_true q
  have base:ACalls Tryz.prog w0 88 [.list [] .none] ⟨B,Rw,L⟩ fun r s=>r = .list [] .full∧s=⟨B,Rw,L⟩:=Nh w0 B Rw L [] (by decide)
  split at h
  ·cases h;exact base
  ·cases h;exact base.pub rfl
  ·cases h;exact base.pub rfl
  ·cases h
 split at h
 ·rename_i q;obtain rfl:=Nat.eq_of_beq_eq_true q
  have base:ACalls Tryz.prog w0 92 [.list [] .none] ⟨B,Rw,L⟩ fun r s=>r = .list [] .full∧s=⟨B,Rw,L⟩:=Lq w0 B Rw L [] (by decide)
  split at h
  ·cases h;exact base
  ·cases h;exact base.pub rfl
  ·cases h;exact base.pub rfl
  ·cases h
 split at h
 ·rename_i q;obtain rfl:=Nat.eq_of_beq_eq_true q
  have base:ACalls Tryz.prog w0 349 [.list [] .none] ⟨B,Rw,L⟩ fun r s=>r = .list [] .full∧s=⟨B,Rw,L⟩:=Kt w0 B Rw L [] (by decide)
  split at h
  ·cases h;exact base
  ·cases h;exact base.pub rfl
  ·cases h;exact base.pub rfl
  ·cases h
 cases h
noncomputable def Zjs:Go.Shelf.Ren:=⟨fun x=>if x=45 then 181 else x,
 fun x=>if x=23 then 60 else if x=22 then 35 else if x=3 then 3 else if x=4 then 4 else if x=0 then 0 else x,fun x=>x⟩
noncomputable def Zgp:Value := .agg #[.int .i64 0,.int .i64 0,.int .i64 0,.string ⟨#[]⟩,.slice none 0 0,.slice none 0 0,.int .i64 0,.int .i64 0,.slice none 0 0,.slice none 0 0]
theorem Zi7:DelLay Tryz.prog Zjs Tryz.f181.name 10 152 Zgp:={
  mixed:=by kernel_rfl
  nmo:=by kernel_rfl
  f45:=Tryz.func181.trans (congrArg some (by kernel_rfl))
  t0:=Tryz.underlying0
  a0:=Tryz.isAgg0
  z0:=Tryz.sizeOf0
  v0:=Tryz.zeroValue0
  t3:=Tryz.underlying3
  a3:=Tryz.isAgg3
  z3:=Tryz.sizeOf3
  v3:=Tryz.zeroValue3
  t4:=Tryz.underlying4
  a4:=Tryz.isAgg4
  z4:=Tryz.sizeOf4
  v4:=Tryz.zeroValue4
  t22:=Tryz.underlying35
  a22:=Tryz.isAgg35
  z22:=Tryz.sizeOf35
  v22:=Tryz.zeroValue35
  z23:=Tryz.sizeOf60
  v23:=Tryz.zeroValue60
  i23:=by kernel_rfl }
noncomputable def ZgF (F:Fl) (f:FuncId) (args:List AV) (st:St):Option (AV × St):=if Nat.beq f 181=true then (match args with
 | [.vec id ver 0 n,.val (.int .i64 (.ofNat i)),.val (.int .i64 (.ofNat j))]=>match st.rows[id]? with
  | some (.vec v sz cs)=>if (Nat.ble F.r id&&Nat.beq v ver&&Nat.beq sz 10&&X4 cs (n*10)&&Nat.blt i j&&Nat.ble j n)=true then some (.vec id (ver+1) 0 (i+(n-j)),{ st with rows:=st.rows.set id (.vec (ver+1) 10 (cs.take (i*10)++cs.drop (j*10))) }) else none
  | _=>none
 | _=>none) else none
theorem ZeY {w0:World} (F:Fl) (f:FuncId) (args:List AV) (st:St) (v:AV) (st':St) (h:ZgF F f args st=some (v,st')):(ACalls Tryz.prog w0 f args st fun r s=>r=v∧s=st')∧(Fits F st→Pre F st st'):=by
 unfold ZgF at h
 split at h
 rotate_left
 ·cases h
 rename_i q;obtain rfl:=Nat.eq_of_beq_eq_true q
 split at h
 rotate_left
 ·cases h
 rename_i id ver n i j
 split at h
 rotate_left
 ·cases h
 rename_i v0 sz cs hrow
 split at h
 rotate_left
 ·cases h
 rename_i q
 simp only [Bool.and_eq_true] at q
 obtain ⟨⟨⟨⟨⟨q1,q2⟩,q3⟩,c⟩,b⟩,d⟩:=q
 obtain rfl:=Nat.eq_of_beq_eq_true q2
 obtain rfl:=Nat.eq_of_beq_eq_true q3
 cases h
 refine ⟨V5 (P:=Tryz.prog) (w0:=w0) (st:=st) (i:=i) (j:=j) (n:=n) Zi7 (A2 Tryz.func181 rfl (by decide)) rfl (by decide) (by decide) hrow (LF _ _ c) (DZ b) (Nat.le_of_ble_eq_true d),fun a=>Pre.row _ a (Nat.le_of_ble_eq_true q1)⟩
noncomputable def cfgL:Cfg:={ gl:=fun _ _=>none,ext:=Zj4,exs:=ZgF,isX:=fun f=>NQ 1146749307995035755805410447651043470398282494584140561868794419693461438044247665280176239421299884032000 f,kp:=fun f=>NQ 5261245203857480215647223808 f,im:=fun f=>NQ 159454999699686663421860952481531785723171750266803201923912100394330450366104763040445232027265255588303129611862016 f,imx:=fun f g=>([(99,50),(141,50),(175,65),(138,88),(54,92),(55,92)]:List (Nat × Nat)).any (fun p=>Nat.beq p.1 f&&Nat.beq p.2 g),q:=100000,m:=0 }
theorem Y8 {w0:World} (hM:Vh w0) (hP:Pow10 w0) (hT:Lib.Utf8Tabs 1 2 w0) (k:Nat) (f:FuncId) (args:List AV) (st:St) (v:AV) (st':St) (h:HA Tryz.prog cfgL k none f args st=some (v,st')):ACalls Tryz.prog w0 f args st fun r s=>r=v∧s=st' :=
 U8 (by kernel_rfl) (fun _ _ _ h=>by cases h) (ZdY hM hP hT) ZeY k none f args st v st' h
end
set_option maxRecDepth 100000
section
noncomputable def Tf:Code→Code
 | .seq a _=>a
 | c=>c
noncomputable def CE:Code→Code
 | .seq _ b=>b
 | c=>c
theorem KF {X:SX} {k:Nat} {c:Code} {e:Env} {st:St} {e1:Env} {s1:St} {r:QR} (hc:c = .seq (Tf c) (CE c)) (h1:Jb X k (Tf c) e st=some (.normal,e1,s1)) (h2:Jb X k (CE c) e1 s1=r):Jb X (k+1) c e st=r:=by
 rw [hc]
 show ZL (Jb X k (CE c)) (Jb X k (Tf c) e st)=r
 rw [h1]
 exact h2
theorem Zg9 {P:Program} {C:Cfg} {k:Nat} {f:FuncId} {fn:Func} {c:Code} {args:List AV} {x:Exit} {e:Env} {s:St} {r:Option (AV × St)} (hext:C.ext f args=none) (hf:P.funcs[f]? = some fn) (hb:fn.body=some c) (hc:fn.name ≠ "runtime.NumGoroutine" ∧ args.length≤fn.ntmps∧fn.ntmps≤1000000)
  (h:Jb ⟨P,fn.ntmps,true,⟨0,0,0⟩,C.at f (Ie fn c),Ik (HA P C k),JF P (C.at f (Ie fn c)) (HA P C k) ⟨0,0,0⟩⟩ C.q c (AL 0 args) ⟨[],[],[]⟩=some (x,e,s)) (hx:x = .normal∨x = .ret) (ho:Q6 P C none f fn ⟨0,0,0⟩ ⟨[],[],[]⟩ e s=r):HA P C (k+1) none f args ⟨[],[],[]⟩=r:=by
 rw [HA]
 simp only [hext,hf,hb]
 rw [Ah hc]
 unfold ZX ZiB
 simp only
 rw [QY]
 unfold Un
 rw [Oa]
 have h:Qd P fn.ntmps true ⟨0,0,0⟩ (C.at f (Ie fn c)) (Ik (HA P C k)) (JF P (C.at f (Ie fn c)) (HA P C k) ⟨0,0,0⟩) C.q c (AL 0 args) ⟨[],[],[]⟩=some (x,e,s):=h
 show (match Qd P fn.ntmps true ⟨0,0,0⟩ (C.at f (Ie fn c)) (Ik (HA P C k)) (JF P (C.at f (Ie fn c)) (HA P C k) ⟨0,0,0⟩) C.q c (AL 0 args) ⟨[],[],[]⟩ with
  | some (.normal,e',s')=>Q6 P C none f fn ⟨0,0,0⟩ ⟨[],[],[]⟩ e' s'
  | some (.ret,e',s')=>Q6 P C none f fn ⟨0,0,0⟩ ⟨[],[],[]⟩ e' s'
  | _=>none)=r
 rw [h]
 rcases hx with rfl | rfl<;>exact ho
noncomputable def kC:Code:=(Tryz.f9.body).getD .skip
noncomputable def kX:SX:=⟨Tryz.prog,Tryz.f9.ntmps,true,⟨0,0,0⟩,cfgL.at 9 (Ie Tryz.f9 kC),Ik (HA Tryz.prog cfgL 59),JF Tryz.prog (cfgL.at 9 (Ie Tryz.f9 kC)) (HA Tryz.prog cfgL 59) ⟨0,0,0⟩⟩
end
set_option maxRecDepth 100000
set_option maxHeartbeats 4000000
noncomputable def kE0:Env:=[]
noncomputable def kS0:St:=⟨[],[],[]⟩
noncomputable def kE1:Env:=[(0,(true,(.val (.bool false))))]
noncomputable def kS1:St:=⟨[],[],[]⟩
noncomputable def kE2:Env:=[(1,(true,(.box 0 0))),(0,(true,(.val (.bool false))))]
noncomputable def kS2:St:=⟨[[(.val (.string ⟨#[115,97,103,97]⟩)),(Ak 10),(Ak 0),(Ak 0),(Ak 0),(Ak 0),(Ak 5),(.val (.string ⟨#[]⟩)),(Ak 9),(Ak 0),(Ak 0),(Ak 0),(.list [] .none),(.list [] .none),(.list [(.agg [(Ak 1),(.val (.string ⟨#[110]⟩)),(Ak 1),(Ak 2),(Ak 0),(Ak 9),(Ak 0),(.list [] .none),(.list [] .none),(.list [] .none),(.list [] .none)])] .none),(.list [(.agg [(Ak 9),(Ak 0),(Ak 0),(Ak 0),(.list [] .none),(.list [] .none),(.list [(.agg [(Ak 1),(.val (.string ⟨#[110]⟩)),(Ak 1),(Ak 2),(Ak 0),(Ak 99),(Ak 0),(.list [] .none),(.list [] .none),(.list [] .none),(.list [] .none)])] .none)]),(.agg [(Ak 9),(Ak 0),(Ak 0),(Ak 0),(.list [] .none),(.list [] .none),(.list [(.agg [(Ak 1),(.val (.string ⟨#[111,107]⟩)),(Ak 1),(Ak 2),(Ak 0),(Ak 9),(Ak 0),(.list [] .none),(.list [] .none),(.list [] .none),(.list [] .none)])] .none)]),(.agg [(Ak 9),(Ak 0),(Ak 0),(Ak 0),(.list [] .none),(.list [] .none),(.list [(.agg [(Ak 1),(.val (.string ⟨#[110]⟩)),(Ak 1),(Ak 2),(Ak 0),(Ak 99),(Ak 0),(.list [] .none),(.list [] .none),(.list [] .none),(.list [] .none)])] .none)]),(.agg [(Ak 9),(Ak 0),(Ak 0),(Ak 0),(.list [] .none),(.list [] .none),(.list [(.agg [(Ak 1),(.val (.string ⟨#[111,107]⟩)),(Ak 1),(Ak 2),(Ak 0),(Ak 9),(Ak 0),(.list [] .none),(.list [] .none),(.list [] .none),(.list [] .none)])] .none)])] .none),(.list [] .none),(.list [(.agg [(.val (.string ⟨#[110]⟩)),(Ak 2),(Ak 0),(.val (.string ⟨#[114,101,112,108,121,50,46,111,107]⟩)),(.list [] .none),(.list [] .none)])] .none),(.list [(.agg [(.val (.string ⟨#[115,48]⟩)),(.list [(.agg [(.val (.string ⟨#[110]⟩)),(Ak 2),(Ak 0),(.val (.string ⟨#[98,111,100,121,46,110]⟩)),(.list [] .none),(.list [] .none)])] .none)]),(.agg [(.val (.string ⟨#[115,49]⟩)),(.list [(.agg [(.val (.string ⟨#[110]⟩)),(Ak 2),(Ak 0),(.val (.string ⟨#[98,111,100,121,46,110]⟩)),(.list [] .none),(.list [] .none)])] .none)])] .none),(.list [] .none)]],[],[]⟩
noncomputable def kE3:Env:=[(2,(true,(.box 1 0))),(0,(true,(.val (.bool false)))),(1,(true,(.box 0 0)))]
noncomputable def kS3:St:=⟨[[(.val (.string ⟨#[115,97,103,97]⟩)),(Ak 10),(Ak 0),(Ak 0),(Ak 0),(Ak 0),(Ak 5),(.val (.string ⟨#[]⟩)),(Ak 9),(Ak 0),(Ak 0),(Ak 0),(.list [] .none),(.list [] .none),(.list [(.agg [(Ak 1),(.val (.string ⟨#[110]⟩)),(Ak 1),(Ak 2),(Ak 0),(Ak 9),(Ak 0),(.list [] .none),(.list [] .none),(.list [] .none),(.list [] .none)])] .none),(.list [(.agg [(Ak 9),(Ak 0),(Ak 0),(Ak 0),(.list [] .none),(.list [] .none),(.list [(.agg [(Ak 1),(.val (.string ⟨#[110]⟩)),(Ak 1),(Ak 2),(Ak 0),(Ak 99),(Ak 0),(.list [] .none),(.list [] .none),(.list [] .none),(.list [] .none)])] .none)]),(.agg [(Ak 9),(Ak 0),(Ak 0),(Ak 0),(.list [] .none),(.list [] .none),(.list [(.agg [(Ak 1),(.val (.string ⟨#[111,107]⟩)),(Ak 1),(Ak 2),(Ak 0),(Ak 9),(Ak 0),(.list [] .none),(.list [] .none),(.list [] .none),(.list [] .none)])] .none)]),(.agg [(Ak 9),(Ak 0),(Ak 0),(Ak 0),(.list [] .none),(.list [] .none),(.list [(.agg [(Ak 1),(.val (.string ⟨#[110]⟩)),(Ak 1),(Ak 2),(Ak 0),(Ak 99),(Ak 0),(.list [] .none),(.list [] .none),(.list [] .none),(.list [] .none)])] .none)]),(.agg [(Ak 9),(Ak 0),(Ak 0),(Ak 0),(.list [] .none),(.list [] .none),(.list [(.agg [(Ak 1),(.val (.string ⟨#[111,107]⟩)),(Ak 1),(Ak 2),(Ak 0),(Ak 9),(Ak 0),(.list [] .none),(.list [] .none),(.list [] .none),(.list [] .none)])] .none)])] .none),(.list [] .none),(.list [(.agg [(.val (.string ⟨#[110]⟩)),(Ak 2),(Ak 0),(.val (.string ⟨#[114,101,112,108,121,50,46,111,107]⟩)),(.list [] .none),(.list [] .none)])] .none),(.list [(.agg [(.val (.string ⟨#[115,48]⟩)),(.list [(.agg [(.val (.string ⟨#[110]⟩)),(Ak 2),(Ak 0),(.val (.string ⟨#[98,111,100,121,46,110]⟩)),(.list [] .none),(.list [] .none)])] .none)]),(.agg [(.val (.string ⟨#[115,49]⟩)),(.list [(.agg [(.val (.string ⟨#[110]⟩)),(Ak 2),(Ak 0),(.val (.string ⟨#[98,111,100,121,46,110]⟩)),(.list [] .none),(.list [] .none)])] .none)])] .none),(.list [] .none)],[(Ak 2),(Ak 0),(.list [(.agg [(Ak 2),(Ak 1),(Ak 0),(.val (.string ⟨#[]⟩)),(.list [] .none),(.list [] .none),(Ak 0),(Ak 0),(.list [(.agg [(Ak 5),(.list [(Ak 1)] .none),(Ak 1048576),(.list [(Ak 5)] .none),(Ak 9),(Ak 0),(Ak 0),(.val (.string ⟨#[]⟩)),(.list [] .none),(.list [(.agg [(.val (.string ⟨#[110]⟩)),(Ak 2),(Ak 3),(Ak 0),(.val (.string ⟨#[]⟩)),(.list [] .none),(.list [] .none)])] .none)])] .none),(.list [(.agg [(Ak 9),(Ak 0),(Ak 0),(.val (.string ⟨#[]⟩)),(.list [] .none),(.list [(.agg [(.val (.string ⟨#[110]⟩)),(Ak 2),(Ak 3),(Ak 0),(.val (.string ⟨#[]⟩)),(.list [] .none),(.list [] .none)])] .none)])] .none)])] .none),(.list [] .none),(.list [(.agg [(Ak 5),(.list [(Ak 1),(Ak 0)] .none),(.val (.string ⟨#[115,48]⟩)),(Ak 1),(.val (.bool false)),(Ak 9),(Ak 0),(Ak 0),(.val (.string ⟨#[]⟩)),(.list [] .none),(.list [(.agg [(.val (.string ⟨#[110]⟩)),(Ak 2),(Ak 3),(Ak 0),(.val (.string ⟨#[]⟩)),(.list [] .none),(.list [] .none)])] .none)])] .none),(.list [] .none),(.list [] .none)]],[],[]⟩
noncomputable def kE4:Env:=[(3,(true,(.box 2 0))),(1,(true,(.box 0 0))),(0,(true,(.val (.bool false)))),(2,(true,(.box 1 0)))]
noncomputable def kS4:St:=⟨[[(.val (.string ⟨#[115,97,103,97]⟩)),(Ak 10),(Ak 0),(Ak 0),(Ak 0),(Ak 0),(Ak 5),(.val (.string ⟨#[]⟩)),(Ak 9),(Ak 0),(Ak 0),(Ak 0),(.list [] .none),(.list [] .none),(.list [(.agg [(Ak 1),(.val (.string ⟨#[110]⟩)),(Ak 1),(Ak 2),(Ak 0),(Ak 9),(Ak 0),(.list [] .none),(.list [] .none),(.list [] .none),(.list [] .none)])] .none),(.list [(.agg [(Ak 9),(Ak 0),(Ak 0),(Ak 0),(.list [] .none),(.list [] .none),(.list [(.agg [(Ak 1),(.val (.string ⟨#[110]⟩)),(Ak 1),(Ak 2),(Ak 0),(Ak 99),(Ak 0),(.list [] .none),(.list [] .none),(.list [] .none),(.list [] .none)])] .none)]),(.agg [(Ak 9),(Ak 0),(Ak 0),(Ak 0),(.list [] .none),(.list [] .none),(.list [(.agg [(Ak 1),(.val (.string ⟨#[111,107]⟩)),(Ak 1),(Ak 2),(Ak 0),(Ak 9),(Ak 0),(.list [] .none),(.list [] .none),(.list [] .none),(.list [] .none)])] .none)]),(.agg [(Ak 9),(Ak 0),(Ak 0),(Ak 0),(.list [] .none),(.list [] .none),(.list [(.agg [(Ak 1),(.val (.string ⟨#[110]⟩)),(Ak 1),(Ak 2),(Ak 0),(Ak 99),(Ak 0),(.list [] .none),(.list [] .none),(.list [] .none),(.list [] .none)])] .none)]),(.agg [(Ak 9),(Ak 0),(Ak 0),(Ak 0),(.list [] .none),(.list [] .none),(.list [(.agg [(Ak 1),(.val (.string ⟨#[111,107]⟩)),(Ak 1),(Ak 2),(Ak 0),(Ak 9),(Ak 0),(.list [] .none),(.list [] .none),(.list [] .none),(.list [] .none)])] .none)])] .none),(.list [] .none),(.list [(.agg [(.val (.string ⟨#[110]⟩)),(Ak 2),(Ak 0),(.val (.string ⟨#[114,101,112,108,121,50,46,111,107]⟩)),(.list [] .none),(.list [] .none)])] .none),(.list [(.agg [(.val (.string ⟨#[115,48]⟩)),(.list [(.agg [(.val (.string ⟨#[110]⟩)),(Ak 2),(Ak 0),(.val (.string ⟨#[98,111,100,121,46,110]⟩)),(.list [] .none),(.list [] .none)])] .none)]),(.agg [(.val (.string ⟨#[115,49]⟩)),(.list [(.agg [(.val (.string ⟨#[110]⟩)),(Ak 2),(Ak 0),(.val (.string ⟨#[98,111,100,121,46,110]⟩)),(.list [] .none),(.list [] .none)])] .none)])] .none),(.list [] .none)],[(Ak 2),(Ak 0),(.list [(.agg [(Ak 2),(Ak 1),(Ak 0),(.val (.string ⟨#[]⟩)),(.list [] .none),(.list [] .none),(Ak 0),(Ak 0),(.list [(.agg [(Ak 5),(.list [(Ak 1)] .none),(Ak 1048576),(.list [(Ak 5)] .none),(Ak 9),(Ak 0),(Ak 0),(.val (.string ⟨#[]⟩)),(.list [] .none),(.list [(.agg [(.val (.string ⟨#[110]⟩)),(Ak 2),(Ak 3),(Ak 0),(.val (.string ⟨#[]⟩)),(.list [] .none),(.list [] .none)])] .none)])] .none),(.list [(.agg [(Ak 9),(Ak 0),(Ak 0),(.val (.string ⟨#[]⟩)),(.list [] .none),(.list [(.agg [(.val (.string ⟨#[110]⟩)),(Ak 2),(Ak 3),(Ak 0),(.val (.string ⟨#[]⟩)),(.list [] .none),(.list [] .none)])] .none)])] .none)])] .none),(.list [] .none),(.list [(.agg [(Ak 5),(.list [(Ak 1),(Ak 0)] .none),(.val (.string ⟨#[115,48]⟩)),(Ak 1),(.val (.bool false)),(Ak 9),(Ak 0),(Ak 0),(.val (.string ⟨#[]⟩)),(.list [] .none),(.list [(.agg [(.val (.string ⟨#[110]⟩)),(Ak 2),(Ak 3),(Ak 0),(.val (.string ⟨#[]⟩)),(.list [] .none),(.list [] .none)])] .none)])] .none),(.list [] .none),(.list [] .none)],[(Ak 2),(Ak 0),(.list [(.agg [(Ak 2),(Ak 1),(Ak 0),(.val (.string ⟨#[]⟩)),(.list [] .none),(.list [] .none),(Ak 1),(Ak 0),(.list [(.agg [(Ak 5),(.list [(Ak 1)] .none),(Ak 1048576),(.list [(Ak 5)] .none),(Ak 9),(Ak 0),(Ak 0),(.val (.string ⟨#[]⟩)),(.list [] .none),(.list [(.agg [(.val (.string ⟨#[110]⟩)),(Ak 2),(Ak 3),(Ak 0),(.val (.string ⟨#[]⟩)),(.list [] .none),(.list [] .none)])] .none)])] .none),(.list [(.agg [(Ak 9),(Ak 0),(Ak 0),(.val (.string ⟨#[]⟩)),(.list [] .none),(.list [(.agg [(.val (.string ⟨#[110]⟩)),(Ak 2),(Ak 3),(Ak 0),(.val (.string ⟨#[]⟩)),(.list [] .none),(.list [] .none)])] .none)]),(.agg [(Ak 9),(Ak 0),(Ak 0),(.val (.string ⟨#[]⟩)),(.list [] .none),(.list [(.agg [(.val (.string ⟨#[111,107]⟩)),(Ak 2),(Ak 1),(Ak 0),(.val (.string ⟨#[]⟩)),(.list [] .none),(.list [] .none)])] .none)]),(.agg [(Ak 9),(Ak 0),(Ak 0),(.val (.string ⟨#[]⟩)),(.list [] .none),(.list [(.agg [(.val (.string ⟨#[110]⟩)),(Ak 2),(Ak 3),(Ak 0),(.val (.string ⟨#[]⟩)),(.list [] .none),(.list [] .none)])] .none)])] .none)])] .none),(.list [] .none),(.list [(.agg [(Ak 7),(.list [(Ak 1),(Ak 0)] .none),(.val (.string ⟨#[115,49]⟩)),(Ak 2),(.val (.bool false)),(Ak 9),(Ak 0),(Ak 0),(.val (.string ⟨#[]⟩)),(.list [] .none),(.list [(.agg [(.val (.string ⟨#[110]⟩)),(Ak 2),(Ak 3),(Ak 0),(.val (.string ⟨#[]⟩)),(.list [] .none),(.list [] .none)])] .none)])] .none),(.list [] .none),(.list [] .none)]],[],[]⟩
noncomputable def kE5:Env:=[(4,(true,(.box 3 0))),(2,(true,(.box 1 0))),(0,(true,(.val (.bool false)))),(1,(true,(.box 0 0))),(3,(true,(.box 2 0)))]
noncomputable def kS5:St:=⟨[[(.val (.string ⟨#[115,97,103,97]⟩)),(Ak 10),(Ak 0),(Ak 0),(Ak 0),(Ak 0),(Ak 5),(.val (.string ⟨#[]⟩)),(Ak 9),(Ak 0),(Ak 0),(Ak 0),(.list [] .none),(.list [] .none),(.list [(.agg [(Ak 1),(.val (.string ⟨#[110]⟩)),(Ak 1),(Ak 2),(Ak 0),(Ak 9),(Ak 0),(.list [] .none),(.list [] .none),(.list [] .none),(.list [] .none)])] .none),(.list [(.agg [(Ak 9),(Ak 0),(Ak 0),(Ak 0),(.list [] .none),(.list [] .none),(.list [(.agg [(Ak 1),(.val (.string ⟨#[110]⟩)),(Ak 1),(Ak 2),(Ak 0),(Ak 99),(Ak 0),(.list [] .none),(.list [] .none),(.list [] .none),(.list [] .none)])] .none)]),(.agg [(Ak 9),(Ak 0),(Ak 0),(Ak 0),(.list [] .none),(.list [] .none),(.list [(.agg [(Ak 1),(.val (.string ⟨#[111,107]⟩)),(Ak 1),(Ak 2),(Ak 0),(Ak 9),(Ak 0),(.list [] .none),(.list [] .none),(.list [] .none),(.list [] .none)])] .none)]),(.agg [(Ak 9),(Ak 0),(Ak 0),(Ak 0),(.list [] .none),(.list [] .none),(.list [(.agg [(Ak 1),(.val (.string ⟨#[110]⟩)),(Ak 1),(Ak 2),(Ak 0),(Ak 99),(Ak 0),(.list [] .none),(.list [] .none),(.list [] .none),(.list [] .none)])] .none)]),(.agg [(Ak 9),(Ak 0),(Ak 0),(Ak 0),(.list [] .none),(.list [] .none),(.list [(.agg [(Ak 1),(.val (.string ⟨#[111,107]⟩)),(Ak 1),(Ak 2),(Ak 0),(Ak 9),(Ak 0),(.list [] .none),(.list [] .none),(.list [] .none),(.list [] .none)])] .none)])] .none),(.list [] .none),(.list [(.agg [(.val (.string ⟨#[110]⟩)),(Ak 2),(Ak 0),(.val (.string ⟨#[114,101,112,108,121,50,46,111,107]⟩)),(.list [] .none),(.list [] .none)])] .none),(.list [(.agg [(.val (.string ⟨#[115,48]⟩)),(.list [(.agg [(.val (.string ⟨#[110]⟩)),(Ak 2),(Ak 0),(.val (.string ⟨#[98,111,100,121,46,110]⟩)),(.list [] .none),(.list [] .none)])] .none)]),(.agg [(.val (.string ⟨#[115,49]⟩)),(.list [(.agg [(.val (.string ⟨#[110]⟩)),(Ak 2),(Ak 0),(.val (.string ⟨#[98,111,100,121,46,110]⟩)),(.list [] .none),(.list [] .none)])] .none)])] .none),(.list [] .none)],[(Ak 2),(Ak 0),(.list [(.agg [(Ak 2),(Ak 1),(Ak 0),(.val (.string ⟨#[]⟩)),(.list [] .none),(.list [] .none),(Ak 0),(Ak 0),(.list [(.agg [(Ak 5),(.list [(Ak 1)] .none),(Ak 1048576),(.list [(Ak 5)] .none),(Ak 9),(Ak 0),(Ak 0),(.val (.string ⟨#[]⟩)),(.list [] .none),(.list [(.agg [(.val (.string ⟨#[110]⟩)),(Ak 2),(Ak 3),(Ak 0),(.val (.string ⟨#[]⟩)),(.list [] .none),(.list [] .none)])] .none)])] .none),(.list [(.agg [(Ak 9),(Ak 0),(Ak 0),(.val (.string ⟨#[]⟩)),(.list [] .none),(.list [(.agg [(.val (.string ⟨#[110]⟩)),(Ak 2),(Ak 3),(Ak 0),(.val (.string ⟨#[]⟩)),(.list [] .none),(.list [] .none)])] .none)])] .none)])] .none),(.list [] .none),(.list [(.agg [(Ak 5),(.list [(Ak 1),(Ak 0)] .none),(.val (.string ⟨#[115,48]⟩)),(Ak 1),(.val (.bool false)),(Ak 9),(Ak 0),(Ak 0),(.val (.string ⟨#[]⟩)),(.list [] .none),(.list [(.agg [(.val (.string ⟨#[110]⟩)),(Ak 2),(Ak 3),(Ak 0),(.val (.string ⟨#[]⟩)),(.list [] .none),(.list [] .none)])] .none)])] .none),(.list [] .none),(.list [] .none)],[(Ak 2),(Ak 0),(.list [(.agg [(Ak 2),(Ak 1),(Ak 0),(.val (.string ⟨#[]⟩)),(.list [] .none),(.list [] .none),(Ak 1),(Ak 0),(.list [(.agg [(Ak 5),(.list [(Ak 1)] .none),(Ak 1048576),(.list [(Ak 5)] .none),(Ak 9),(Ak 0),(Ak 0),(.val (.string ⟨#[]⟩)),(.list [] .none),(.list [(.agg [(.val (.string ⟨#[110]⟩)),(Ak 2),(Ak 3),(Ak 0),(.val (.string ⟨#[]⟩)),(.list [] .none),(.list [] .none)])] .none)])] .none),(.list [(.agg [(Ak 9),(Ak 0),(Ak 0),(.val (.string ⟨#[]⟩)),(.list [] .none),(.list [(.agg [(.val (.string ⟨#[110]⟩)),(Ak 2),(Ak 3),(Ak 0),(.val (.string ⟨#[]⟩)),(.list [] .none),(.list [] .none)])] .none)]),(.agg [(Ak 9),(Ak 0),(Ak 0),(.val (.string ⟨#[]⟩)),(.list [] .none),(.list [(.agg [(.val (.string ⟨#[111,107]⟩)),(Ak 2),(Ak 1),(Ak 0),(.val (.string ⟨#[]⟩)),(.list [] .none),(.list [] .none)])] .none)]),(.agg [(Ak 9),(Ak 0),(Ak 0),(.val (.string ⟨#[]⟩)),(.list [] .none),(.list [(.agg [(.val (.string ⟨#[110]⟩)),(Ak 2),(Ak 3),(Ak 0),(.val (.string ⟨#[]⟩)),(.list [] .none),(.list [] .none)])] .none)])] .none)])] .none),(.list [] .none),(.list [(.agg [(Ak 7),(.list [(Ak 1),(Ak 0)] .none),(.val (.string ⟨#[115,49]⟩)),(Ak 2),(.val (.bool false)),(Ak 9),(Ak 0),(Ak 0),(.val (.string ⟨#[]⟩)),(.list [] .none),(.list [(.agg [(.val (.string ⟨#[110]⟩)),(Ak 2),(Ak 3),(Ak 0),(.val (.string ⟨#[]⟩)),(.list [] .none),(.list [] .none)])] .none)])] .none),(.list [] .none),(.list [] .none)],[(Ak 2),(Ak 0),(.list [(.agg [(Ak 2),(Ak 1),(Ak 0),(.val (.string ⟨#[]⟩)),(.list [] .none),(.list [] .none),(Ak 2),(Ak 0),(.list [(.agg [(Ak 5),(.list [(Ak 1)] .none),(Ak 1048576),(.list [(Ak 5)] .none),(Ak 9),(Ak 0),(Ak 0),(.val (.string ⟨#[]⟩)),(.list [] .none),(.list [(.agg [(.val (.string ⟨#[110]⟩)),(Ak 2),(Ak 3),(Ak 0),(.val (.string ⟨#[]⟩)),(.list [] .none),(.list [] .none)])] .none)])] .none),(.list [(.agg [(Ak 9),(Ak 0),(Ak 0),(.val (.string ⟨#[]⟩)),(.list [] .none),(.list [(.agg [(.val (.string ⟨#[110]⟩)),(Ak 2),(Ak 3),(Ak 0),(.val (.string ⟨#[]⟩)),(.list [] .none),(.list [] .none)])] .none)]),(.agg [(Ak 9),(Ak 0),(Ak 0),(.val (.string ⟨#[]⟩)),(.list [] .none),(.list [(.agg [(.val (.string ⟨#[111,107]⟩)),(Ak 2),(Ak 1),(Ak 0),(.val (.string ⟨#[]⟩)),(.list [] .none),(.list [] .none)])] .none)]),(.agg [(Ak 9),(Ak 0),(Ak 0),(.val (.string ⟨#[]⟩)),(.list [] .none),(.list [(.agg [(.val (.string ⟨#[110]⟩)),(Ak 2),(Ak 3),(Ak 0),(.val (.string ⟨#[]⟩)),(.list [] .none),(.list [] .none)])] .none)])] .none)])] .none),(.list [] .none),(.list [(.agg [(Ak 9),(.list [(Ak 1),(Ak 0)] .none),(.val (.string ⟨#[115,48]⟩)),(Ak 1),(.val (.bool true)),(Ak 9),(Ak 0),(Ak 0),(.val (.string ⟨#[]⟩)),(.list [] .none),(.list [(.agg [(.val (.string ⟨#[110]⟩)),(Ak 2),(Ak 3),(Ak 0),(.val (.string ⟨#[]⟩)),(.list [] .none),(.list [] .none)])] .none)])] .none),(.list [] .none),(.list [] .none)]],[],[]⟩
noncomputable def kE6:Env:=[(5,(true,(.box 4 0))),(3,(true,(.box 2 0))),(1,(true,(.box 0 0))),(0,(true,(.val (.bool false)))),(2,(true,(.box 1 0))),(4,(true,(.box 3 0)))]
noncomputable def kS6:St:=⟨[[(.val (.string ⟨#[115,97,103,97]⟩)),(Ak 10),(Ak 0),(Ak 0),(Ak 0),(Ak 0),(Ak 5),(.val (.string ⟨#[]⟩)),(Ak 9),(Ak 0),(Ak 0),(Ak 0),(.list [] .none),(.list [] .none),(.list [(.agg [(Ak 1),(.val (.string ⟨#[110]⟩)),(Ak 1),(Ak 2),(Ak 0),(Ak 9),(Ak 0),(.list [] .none),(.list [] .none),(.list [] .none),(.list [] .none)])] .none),(.list [(.agg [(Ak 9),(Ak 0),(Ak 0),(Ak 0),(.list [] .none),(.list [] .none),(.list [(.agg [(Ak 1),(.val (.string ⟨#[110]⟩)),(Ak 1),(Ak 2),(Ak 0),(Ak 99),(Ak 0),(.list [] .none),(.list [] .none),(.list [] .none),(.list [] .none)])] .none)]),(.agg [(Ak 9),(Ak 0),(Ak 0),(Ak 0),(.list [] .none),(.list [] .none),(.list [(.agg [(Ak 1),(.val (.string ⟨#[111,107]⟩)),(Ak 1),(Ak 2),(Ak 0),(Ak 9),(Ak 0),(.list [] .none),(.list [] .none),(.list [] .none),(.list [] .none)])] .none)]),(.agg [(Ak 9),(Ak 0),(Ak 0),(Ak 0),(.list [] .none),(.list [] .none),(.list [(.agg [(Ak 1),(.val (.string ⟨#[110]⟩)),(Ak 1),(Ak 2),(Ak 0),(Ak 99),(Ak 0),(.list [] .none),(.list [] .none),(.list [] .none),(.list [] .none)])] .none)]),(.agg [(Ak 9),(Ak 0),(Ak 0),(Ak 0),(.list [] .none),(.list [] .none),(.list [(.agg [(Ak 1),(.val (.string ⟨#[111,107]⟩)),(Ak 1),(Ak 2),(Ak 0),(Ak 9),(Ak 0),(.list [] .none),(.list [] .none),(.list [] .none),(.list [] .none)])] .none)])] .none),(.list [] .none),(.list [(.agg [(.val (.string ⟨#[110]⟩)),(Ak 2),(Ak 0),(.val (.string ⟨#[114,101,112,108,121,50,46,111,107]⟩)),(.list [] .none),(.list [] .none)])] .none),(.list [(.agg [(.val (.string ⟨#[115,48]⟩)),(.list [(.agg [(.val (.string ⟨#[110]⟩)),(Ak 2),(Ak 0),(.val (.string ⟨#[98,111,100,121,46,110]⟩)),(.list [] .none),(.list [] .none)])] .none)]),(.agg [(.val (.string ⟨#[115,49]⟩)),(.list [(.agg [(.val (.string ⟨#[110]⟩)),(Ak 2),(Ak 0),(.val (.string ⟨#[98,111,100,121,46,110]⟩)),(.list [] .none),(.list [] .none)])] .none)])] .none),(.list [] .none)],[(Ak 2),(Ak 0),(.list [(.agg [(Ak 2),(Ak 1),(Ak 0),(.val (.string ⟨#[]⟩)),(.list [] .none),(.list [] .none),(Ak 0),(Ak 0),(.list [(.agg [(Ak 5),(.list [(Ak 1)] .none),(Ak 1048576),(.list [(Ak 5)] .none),(Ak 9),(Ak 0),(Ak 0),(.val (.string ⟨#[]⟩)),(.list [] .none),(.list [(.agg [(.val (.string ⟨#[110]⟩)),(Ak 2),(Ak 3),(Ak 0),(.val (.string ⟨#[]⟩)),(.list [] .none),(.list [] .none)])] .none)])] .none),(.list [(.agg [(Ak 9),(Ak 0),(Ak 0),(.val (.string ⟨#[]⟩)),(.list [] .none),(.list [(.agg [(.val (.string ⟨#[110]⟩)),(Ak 2),(Ak 3),(Ak 0),(.val (.string ⟨#[]⟩)),(.list [] .none),(.list [] .none)])] .none)])] .none)])] .none),(.list [] .none),(.list [(.agg [(Ak 5),(.list [(Ak 1),(Ak 0)] .none),(.val (.string ⟨#[115,48]⟩)),(Ak 1),(.val (.bool false)),(Ak 9),(Ak 0),(Ak 0),(.val (.string ⟨#[]⟩)),(.list [] .none),(.list [(.agg [(.val (.string ⟨#[110]⟩)),(Ak 2),(Ak 3),(Ak 0),(.val (.string ⟨#[]⟩)),(.list [] .none),(.list [] .none)])] .none)])] .none),(.list [] .none),(.list [] .none)],[(Ak 2),(Ak 0),(.list [(.agg [(Ak 2),(Ak 1),(Ak 0),(.val (.string ⟨#[]⟩)),(.list [] .none),(.list [] .none),(Ak 1),(Ak 0),(.list [(.agg [(Ak 5),(.list [(Ak 1)] .none),(Ak 1048576),(.list [(Ak 5)] .none),(Ak 9),(Ak 0),(Ak 0),(.val (.string ⟨#[]⟩)),(.list [] .none),(.list [(.agg [(.val (.string ⟨#[110]⟩)),(Ak 2),(Ak 3),(Ak 0),(.val (.string ⟨#[]⟩)),(.list [] .none),(.list [] .none)])] .none)])] .none),(.list [(.agg [(Ak 9),(Ak 0),(Ak 0),(.val (.string ⟨#[]⟩)),(.list [] .none),(.list [(.agg [(.val (.string ⟨#[110]⟩)),(Ak 2),(Ak 3),(Ak 0),(.val (.string ⟨#[]⟩)),(.list [] .none),(.list [] .none)])] .none)]),(.agg [(Ak 9),(Ak 0),(Ak 0),(.val (.string ⟨#[]⟩)),(.list [] .none),(.list [(.agg [(.val (.string ⟨#[111,107]⟩)),(Ak 2),(Ak 1),(Ak 0),(.val (.string ⟨#[]⟩)),(.list [] .none),(.list [] .none)])] .none)]),(.agg [(Ak 9),(Ak 0),(Ak 0),(.val (.string ⟨#[]⟩)),(.list [] .none),(.list [(.agg [(.val (.string ⟨#[110]⟩)),(Ak 2),(Ak 3),(Ak 0),(.val (.string ⟨#[]⟩)),(.list [] .none),(.list [] .none)])] .none)])] .none)])] .none),(.list [] .none),(.list [(.agg [(Ak 7),(.list [(Ak 1),(Ak 0)] .none),(.val (.string ⟨#[115,49]⟩)),(Ak 2),(.val (.bool false)),(Ak 9),(Ak 0),(Ak 0),(.val (.string ⟨#[]⟩)),(.list [] .none),(.list [(.agg [(.val (.string ⟨#[110]⟩)),(Ak 2),(Ak 3),(Ak 0),(.val (.string ⟨#[]⟩)),(.list [] .none),(.list [] .none)])] .none)])] .none),(.list [] .none),(.list [] .none)],[(Ak 2),(Ak 0),(.list [(.agg [(Ak 2),(Ak 1),(Ak 0),(.val (.string ⟨#[]⟩)),(.list [] .none),(.list [] .none),(Ak 2),(Ak 0),(.list [(.agg [(Ak 5),(.list [(Ak 1)] .none),(Ak 1048576),(.list [(Ak 5)] .none),(Ak 9),(Ak 0),(Ak 0),(.val (.string ⟨#[]⟩)),(.list [] .none),(.list [(.agg [(.val (.string ⟨#[110]⟩)),(Ak 2),(Ak 3),(Ak 0),(.val (.string ⟨#[]⟩)),(.list [] .none),(.list [] .none)])] .none)])] .none),(.list [(.agg [(Ak 9),(Ak 0),(Ak 0),(.val (.string ⟨#[]⟩)),(.list [] .none),(.list [(.agg [(.val (.string ⟨#[110]⟩)),(Ak 2),(Ak 3),(Ak 0),(.val (.string ⟨#[]⟩)),(.list [] .none),(.list [] .none)])] .none)]),(.agg [(Ak 9),(Ak 0),(Ak 0),(.val (.string ⟨#[]⟩)),(.list [] .none),(.list [(.agg [(.val (.string ⟨#[111,107]⟩)),(Ak 2),(Ak 1),(Ak 0),(.val (.string ⟨#[]⟩)),(.list [] .none),(.list [] .none)])] .none)]),(.agg [(Ak 9),(Ak 0),(Ak 0),(.val (.string ⟨#[]⟩)),(.list [] .none),(.list [(.agg [(.val (.string ⟨#[110]⟩)),(Ak 2),(Ak 3),(Ak 0),(.val (.string ⟨#[]⟩)),(.list [] .none),(.list [] .none)])] .none)])] .none)])] .none),(.list [] .none),(.list [(.agg [(Ak 9),(.list [(Ak 1),(Ak 0)] .none),(.val (.string ⟨#[115,48]⟩)),(Ak 1),(.val (.bool true)),(Ak 9),(Ak 0),(Ak 0),(.val (.string ⟨#[]⟩)),(.list [] .none),(.list [(.agg [(.val (.string ⟨#[110]⟩)),(Ak 2),(Ak 3),(Ak 0),(.val (.string ⟨#[]⟩)),(.list [] .none),(.list [] .none)])] .none)])] .none),(.list [] .none),(.list [] .none)],[(Ak 2),(Ak 0),(.list [] .none),(.list [(.agg [(Ak 0),(Ak 9),(.list [(Ak 1),(Ak 0)] .none),(Ak 1048576),(.list [(Ak 5)] .none),(Ak 9),(Ak 0),(Ak 0),(.val (.string ⟨#[]⟩)),(.list [] .none),(.list [(.agg [(.val (.string ⟨#[110]⟩)),(Ak 2),(Ak 4),(Ak 0),(.val (.string ⟨#[]⟩)),(.list [] .none),(.list [] .none)])] .none)])] .none),(.list [] .none),(.list [(.agg [(Ak 5),(.list [(Ak 1)] .none),(Ak 1),(.val (.string ⟨#[115,97,103,97]⟩)),(.list [(.agg [(Ak 9),(.list [(Ak 1),(Ak 0)] .none)])] .none),(.val (.string ⟨#[]⟩))])] .none),(.list [] .none)]],[],[]⟩
noncomputable def kE7:Env:=[(0,(true,(.val (.bool true)))),(5,(true,(.box 4 0))),(3,(true,(.box 2 0))),(1,(true,(.box 0 0))),(0,(true,(.val (.bool false)))),(2,(true,(.box 1 0))),(4,(true,(.box 3 0)))]
noncomputable def kS7:St:=⟨[[(.val (.string ⟨#[115,97,103,97]⟩)),(Ak 10),(Ak 0),(Ak 0),(Ak 0),(Ak 0),(Ak 5),(.val (.string ⟨#[]⟩)),(Ak 9),(Ak 0),(Ak 0),(Ak 0),(.list [] .none),(.list [] .none),(.list [(.agg [(Ak 1),(.val (.string ⟨#[110]⟩)),(Ak 1),(Ak 2),(Ak 0),(Ak 9),(Ak 0),(.list [] .none),(.list [] .none),(.list [] .none),(.list [] .none)])] .none),(.list [(.agg [(Ak 9),(Ak 0),(Ak 0),(Ak 0),(.list [] .none),(.list [] .none),(.list [(.agg [(Ak 1),(.val (.string ⟨#[110]⟩)),(Ak 1),(Ak 2),(Ak 0),(Ak 99),(Ak 0),(.list [] .none),(.list [] .none),(.list [] .none),(.list [] .none)])] .none)]),(.agg [(Ak 9),(Ak 0),(Ak 0),(Ak 0),(.list [] .none),(.list [] .none),(.list [(.agg [(Ak 1),(.val (.string ⟨#[111,107]⟩)),(Ak 1),(Ak 2),(Ak 0),(Ak 9),(Ak 0),(.list [] .none),(.list [] .none),(.list [] .none),(.list [] .none)])] .none)]),(.agg [(Ak 9),(Ak 0),(Ak 0),(Ak 0),(.list [] .none),(.list [] .none),(.list [(.agg [(Ak 1),(.val (.string ⟨#[110]⟩)),(Ak 1),(Ak 2),(Ak 0),(Ak 99),(Ak 0),(.list [] .none),(.list [] .none),(.list [] .none),(.list [] .none)])] .none)]),(.agg [(Ak 9),(Ak 0),(Ak 0),(Ak 0),(.list [] .none),(.list [] .none),(.list [(.agg [(Ak 1),(.val (.string ⟨#[111,107]⟩)),(Ak 1),(Ak 2),(Ak 0),(Ak 9),(Ak 0),(.list [] .none),(.list [] .none),(.list [] .none),(.list [] .none)])] .none)])] .none),(.list [] .none),(.list [(.agg [(.val (.string ⟨#[110]⟩)),(Ak 2),(Ak 0),(.val (.string ⟨#[114,101,112,108,121,50,46,111,107]⟩)),(.list [] .none),(.list [] .none)])] .none),(.list [(.agg [(.val (.string ⟨#[115,48]⟩)),(.list [(.agg [(.val (.string ⟨#[110]⟩)),(Ak 2),(Ak 0),(.val (.string ⟨#[98,111,100,121,46,110]⟩)),(.list [] .none),(.list [] .none)])] .none)]),(.agg [(.val (.string ⟨#[115,49]⟩)),(.list [(.agg [(.val (.string ⟨#[110]⟩)),(Ak 2),(Ak 0),(.val (.string ⟨#[98,111,100,121,46,110]⟩)),(.list [] .none),(.list [] .none)])] .none)])] .none),(.list [] .none)],[(Ak 2),(Ak 0),(.list [(.agg [(Ak 2),(Ak 1),(Ak 0),(.val (.string ⟨#[]⟩)),(.list [] .none),(.list [] .none),(Ak 0),(Ak 0),(.list [(.agg [(Ak 5),(.list [(Ak 1)] .none),(Ak 1048576),(.list [(Ak 5)] .none),(Ak 9),(Ak 0),(Ak 0),(.val (.string ⟨#[]⟩)),(.list [] .none),(.list [(.agg [(.val (.string ⟨#[110]⟩)),(Ak 2),(Ak 3),(Ak 0),(.val (.string ⟨#[]⟩)),(.list [] .none),(.list [] .none)])] .none)])] .none),(.list [(.agg [(Ak 9),(Ak 0),(Ak 0),(.val (.string ⟨#[]⟩)),(.list [] .none),(.list [(.agg [(.val (.string ⟨#[110]⟩)),(Ak 2),(Ak 3),(Ak 0),(.val (.string ⟨#[]⟩)),(.list [] .none),(.list [] .none)])] .none)])] .none)])] .none),(.list [] .none),(.list [(.agg [(Ak 5),(.list [(Ak 1),(Ak 0)] .none),(.val (.string ⟨#[115,48]⟩)),(Ak 1),(.val (.bool false)),(Ak 9),(Ak 0),(Ak 0),(.val (.string ⟨#[]⟩)),(.list [] .none),(.list [(.agg [(.val (.string ⟨#[110]⟩)),(Ak 2),(Ak 3),(Ak 0),(.val (.string ⟨#[]⟩)),(.list [] .none),(.list [] .none)])] .none)])] .none),(.list [] .none),(.list [] .none)],[(Ak 2),(Ak 0),(.list [(.agg [(Ak 2),(Ak 1),(Ak 0),(.val (.string ⟨#[]⟩)),(.list [] .none),(.list [] .none),(Ak 1),(Ak 0),(.list [(.agg [(Ak 5),(.list [(Ak 1)] .none),(Ak 1048576),(.list [(Ak 5)] .none),(Ak 9),(Ak 0),(Ak 0),(.val (.string ⟨#[]⟩)),(.list [] .none),(.list [(.agg [(.val (.string ⟨#[110]⟩)),(Ak 2),(Ak 3),(Ak 0),(.val (.string ⟨#[]⟩)),(.list [] .none),(.list [] .none)])] .none)])] .none),(.list [(.agg [(Ak 9),(Ak 0),(Ak 0),(.val (.string ⟨#[]⟩)),(.list [] .none),(.list [(.agg [(.val (.string ⟨#[110]⟩)),(Ak 2),(Ak 3),(Ak 0),(.val (.string ⟨#[]⟩)),(.list [] .none),(.list [] .none)])] .none)]),(.agg [(Ak 9),(Ak 0),(Ak 0),(.val (.string ⟨#[]⟩)),(.list [] .none),(.list [(.agg [(.val (.string ⟨#[111,107]⟩)),(Ak 2),(Ak 1),(Ak 0),(.val (.string ⟨#[]⟩)),(.list [] .none),(.list [] .none)])] .none)]),(.agg [(Ak 9),(Ak 0),(Ak 0),(.val (.string ⟨#[]⟩)),(.list [] .none),(.list [(.agg [(.val (.string ⟨#[110]⟩)),(Ak 2),(Ak 3),(Ak 0),(.val (.string ⟨#[]⟩)),(.list [] .none),(.list [] .none)])] .none)])] .none)])] .none),(.list [] .none),(.list [(.agg [(Ak 7),(.list [(Ak 1),(Ak 0)] .none),(.val (.string ⟨#[115,49]⟩)),(Ak 2),(.val (.bool false)),(Ak 9),(Ak 0),(Ak 0),(.val (.string ⟨#[]⟩)),(.list [] .none),(.list [(.agg [(.val (.string ⟨#[110]⟩)),(Ak 2),(Ak 3),(Ak 0),(.val (.string ⟨#[]⟩)),(.list [] .none),(.list [] .none)])] .none)])] .none),(.list [] .none),(.list [] .none)],[(Ak 2),(Ak 0),(.list [(.agg [(Ak 2),(Ak 1),(Ak 0),(.val (.string ⟨#[]⟩)),(.list [] .none),(.list [] .none),(Ak 2),(Ak 0),(.list [(.agg [(Ak 5),(.list [(Ak 1)] .none),(Ak 1048576),(.list [(Ak 5)] .none),(Ak 9),(Ak 0),(Ak 0),(.val (.string ⟨#[]⟩)),(.list [] .none),(.list [(.agg [(.val (.string ⟨#[110]⟩)),(Ak 2),(Ak 3),(Ak 0),(.val (.string ⟨#[]⟩)),(.list [] .none),(.list [] .none)])] .none)])] .none),(.list [(.agg [(Ak 9),(Ak 0),(Ak 0),(.val (.string ⟨#[]⟩)),(.list [] .none),(.list [(.agg [(.val (.string ⟨#[110]⟩)),(Ak 2),(Ak 3),(Ak 0),(.val (.string ⟨#[]⟩)),(.list [] .none),(.list [] .none)])] .none)]),(.agg [(Ak 9),(Ak 0),(Ak 0),(.val (.string ⟨#[]⟩)),(.list [] .none),(.list [(.agg [(.val (.string ⟨#[111,107]⟩)),(Ak 2),(Ak 1),(Ak 0),(.val (.string ⟨#[]⟩)),(.list [] .none),(.list [] .none)])] .none)]),(.agg [(Ak 9),(Ak 0),(Ak 0),(.val (.string ⟨#[]⟩)),(.list [] .none),(.list [(.agg [(.val (.string ⟨#[110]⟩)),(Ak 2),(Ak 3),(Ak 0),(.val (.string ⟨#[]⟩)),(.list [] .none),(.list [] .none)])] .none)])] .none)])] .none),(.list [] .none),(.list [(.agg [(Ak 9),(.list [(Ak 1),(Ak 0)] .none),(.val (.string ⟨#[115,48]⟩)),(Ak 1),(.val (.bool true)),(Ak 9),(Ak 0),(Ak 0),(.val (.string ⟨#[]⟩)),(.list [] .none),(.list [(.agg [(.val (.string ⟨#[110]⟩)),(Ak 2),(Ak 3),(Ak 0),(.val (.string ⟨#[]⟩)),(.list [] .none),(.list [] .none)])] .none)])] .none),(.list [] .none),(.list [] .none)],[(Ak 2),(Ak 0),(.list [] .none),(.list [(.agg [(Ak 0),(Ak 9),(.list [(Ak 1),(Ak 0)] .none),(Ak 1048576),(.list [(Ak 5)] .none),(Ak 9),(Ak 0),(Ak 0),(.val (.string ⟨#[]⟩)),(.list [] .none),(.list [(.agg [(.val (.string ⟨#[110]⟩)),(Ak 2),(Ak 4),(Ak 0),(.val (.string ⟨#[]⟩)),(.list [] .none),(.list [] .none)])] .none)])] .none),(.list [] .none),(.list [(.agg [(Ak 5),(.list [(Ak 1)] .none),(Ak 1),(.val (.string ⟨#[115,97,103,97]⟩)),(.list [(.agg [(Ak 9),(.list [(Ak 1),(Ak 0)] .none)])] .none),(.val (.string ⟨#[]⟩))])] .none),(.list [] .none)]],[(.vec 0 1 [(Ak 1),(Ak 0)])],[]⟩
set_option maxRecDepth 100000
set_option maxHeartbeats 4000000
theorem kP0:Jb kX 99999 (Tf (kC)) kE0 kS0=some (.normal,kE1,kS1):=by kernel_rfl
theorem kP1:Jb kX 99998 (Tf (CE (kC))) kE1 kS1=some (.normal,kE2,kS2):=by kernel_rfl
theorem kP6:Jb kX 99993 (Tf (CE (CE (CE (CE (CE (CE (kC)))))))) kE6 kS6=some (.normal,kE7,kS7):=by kernel_rfl
end Go.Proofs.YtcdnijfbfdnjlaaGreatDoor
