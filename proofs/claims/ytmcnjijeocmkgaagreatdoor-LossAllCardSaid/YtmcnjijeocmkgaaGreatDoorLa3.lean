/-
  Part 3 of the proof: rules and walks that the claim's last text uses.
-/
import Derived.Ground.Names2Prog
import Derived.Ground.NamesProg
import Derived.Ground.SlgfProg
import Derived.Ground.SlgnProg
import Derived.Ground.SlsfProg
import Derived.Lib.AppendZeros
import Derived.Lib.Bytealg
import Derived.Shelf.LaysC
import Derived.Shelf.LaysM
import Derived.Shelf.SlSortCmp.NoneTotal
import Derived.Shelf.SlSortCmp.WholeK
import Derived.Shelf.SlicesE.Clone
import Derived.Shelf.Small.Bits
import Derived.Shelf.Small.Strs
import Derived.Shelf.Small.Utf8
import Derived.Shelf.Sort.Plain
import Derived.Shelf.Strconv.Atoi
import Derived.Shelf.Strconv.AtoiAll
import Derived.Shelf.Strconv.AtoiErrFast
import Derived.Shelf.Strconv.AtoiFail
import Derived.Shelf.Strconv.AtoiInnerAll
import Derived.Shelf.Strconv.AtoiLong
import Derived.Shelf.Strconv.Clone
import Derived.Shelf.Strconv.Itoa0
import Derived.Shelf.Strconv.Itoa1
import Derived.Shelf.Strconv.Itoa2
import Derived.Shelf.Strconv.Itoa3
import Derived.Shelf.Strconv.Lower
import Derived.Shelf.Strconv.ParseInt10
import Derived.Shelf.Strconv.ParseIntEmpty
import Derived.Shelf.Strconv.ParseUint10
import Derived.Shelf.Strconv.ParseUint10Any
import Derived.Shelf.Strconv.ParseUint10Empty
import Derived.Shelf.Strconv.RangeError
import Derived.Shelf.Strconv.SyntaxError
import Derived.Shelf.Strconv.ToError
import Derived.Shelf.Strconv.ToErrorRange
import Derived.Shelf.Strings.AsciiSet
import Derived.Shelf.Strings.Cut
import Derived.Shelf.Strings.IndexAny
import Derived.Shelf.Strings.IndexAnyAll
import Derived.Shelf.Strings.Repeat
import Derived.Shelf.Strings.Runes
import Derived.Shelf.Strings.Search1
import Derived.Shelf.Strings.Search2
import Derived.Shelf.Strings.Shaped
import Derived.Shelf.Unicode.DecodeSlow
import Derived.Shelf.Unicode.ValidAny
import Derived.Sort.Lot0
import Derived.Test.YtmcnjijeocmkgaaGreatDoorProg
import Derived.Test.YtmcnjijeocmkgaaGreatDoorRows
import Derived.Test.YtmcnjijeocmkgaaGreatDoorLa2
set_option linter.unusedSimpArgs false
set_option linter.unusedVariables false
set_option maxRecDepth 100000
set_option maxHeartbeats 4000000
namespace Go.Ev
open Go Go.RowKit
def TE (acc:List Nat) (o:Oper):Nat:=o.after.toList.foldl (fun m e=>if Region.binds .any e then m ||| 2 ^ e.on ||| acc.getD e.on 0 else m) 0
def GL:List Oper→List Nat→List Nat
 | [],acc=>acc
 | o::os,acc=>GL os (acc++[TE acc o])
def Np (ms:List Nat) (i j:Nat):Bool:=(ms.getD i 0).testBit j
theorem XK (acc:List Nat) (j:Nat):∀ (es:List Edge) (m:Nat),(es.foldl (fun m e=>if Region.binds .any e then m ||| 2 ^ e.on ||| acc.getD e.on 0 else m) m).testBit j=true→m.testBit j=true∨∃ e∈es,Region.binds .any e=true∧(e.on=j∨Np acc e.on j=true)
 | [],m,h => .inl h
 | e::es,m,h=>by
  simp only [List.foldl_cons] at h
  rcases XK acc j es _ h with h | ⟨e',h1,h2⟩
  ·by_cases c:Region.binds .any e=true
   ·rw [Ai c] at h
    simp only [Nat.testBit_or,Bool.or_eq_true,Nat.testBit_two_pow,decide_eq_true_eq] at h
    rcases h with (h | h) | h
    ·exact .inl h
    ·exact .inr ⟨e,List.mem_cons_self .., c,.inl h⟩
    ·exact .inr ⟨e,List.mem_cons_self .., c,.inr h⟩
   ·rw [Aj c] at h;exact .inl h
  ·exact .inr ⟨e',List.mem_cons_of_mem _ h1,h2⟩
theorem SO (acc acc':List Nat):∀ (es:List Edge) (m:Nat),(∀ e∈es,Region.binds .any e=true→acc.getD e.on 0=acc'.getD e.on 0) →
  es.foldl (fun m e=>if Region.binds .any e then m ||| 2 ^ e.on ||| acc.getD e.on 0 else m) m=es.foldl (fun m e=>if Region.binds .any e then m ||| 2 ^ e.on ||| acc'.getD e.on 0 else m) m
 | [],_,_=>rfl
 | e::es,m,h=>by
  simp only [List.foldl_cons]
  have:(if Region.binds .any e=true then m ||| 2 ^ e.on ||| acc.getD e.on 0 else m)=if Region.binds .any e=true then m ||| 2 ^ e.on ||| acc'.getD e.on 0 else m:=by
   by_cases c:Region.binds .any e=true
   ·rw [Ai c,Ai c,h e (List.mem_cons_self ..) c]
   ·rw [Aj c,Aj c]
  rw [this]
  exact SO acc acc' es _ fun b a=>h b (List.mem_cons_of_mem _ a)
theorem P0:∀ (os:List Oper) (acc:List Nat) (i:Nat),i<acc.length→(GL os acc).getD i 0=acc.getD i 0
 | [],_,_,_=>rfl
 | o::os,acc,i,h=>by
  rw [GL,P0 os _ i (by simp;omega),List.getD_eq_getElem?_getD,List.getElem?_append_left h,List.getD_eq_getElem?_getD]
theorem Xn:∀ (os:List Oper) (acc:List Nat) (k:Nat) (o:Oper),os[k]? = some o→(∀ (k:Nat) (o:Oper),os[k]? = some o→∀ e∈o.after,Region.binds .any e=true→e.on<acc.length+k)→(GL os acc).getD (acc.length+k) 0=TE (GL os acc) o
 | [],_,_,_,h,_=>by simp at h
 | o'::os,acc,0,o,h,hb=>by
  simp only [List.getElem?_cons_zero,Option.some.injEq] at h
  subst h
  rw [GL,P0 os _ _ (by simp)]
  have c:(acc++[TE acc o']).getD (acc.length+0) 0=TE acc o':=by simp [List.getD_eq_getElem?_getD]
  rw [c]
  refine SO _ _ _ _ fun e b a=>?_
  have:=hb 0 o' rfl e (by simpa using b) a
  rw [P0 os _ _ (by simp;omega),List.getD_eq_getElem?_getD,List.getD_eq_getElem?_getD,List.getElem?_append_left (by omega)]
 | o'::os,acc,k+1,o,h,hb=>by
  rw [GL]
  have:=Xn os (acc++[TE acc o']) k o (by simpa using h) (fun k o h e b a=>by
   have:=hb (k+1) o (by simpa using h) e b a
   simp;omega)
  rw [List.length_append,List.length_singleton,Nat.add_assoc,Nat.add_comm 1 k] at this
  exact this
def NS (ef:List Nat) (ms:List Nat) (i j:Nat):Bool :=
 if ef.contains i then ef.contains j||Np ms i j else if ef.contains j then Np ms j i else decide (j<i)&&Np ms i j
def Ro (ef:List Nat) (ms:List Nat) (i j:Nat):Bool :=
 if ef.contains i then ef.contains j||Np ms i j else ef.contains j&&Np ms j i
def KY (l:List Oper) (ef:List Nat):Bool:=(ef.all fun i=>decide (i<l.length)) &&
 (List.range l.length).all fun i=>match l[i]? with
  | some o=>(o.after.toList.all fun e => !Region.binds .any e||decide (e.on<i))&&(List.range l.length).all fun j=>match l[j]? with
   | some p=>match p.dst with
    | some s=>(decide (i=j)||o.dst != some s||Ro ef (GL l []) i j)&&(!(looks l o).contains s||NS ef (GL l []) i j)
    | none=>true
   | none=>true
  | none=>true
theorem Ea {l:List Oper} {ef:List Nat} (hB:KY l ef=true) {i:Nat} {o:Oper} (ho:l[i]? = some o) :
  (∀ e∈o.after,Region.binds .any e=true→e.on<i)∧∀ j p s,l[j]? = some p→p.dst=some s→(o.dst=some s→i=j∨Ro ef (GL l []) i j=true)∧(s∈looks l o→NS ef (GL l []) i j=true):=by
 have b:=List.all_eq_true.1 (Bool.and_eq_true_iff.1 hB).2 i (List.mem_range.2 (Ak.1 ho).1)
 simp only [ho,Bool.and_eq_true] at b
 refine ⟨fun e d f=>?_,fun j p s c hs=>?_⟩
 ·have:=List.all_eq_true.1 b.1 e (by simpa using d)
  simpa [f] using this
 ·have a:=List.all_eq_true.1 b.2 j (List.mem_range.2 (Ak.1 c).1)
  simp only [c,hs,Bool.and_eq_true,Bool.or_eq_true,decide_eq_true_eq,bne_iff_ne,Bool.not_eq_true'] at a
  refine ⟨fun hd=>?_,fun g=>?_⟩
  ·rcases a.1 with (h | h) | h
   ·exact .inl h
   ·exact absurd hd h
   ·exact .inr h
  ·rcases a.2 with h3 | h3
   ·have:(looks l o).contains s=true:=by simpa using g
    rw [h3] at this;cases this
   ·exact h3
theorem SI {l:List Oper} {ef:List Nat} (hB:KY l ef=true) {listed:Array Bool} (closed:∀ (j:Nat) (oj:Oper),l[j]? = some oj→listed.getD j false=true→∀ e∈oj.after,Region.binds .any e=true→listed.getD e.on false=true) (j:Nat) :
  ∀ (i:Nat) (o:Oper),l[i]? = some o→(∀ e∈o.after,Region.binds .any e=true→listed.getD e.on false=true)→Np (GL l []) i j=true→listed.getD j false=true:=by
 intro i
 induction i using Nat.strongRecOn with
 | _ i ih =>
  intro o ho n a
  have f:=Xn l [] i o ho (fun k o h e c g=>by have:=(Ea hB h).1 e c g;simpa using this)
  simp only [List.length_nil,Nat.zero_add] at f
  unfold Np at a
  rw [f] at a
  rcases XK _ _ _ _ a with h | ⟨e,h1,h2,h3⟩
  ·simp at h
  ·have c:e∈o.after:=by simpa using h1
   have b:=n e c h2
   have d:=(Ea hB ho).1 e c h2
   rcases h3 with rfl | h3
   ·exact b
   ·have m:=(Ak.1 ho).1
    exact ih e.on d _ (List.getElem?_eq_getElem (by omega)) (closed e.on _ (List.getElem?_eq_getElem (by omega)) b) h3
def C6 (ef:List Nat):Nat→List Oper→List Oper
 | _,[]=>[]
 | i,o::os=>(if ef.contains i then { o with dst:=none,op := .move (.const (.bool true)),guard:=none } else o)::C6 ef (i+1) os
theorem Qu (ef:List Nat):∀ (l:List Oper) (k i:Nat),(C6 ef k l)[i]? = (l[i]?).map fun o=>if ef.contains (k+i) then { o with dst:=none,op := .move (.const (.bool true)),guard:=none } else o
 | [],_,_=>by simp [C6]
 | o::os,k,0=>by simp [C6]
 | o::os,k,i+1=>by simp only [C6,List.getElem?_cons_succ];rw [Qu ef os (k+1) i,Nat.add_assoc,Nat.add_comm 1 i]
theorem HO (ef:List Nat):∀ (l:List Oper) (k:Nat),(C6 ef k l).length=l.length
 | [],_=>rfl
 | o::os,k=>by simp [C6,HO ef os]
section
variable {P:Program} {w0:World} {n:Nat}
def Dw (P:Program) (w0:World) (ev:Env) (s:St) (o:Oper) (v:AV) (s':St):Prop :=
 match o.op with
 | .call ⟨.value f,args,_⟩=>AH ev true f∧(∀ x∈args.toList,AH ev true x)∧L6 P w0 (Az ev f) (args.toList.map fun x=>argP ev (Az ev x)) s fun r t=>r=v∧t=s'
 | op=>(AZ P ev true s op).1∧(AZ P ev true s op).2.1=v∧(AZ P ev true s op).2.2=s'
theorem Wu {ev:Env} {s s':St} {o:Oper} {v:AV} (hc:¬ Kx o.op=true):Dw P w0 ev s o v s'=((AZ P ev true s o.op).1∧(AZ P ev true s o.op).2.1=v∧(AZ P ev true s o.op).2.2=s'):=by
 obtain ⟨e,op,c,d,b,a⟩:=o
 cases op with
 | call cc =>
  obtain ⟨callee,args,g⟩:=cc
  cases callee with
  | value f=>exact absurd rfl hc
  | _=>rfl
 | _=>rfl
def UI (P:Program) (w0:World) (ev:Env) (s:St) (o:Oper) (Post:AV→St→Prop):Prop :=
 (Kx o.op=true∧match o.op with
  | .call ⟨.value f,args,_⟩=>AH ev true f∧(∀ x∈args.toList,AH ev true x)∧L6 P w0 (Az ev f) (args.toList.map fun x=>argP ev (Az ev x)) s Post
  | _=>False)∨∃ v s',Dw P w0 ev s o v s'∧∀ r t,r=v∧t=s'→Post r t
theorem VM {M:Mem} {ev:Env} {s s':St} {a:Act} {w:World} (h:Rel w0 n M ev s a w) (ro:Option Nat) (m:Nat) {o:Oper} {v:AV} (hv:Dw P w0 ev s o v s')
  (Q:Exit→Act→World→Prop) (K:Act→World→Prop) (hK:∀ u w' M',Ext w0 M w M' w'→RelSt w0 M' s' w'→R w0 M' w' u v→K (a.put o.dst u) w'):o.wpIn (FW ro) m P a w K Q:=by
 by_cases hc:Kx o.op=true
 ·obtain ⟨dst,op,l,q,k,j⟩:=o
  cases op<;>try cases hc
  rename_i cc
  obtain ⟨callee,args,x⟩:=cc
  cases callee<;>try cases hc
  rename_i f
  obtain ⟨i,e,d⟩:=hv
  refine JM h ro m i e d Q _ (fun r t p u w' M' g b c=>?_)
  obtain ⟨rfl,rfl⟩:=p
  exact hK u w' M' g b c
 ·rw [Wu hc] at hv
  obtain ⟨i,e,d⟩:=hv
  refine P5 h ro m o i Q _ (fun u w' M' g b c=>?_)
  rw [d] at b
  rw [e] at c
  exact hK u w' M' g b c
theorem Xl {M:Mem} {ev:Env} {s:St} {a:Act} {w:World} (h:Rel w0 n M ev s a w) (ro:Option Nat) (m:Nat) {o:Oper} {Post:AV→St→Prop} (hv:UI P w0 ev s o Post)
  (Q:Exit→Act→World→Prop) (K:Act→World→Prop) (hK:∀ v s' u w' M',Post v s'→Ext w0 M w M' w'→RelSt w0 M' s' w'→R w0 M' w' u v→K (a.put o.dst u) w'):o.wpIn (FW ro) m P a w K Q:=by
 rcases hv with ⟨hc,hv⟩ | ⟨v,s',hv,c⟩
 ·obtain ⟨dst,op,j,p,i,g⟩:=o
  cases op<;>try cases hc
  rename_i cc
  obtain ⟨callee,args,x⟩:=cc
  cases callee<;>try cases hc
  rename_i f
  obtain ⟨q,l,k⟩:=hv
  exact JM h ro m q l k Q _ (fun r t c u w' M' d b e=>hK r t u w' M' c d b e)
 ·exact VM h ro m hv Q K fun u w' M' d b e=>hK v s' u w' M' (c _ _ ⟨rfl,rfl⟩) d b e
def Good (P:Program) (w0:World) (n:Nat) (l:List Oper) (ef:List Nat) (F:St→Prop) (T:Env→St→Prop):Nat→List Nat→Env→St→Prop
 | 0,_,_,_=>False
 | k+1,dn,ev,s=>F s∧((ef.all fun i=>dn.contains i)=true→T ev s)∧∀ i∈ef,dn.contains i=false→(ef.all fun j => !Np (GL l []) i j||dn.contains j)=true →
   ∃ o,l[i]? = some o∧o.guard=none∧Js n o.dst∧∃ Post:AV→St→Prop,UI P w0 (BP true l o ev) s o Post∧∀ v s',Post v s'→Good P w0 n l ef F T k (i::dn) (JA ev o.dst true v) s'
structure AInv (w0:World) (n:Nat) (l:List Oper) (ef:List Nat) (s0:St) (e e1:Env) (M1:Mem) (w1:World) (ds:List Deferred) (dn:List Nat) (ev:Env) (s:St) (listed:Array Bool) (a:Act) (w:World) (M:Mem):Prop where
 size:listed.size=l.length
 ini:dn=[]→s=s0
 closed:∀ (j:Nat) (oj:Oper),l[j]? = some oj→listed.getD j false=true→∀ e∈oj.after,Region.binds .any e=true→listed.getD e.on false=true
 eff:∀ i∈ef,(listed.getD i false=true↔i∈dn)
 sub:∀ i∈dn,i∈ef
 rel:RelSt w0 M s w
 tmps:a.tmps.size=n
 defers:a.defers=ds
 ext:Ext w0 M1 w1 M w
 evn:∀ t,(∀ j∈dn,∀ o,l[j]? = some o→o.dst≠some t)→look ev t=look e1 t
 done:∀ t x,(∃ j∈dn,∃ o,l[j]? = some o∧o.dst=some t)→look ev t=some x→entryOk w0 M w (a.tmps.getD t undef) x
 new:∀ t x,(∀ j∈dn,∀ o,l[j]? = some o→o.dst≠some t)→(∃ i o,i ∉ ef∧l[i]? = some o∧o.dst=some t∧listed.getD i false=true)→look e1 t=some x→entryOk w0 M w (a.tmps.getD t undef) x
 old:∀ t x,(∀ i o,l[i]? = some o→o.dst=some t→listed.getD i false=false)→look e t=some x→entryOk w0 M w (a.tmps.getD t undef) x
def V9 (l:List Oper) (ef el:List Nat):Bool:=ef.all fun i=>el.all fun j=>Np (GL l []) i j
def Zen (P:Program) (w0:World) (n:Nat) (l:List Oper) (e1:Env) (s:St) (o:Oper):Prop :=
 ∃ (Ei:Env) (v:AV),JE l (BP true l o Ei) o.guard∧Js n o.dst∧WX P w0 (BP true l o Ei) (BK l (BP true l o Ei) o.guard) s o v∧(∀ t∈looks l o,look Ei t=look e1 t)∧∀ t,o.dst=some t→look e1 t=some (BK l (BP true l o Ei) o.guard,v)
theorem Lm {l:List Oper} {ef:List Nat} {i:Nat} {o:Oper} (hi:i ∉ ef) (ho:l[i]? = some o):(C6 ef 0 l)[i]? = some o:=by
 rw [Qu,ho]
 simp [hi]
theorem N2 {l:List Oper} {ef:List Nat} {i:Nat} {o:Oper} {t:Nat} (hi:(C6 ef 0 l)[i]? = some o) (hd:o.dst=some t):i ∉ ef∧l[i]? = some o:=by
 rw [Qu] at hi
 cases hl:l[i]? with
 | none=>simp [hl] at hi
 | some p =>
  rw [hl] at hi
  simp only [Option.map_some,Nat.zero_add,Option.some.injEq] at hi
  by_cases c:i∈ef
  ·simp [c] at hi
   subst hi
   cases hd
  ·simp [c] at hi
   subst hi
   exact ⟨c,rfl⟩
theorem U4 {l:List Oper} {ef ef':List Nat} (hB:KY l ef=true) (hs:∀ i∈ef,i∈ef'):∀ (i j:Nat) (o p:Oper) (t:Nat),(C6 ef' 0 l)[i]? = some o→(C6 ef' 0 l)[j]? = some p→o.dst=some t→p.dst=some t→i=j:=by
 intro i j o p t e d b a
 obtain ⟨a1,a2⟩:=N2 e b
 obtain ⟨g,f⟩:=N2 d a
 have a3:i ∉ ef:=fun h=>a1 (hs i h)
 have c:j ∉ ef:=fun h=>g (hs j h)
 rcases ((Ea hB a2).2 j p t f a).1 b with h | h
 ·exact h
 ·simp [Ro,a3,c] at h
theorem Vk {l:List Oper} {ef:List Nat} {e e1:Env} {s:St} (hB:KY l ef=true) (h:∃ c,Q9 P w0 n true l (fun e' s'=>e'=e1∧s'=s) c (C6 ef 0 l) e s) :
  (∀ t,(∀ i o,i ∉ ef→l[i]? = some o→o.dst≠some t)→look e1 t=look e t)∧∀ i o,i ∉ ef→l[i]? = some o→Zen P w0 n l e1 s o:=by
 obtain ⟨c,x⟩:=h
 obtain ⟨E,C,V,T',r,_⟩:=PL c _ _ x
 rw [HO] at r
 have m:∀ t j,j≤l.length→_:=fun t j u=>LX T' (U4 hB fun _ h=>h) t j (by rw [HO];exact u)
 have g:∀ t,(∀ i o,i ∉ ef→l[i]? = some o→o.dst≠some t)→look e1 t=look e t:=by
  intro t F
  have:=(m t l.length (Nat.le_refl _)).1 fun i o _ z hd=>by
   obtain ⟨a1,a2⟩:=N2 z hd
   exact F i o a1 a2 hd
  rwa [r] at this
 refine ⟨g,fun i o d a=>?_⟩
 have b:i<l.length:=(Ak.1 a).1
 obtain ⟨_,D,H,w,J⟩:=T'.step i o (Lm d a)
 refine ⟨E i,V i,D,H,by rw [w];exact J,fun t G=>?_,fun t hd=>?_⟩
 ·by_cases Bf:∃ i o,i ∉ ef∧l[i]? = some o∧o.dst=some t
  ·obtain ⟨j,p,q,k,f⟩:=Bf
   have y:=((Ea hB a).2 j p t k f).2 G
   have v:j<i∧Np (GL l []) i j=true:=by simpa [NS,d,q] using y
   rw [(m t i (Nat.le_of_lt b)).2 j p v.1 (Lm q k) f,←r,(m t l.length (Nat.le_refl _)).2 j p (by omega) (Lm q k) f]
  ·rw [g t fun i o q k f=>Bf ⟨i,o,q,k,f⟩]
   exact (m t i (Nat.le_of_lt b)).1 fun j p _ u hd=>by
    obtain ⟨a1,a2⟩:=N2 u hd
    exact Bf ⟨j,p,a1,a2,hd⟩
 ·rw [w,←r]
  exact (m t l.length (Nat.le_refl _)).2 i o b (Lm d a) hd
inductive PreOk (e1:Env):Env→Prop where
 | nil:PreOk e1 e1
 | cons {k:Nat} {v:Bool × AV} {r:Env} (h:look e1 k=some v) (h':PreOk e1 r):PreOk e1 ((k,v)::r)
theorem PreOk.look {e1 e':Env} (h:PreOk e1 e') (t:Nat):Go.Ev.look e' t=Go.Ev.look e1 t:=by
 induction h with
 | nil=>rfl
 | @cons k v r h _ ih =>
  show (if k=t then some v else Go.Ev.look r t)=_
  split
  ·rename_i q
   rw [←q,h]
  ·exact ih
theorem ZeJ {l:List Oper} {ef el:List Nat} {e1:Env} {s:St} (hB:KY l ef=true) (h:∃ c,Q9 P w0 n true l (fun e' s'=>s'=s∧PreOk e1 e') c (C6 (ef++el) 0 l) e1 s) (i:Nat) (o:Oper) (hie:i ∉ ef) (hil:i ∉ el) (ho':l[i]? = some o):Zen P w0 n l e1 s o:=by
 obtain ⟨c,q⟩:=h
 obtain ⟨E,C,V,T',_,f⟩:=PL c _ _ q
 rw [HO] at f
 have b:∀ t j,j≤l.length→_:=fun t j e=>LX T' (U4 hB fun _ h=>List.mem_append_left _ h) t j (by rw [HO];exact e)
 have d:i<l.length:=(Ak.1 ho').1
 have a:i ∉ ef++el:=fun h=>(List.mem_append.1 h).elim hie hil
 have fin:∀ t,look (E l.length) t=look e1 t:=f.look
 obtain ⟨_,u,r,m,w⟩:=T'.step i o (Lm a ho')
 refine ⟨E i,V i,u,r,by rw [m];exact w,fun t _=>?_,fun t hd=>?_⟩
 ·by_cases Bf:∃ j p,j<i∧(C6 (ef++el) 0 l)[j]? = some p∧p.dst=some t
  ·obtain ⟨j,p,v,k,g⟩:=Bf
   rw [(b t i (Nat.le_of_lt d)).2 j p v k g,←fin t,(b t l.length (Nat.le_refl _)).2 j p (by omega) k g]
  ·exact (b t i (Nat.le_of_lt d)).1 fun j p e x hd=>Bf ⟨j,p,e,x,hd⟩
 ·rw [m,←fin t]
  exact (b t l.length (Nat.le_refl _)).2 i o d (Lm a ho') hd
theorem Zag {l:List Oper} {ef el:List Nat} {s0:St} {e e1:Env} {F:St→Prop} {T:Env→St→Prop} {M1:Mem} {w1:World} {ds:List Deferred} {ro:Option Nat} {m:Nat} {Q:Exit→Act→World→Prop} (hB:KY l ef=true) (hel:V9 l ef el=true)
  (noE1:∀ t,(∀ i o,i ∉ ef→l[i]? = some o→o.dst≠some t)→look e1 t=look e t)
  (hF:∀ s,F s→∀ i o,i ∉ ef→(i∈el→s=s0)→l[i]? = some o→Zen P w0 n l e1 s o)
  (hT:∀ ev s M a w,T ev s→Rel w0 n M ev s a w→Ext w0 M1 w1 M w→a.defers=ds→Q .normal a w) :
  ∀ fuel listed a w M k dn ev s,fuel=listed.toList.count false→Good P w0 n l ef F T k dn ev s→AInv w0 n l ef s0 e e1 M1 w1 ds dn ev s listed a w M→wpAnyIn (FW ro) m P .any l.toArray Q fuel listed a w:=by
 intro fuel
 induction fuel with
 | zero =>
  intro listed a w M k dn ev s hf hg inv
  have g:∀ j,j<l.length→listed.getD j false=true:=by
   intro j hj
   cases hq:listed.getD j false with
   | true=>rfl
   | false =>
    exfalso
    have am:j<listed.size:=by rw [inv.size];omega
    have:false∈listed.toList:=by
     have e1:listed[j]=false:=by simpa [am] using hq
     rw [←e1];simp
    have:=List.count_pos_iff.2 this
    omega
  cases k with
  | zero=>exact hg.elim
  | succ k =>
  obtain ⟨g1,g2,_⟩:=hg
  have hdn:(ef.all fun i=>dn.contains i)=true:=by
   refine List.all_eq_true.2 fun i D=>?_
   have c:i<l.length:=by simpa using List.all_eq_true.1 (Bool.and_eq_true_iff.1 hB).1 i D
   simpa using (inv.eff i D).1 (g i c)
  refine ⟨?_,hT ev s M a w (g2 hdn) ⟨inv.rel,inv.tmps,fun t x hx=>?_⟩ inv.ext inv.defers⟩
  ·refine List.eq_nil_iff_forall_not_mem.2 fun i D=>?_
   obtain ⟨H,o,ho,_⟩:=mem_ready.1 D
   have ho':l[i]? = some o:=by simpa using ho
   have:=g i (Ak.1 ho').1
   obtain ⟨q1,q2⟩:=YY H
   obtain ⟨q3,q4⟩:=Zai this
   rw [q2] at q4;cases q4
  ·by_cases A:∃ j∈dn,∃ o,l[j]? = some o∧o.dst=some t
   ·exact inv.done t x A hx
   ·have E:∀ j∈dn,∀ o,l[j]? = some o→o.dst≠some t:=fun j hj o ho hd=>A ⟨j,hj,o,ho,hd⟩
    rw [inv.evn t E] at hx
    by_cases Bf:∃ i o,i ∉ ef∧l[i]? = some o∧o.dst=some t
    ·obtain ⟨i,o,b1,b2,b3⟩:=Bf
     exact inv.new t x E ⟨i,o,b1,b2,b3,g i (Ak.1 b2).1⟩ hx
    ·rw [noE1 t fun i o b1 b2 b3=>Bf ⟨i,o,b1,b2,b3⟩] at hx
     refine inv.old t x (fun i o ho hd=>?_) hx
     by_cases c:i∈ef
     ·exact absurd hd (E i ((inv.eff i c).1 (g i (Ak.1 ho).1)) o ho)
     ·exact absurd ⟨i,o,c,ho,hd⟩ Bf
 | succ fuel ih =>
  intro listed a w M k dn ev s hf hg inv
  cases k with
  | zero=>exact hg.elim
  | succ k =>
  obtain ⟨g1,g2,g3⟩:=hg
  have V:∃ j,j<l.length∧listed.getD j false=false∧∀ i,i<j→listed.getD i false=true:=by
   refine QM fun g=>?_
   have:0<listed.toList.count false:=by omega
   have U:=List.count_pos_iff.1 this
   obtain ⟨i,D,Z⟩:=List.mem_iff_getElem.1 U
   have b:i<listed.size:=by simpa using D
   have:=g i (by rw [←inv.size];exact b)
   simp only [Array.getD_eq_getD_getElem?,Array.getElem?_eq_getElem b,Option.getD_some] at this
   rw [Array.getElem_toList] at Z
   rw [Z] at this;cases this
  obtain ⟨k0,af,aq,ah⟩:=V
  have ag:k0<listed.size:=by rw [inv.size];omega
  have ad:l[k0]? = some l[k0]:=List.getElem?_eq_getElem af
  have J:k0∈Region.ready .any l.toArray listed :=
   mem_ready.2 ⟨by simpa [ag] using aq,l[k0],by simp,fun ed Z hb=>ah _ ((Ea hB ad).1 ed Z hb)⟩
  refine ⟨fun h0=>absurd J (by rw [h0];simp),fun i D=>?_⟩
  obtain ⟨H,o,ho,K⟩:=mem_ready.1 D
  have ho':l[i]? = some o:=by simpa using ho
  have au:i<l.length:=(Ak.1 ho').1
  have b:i<listed.size:=by rw [inv.size];omega
  have N:listed.getD i false=false:=by simpa [b] using H
  have C:∀ j,Np (GL l []) i j=true→listed.getD j false=true:=fun j hj=>SI hB inv.closed j i o ho' K hj
  have O:fuel=(listed.setIfInBounds i true).toList.count false:=by
   have ab:listed[i]=false:=by simpa [b] using H
   have ar:0<listed.toList.count false:=List.count_pos_iff.2 (by rw [←ab];simp)
   rw [Array.toList_setIfInBounds,List.count_set (by simpa using b)]
   simp only [Array.getElem_toList,ab]
   rw [Ai (show (false == false)=true from rfl),Aj (show ¬ (true == false)=true by decide)]
   omega
  have hclosed:∀ (j:Nat) (oj:Oper),l[j]? = some oj→(listed.setIfInBounds i true).getD j false=true→∀ ed∈oj.after,Region.binds .any ed=true→(listed.setIfInBounds i true).getD ed.on false=true:=by
   intro j oj hj G ed Z hb
   rw [DX b] at G ⊢
   split
   ·rfl
   ·by_cases c:i=j
    ·subst c
     rw [ho'] at hj;cases hj
     exact K ed Z hb
    ·rw [Aj c] at G
     exact inv.closed j oj hj G ed Z hb
  unfold wpOpIn
  simp only [ho]
  by_cases hie:i∈ef
  ·-- an effect
   have ap:dn.contains i=false:=by
    cases hq:dn.contains i with
    | false=>rfl
    | true=>have:=(inv.eff i hie).2 (by simpa using hq);rw [N] at this;cases this
   obtain ⟨o2,q1,q2,q3,Post,q4,ai⟩:=g3 i hie ap (by
    refine List.all_eq_true.2 fun j hj=>?_
    cases hq:Np (GL l []) i j with
    | false=>rfl
    | true=>simpa using (inv.eff j hj).1 (C j hq))
   rw [ho'] at q1;cases q1
   have z:Rel w0 n M (BP true l o ev) s a w:=by
    refine ⟨inv.rel,inv.tmps,fun t x hs=>?_⟩
    simp only [BP,if_true] at hs
    have U:=Lu _ _ _ _ hs
    have hx:=Ig _ _ _ _ hs
    by_cases A:∃ j∈dn,∃ o,l[j]? = some o∧o.dst=some t
    ·exact inv.done t x A hx
    ·have E:∀ j∈dn,∀ o,l[j]? = some o→o.dst≠some t:=fun j hj o ho hd=>A ⟨j,hj,o,ho,hd⟩
     rw [inv.evn t E] at hx
     by_cases Bf:∃ i o,i ∉ ef∧l[i]? = some o∧o.dst=some t
     ·obtain ⟨j,p,b1,b2,b3⟩:=Bf
      have G:=((Ea hB ho').2 j p t b2 b3).2 U
      have:Np (GL l []) i j=true:=by simpa [NS,hie,b1] using G
      exact inv.new t x E ⟨j,p,b1,b2,b3,C j this⟩ hx
     ·rw [noE1 t fun i o b1 b2 b3=>Bf ⟨i,o,b1,b2,b3⟩] at hx
      refine inv.old t x (fun j p hp hd=>?_) hx
      by_cases c:j∈ef
      ·cases hq:listed.getD j false with
       | false=>rfl
       | true=>exact absurd hd (E j ((inv.eff j c).1 hq) p hp)
      ·exact absurd ⟨j,p,c,hp,hd⟩ Bf
   have hw:Region.wanted o (yielded l.toArray a.tmps)=true:=by simp [Region.wanted,q2]
   rw [hw,Ai rfl]
   refine Xl z ro m q4 Q _ fun v s' u w' M' Y hx hst hu=>?_
   have q5:=ai v s' Y
   have keep:∀ t x,o.dst≠some t→entryOk w0 M w (a.tmps.getD t undef) x→entryOk w0 M' w' ((a.put o.dst u).tmps.getD t undef) x:=by
    intro t x f h1
    rw [JL a o.dst u t (by rw [inv.tmps];exact q3),Aj f]
    exact h1.mono hx
   refine ih _ _ _ M' k (i::dn) _ s' O q5 ⟨by simp [inv.size],fun q=>(by cases q),hclosed,fun j hj=>?_,fun j hj=>?_,hst,by rw [Pz];exact inv.tmps,by rw [G5];exact inv.defers,inv.ext.trans hx,fun t ht=>?_,fun t x hA hx'=>?_,fun t x hA hN hx'=>?_,fun t x hO hx'=>?_⟩
   ·rw [DX b]
    by_cases c:i=j
    ·subst c;simp
    ·rw [Aj c,inv.eff j hj];simp [Ne.symm c]
   ·rcases List.mem_cons.1 hj with rfl | hj
    ·exact hie
    ·exact inv.sub j hj
   ·have f:=ht i (List.mem_cons_self ..) o ho'
    have:look (JA ev o.dst true v) t=look ev t:=by
     cases hd:o.dst with
     | none=>rfl
     | some d=>rw [hd] at f;simp only [JA,look];rw [Aj (fun h=>f (by rw [h]))]
    rw [this]
    exact inv.evn t fun j hj=>ht j (List.mem_cons_of_mem _ hj)
   ·by_cases c:o.dst=some t
    ·rw [c] at hx'
     simp only [JA,look,if_true,Option.some.injEq] at hx'
     subst hx'
     rw [JL a o.dst u t (by rw [inv.tmps];exact q3),Ai c]
     simpa only [entryOk,if_true] using hu
    ·have:look (JA ev o.dst true v) t=look ev t:=by
      cases hd:o.dst with
      | none=>rfl
      | some d=>rw [hd] at c;simp only [JA,look];rw [Aj (fun h=>c (by rw [h]))]
     rw [this] at hx'
     refine keep t x c (inv.done t x ?_ hx')
     obtain ⟨j,hj,p,hp,hd⟩:=hA
     rcases List.mem_cons.1 hj with rfl | hj
     ·rw [ho'] at hp;cases hp;exact absurd hd c
     ·exact ⟨j,hj,p,hp,hd⟩
   ·have f:=hA i (List.mem_cons_self ..) o ho'
    refine keep t x f (inv.new t x (fun j hj=>hA j (List.mem_cons_of_mem _ hj)) ?_ hx')
    obtain ⟨j,p,b1,b2,b3,b4⟩:=hN
    rw [DX b] at b4
    by_cases c:i=j
    ·subst c;exact absurd hie b1
    ·rw [Aj c] at b4;exact ⟨j,p,b1,b2,b3,b4⟩
   ·have f:o.dst≠some t:=fun hd=>by
     have:=hO i o ho' hd
     rw [DX b,Ai rfl] at this;cases this
    refine keep t x f (inv.old t x (fun j p hp hd=>?_) hx')
    have:=hO j p hp hd
    rw [DX b] at this
    by_cases c:i=j
    ·rw [Ai c] at this;cases this
    ·rwa [Aj c] at this
  ·-- one of the others
   have y:∀ j∈dn,∀ p,l[j]? = some p→Np (GL l []) j i=true→False:=by
    intro j hj p hp ae
    have aj:=(inv.eff j (inv.sub j hj)).2 hj
    have:=SI hB inv.closed i j p hp (inv.closed j p hp aj) ae
    rw [N] at this;cases this
   obtain ⟨Ei,v,t2,t3,t5,t6,t7⟩:=hF s g1 i o hie (fun D=>by
    cases hdn:dn with
    | nil=>exact inv.ini hdn
    | cons j r =>
     have hj:j∈dn:=by rw [hdn];exact List.mem_cons_self ..
     have hje:=inv.sub j hj
     have c:j<l.length:=by simpa using List.all_eq_true.1 (Bool.and_eq_true_iff.1 hB).1 j hje
     exact (y j hj _ (List.getElem?_eq_getElem c) (List.all_eq_true.1 (List.all_eq_true.1 hel j hje) i D)).elim) ho'
   have z:Rel w0 n M (BP true l o Ei) s a w:=by
    refine ⟨inv.rel,inv.tmps,fun t x hs=>?_⟩
    simp only [BP,if_true] at hs
    have U:=Lu _ _ _ _ hs
    have hx:=Ig _ _ _ _ hs
    have E:∀ j∈dn,∀ p,l[j]? = some p→p.dst≠some t:=by
     intro j hj p hp hd
     have G:=((Ea hB ho').2 j p t hp hd).2 U
     have hje:=inv.sub j hj
     exact y j hj p hp (by simpa [NS,hie,hje] using G)
    rw [t6 t U] at hx
    by_cases Bf:∃ i o,i ∉ ef∧l[i]? = some o∧o.dst=some t
    ·obtain ⟨j,p,b1,b2,b3⟩:=Bf
     have G:=((Ea hB ho').2 j p t b2 b3).2 U
     have ak:j<i∧Np (GL l []) i j=true:=by simpa [NS,hie,b1] using G
     exact inv.new t x E ⟨j,p,b1,b2,b3,C j ak.2⟩ hx
    ·rw [noE1 t fun i o b1 b2 b3=>Bf ⟨i,o,b1,b2,b3⟩] at hx
     refine inv.old t x (fun j p hp hd=>?_) hx
     by_cases c:j∈ef
     ·cases hq:listed.getD j false with
      | false=>rfl
      | true=>exact absurd hd (E j ((inv.eff j c).1 hq) p hp)
     ·exact absurd ⟨j,p,c,hp,hd⟩ Bf
   refine Qv z ro m t2 t5 Q _ fun u w' M' hx hst hu=>?_
   have keep:∀ t x,o.dst≠some t→entryOk w0 M w (a.tmps.getD t undef) x→entryOk w0 M' w' ((a.put o.dst u).tmps.getD t undef) x:=by
    intro t x f h1
    rw [JL a o.dst u t (by rw [inv.tmps];exact t3),Aj f]
    exact h1.mono hx
   have ao:∀ t,o.dst=some t→∀ j∈dn,∀ p,l[j]? = some p→p.dst≠some t:=by
    intro t hd j hj p hp aa
    have hje:=inv.sub j hj
    rcases ((Ea hB ho').2 j p t hp aa).1 hd with h | h
    ·subst h;exact hie hje
    ·exact y j hj p hp (by simpa [Ro,hie,hje] using h)
   refine ih _ _ _ M' (k+1) dn ev s O ⟨g1,g2,g3⟩ ⟨by simp [inv.size],inv.ini,hclosed,fun j hj=>?_,inv.sub,hst,by rw [Pz];exact inv.tmps,by rw [G5];exact inv.defers,inv.ext.trans hx,inv.evn,fun t x hA hx'=>?_,fun t x hA hN hx'=>?_,fun t x hO hx'=>?_⟩
   ·rw [DX b,Aj (fun (h:i=j)=>hie (h▸hj))]
    exact inv.eff j hj
   ·refine keep t x (fun hd=>?_) (inv.done t x hA hx')
    obtain ⟨j,hj,p,hp,aa⟩:=hA
    exact ao t hd j hj p hp aa
   ·by_cases c:o.dst=some t
    ·rw [JL a o.dst u t (by rw [inv.tmps];exact t3),Ai c]
     have e3:=t7 t c
     rw [hx'] at e3
     cases e3
     exact hu
    ·refine keep t x c (inv.new t x hA ?_ hx')
     obtain ⟨j,p,b1,b2,b3,b4⟩:=hN
     rw [DX b] at b4
     by_cases c':i=j
     ·subst c';rw [ho'] at b2;cases b2;exact absurd b3 c
     ·rw [Aj c'] at b4;exact ⟨j,p,b1,b2,b3,b4⟩
   ·have f:o.dst≠some t:=fun hd=>by
     have:=hO i o ho' hd
     rw [DX b,Ai rfl] at this;cases this
    refine keep t x f (inv.old t x (fun j p hp hd=>?_) hx')
    have:=hO j p hp hd
    rw [DX b] at this
    by_cases c:i=j
    ·rw [Ai c] at this;cases this
    ·rwa [Aj c] at this
def Conv (w0:World) (n nb:Nat) (e:Env) (s:St) (e':Env) (s':St):Prop:=∀ M a w,Rel w0 n M e s a w→∃ M',(∀ Ms ws,Ms.N=nb→Ext w0 Ms ws M w→Ext w0 Ms ws M' w)∧Rel w0 n M' e' s' a w
theorem Good.imp {l:List Oper} {ef:List Nat} {F:St→Prop} {T T':Env→St→Prop} (hT:∀ ev s,T ev s→T' ev s):∀ k dn ev s,Good P w0 n l ef F T k dn ev s→Good P w0 n l ef F T' k dn ev s
 | 0,_,_,_,h=>h
 | k+1,_,_,_,h=>⟨h.1,fun q=>hT _ _ (h.2.1 q),fun i a b c=>by
  obtain ⟨o,m,d,e,Post,j,g⟩:=h.2.2 i a b c
  exact ⟨o,m,d,e,Post,j,fun v f q=>Good.imp hT k _ _ _ (g v f q)⟩⟩
section
variable {M0:Mem} {W0:World} {ro:Option Nat} {Q:AQ} {e:Env} {st:St}
theorem WN (hm:P.follows .mixedOrders=true) (ef el L:List Nat) {id:Nat} {l:List Oper} (hB:KY l ef=true) (hel:V9 l ef el=true) (F:St→Prop) (k nb:Nat) {e1:Env} (hnb:st.boxes.length=nb)
  (hN:∀ t,(∀ i o,i ∉ ef→l[i]? = some o→o.dst≠some t)→look e1 t=look e t) (hF:∀ s,F s→∀ i o,i ∉ ef→(i∈el→s=st)→l[i]? = some o→Zen P w0 n l e1 s o)
  (hG:Good P w0 n l ef F (fun ev s=>∃ e2 s2,Conv w0 n nb ev s e2 s2∧Q .normal (Du L e2) s2) k [] e1 st):DF P w0 n M0 W0 ro (.region id l.toArray true) Q e st:=by
 intro m M a w hr
 obtain ⟨d1,d2⟩:=hr.rel.st.drew
 refine wpIn_region_any hm (Zag (s0:=st) (e:=e) (e1:=e1) (M1:=M) (w1:=w) (ds:=a.defers) hB hel hN hF (fun ev s v r g d b q hd=>?_) _ _ a _ M k [] e1 st ?_ hG ?_)
 ·obtain ⟨e2,s2,d,p⟩:=d
  obtain ⟨M2,y,u⟩:=d v r g b
  have f:=y M w (hr.rel.st.N.trans hnb) q
  refine ⟨M2,_,_,⟨u.sub (D2 L _),hr.ext.trans f,?_⟩,p⟩
  rw [hd]
  exact hr.marks.later f hr.rel.st
 ·simp
 ·have hnl:∀ j,(Array.replicate l.toArray.size false).getD j false=false:=fun j=>by
   by_cases c:j<l.length
   ·simp [Array.getD_eq_getD_getElem?,c]
   ·simp [Array.getD_eq_getD_getElem?,c]
  exact ⟨by simp,fun _=>rfl,fun j _ _ hl=>(by rw [hnl] at hl;cases hl),fun i _=>(by rw [hnl];simp),fun _ h=>(nomatch h),d1,hr.rel.size,rfl,d2,fun _ _=>rfl,fun _ _ ⟨_,h,_⟩=>(nomatch h),
   fun _ _ _ ⟨i,_,_,_,_,h⟩=>(by rw [hnl] at h;cases h),fun t x _ hs=>(hr.rel.env t x hs).mono d2⟩
theorem X3 (hm:P.follows .mixedOrders=true) (ef L:List Nat) {id:Nat} {l:List Oper} (hB:KY l ef=true) (F:St→Prop) (k nb:Nat) {e1:Env} (hnb:st.boxes.length=nb)
  (hF:∀ s,F s→∃ c,Q9 P w0 n true l (fun e' s'=>e'=e1∧s'=s) c (C6 ef 0 l) e s) (hG:Good P w0 n l ef F (fun ev s=>∃ e2 s2,Conv w0 n nb ev s e2 s2∧Q .normal (Du L e2) s2) k [] e1 st):DF P w0 n M0 W0 ro (.region id l.toArray true) Q e st :=
 have a:F st:=by
  cases k with
  | zero=>exact hG.elim
  | succ k=>exact hG.1
 WN hm ef [] L hB (by simp [V9]) F k nb hnb (Vk hB (hF st a)).1 (fun s h i o d _ b=>(Vk hB (hF s h)).2 i o d b) hG
theorem Hu (hm:P.follows .mixedOrders=true) (ef L:List Nat) {id:Nat} {l:List Oper} (hB:KY l ef=true) (F:St→Prop) (k nb:Nat) {e1 e2:Env} {s2:St} (hnb:st.boxes.length=nb)
  (hF:∀ s,F s→∃ c,Q9 P w0 n true l (fun e' s'=>e'=e1∧s'=s) c (C6 ef 0 l) e s) (hG:Good P w0 n l ef F (fun ev s=>Conv w0 n nb ev s e2 s2) k [] e1 st) (hQ:Q .normal (Du L e2) s2):DF P w0 n M0 W0 ro (.region id l.toArray true) Q e st :=
 X3 hm ef L hB F k nb hnb hF (hG.imp (fun _ _ h=>⟨e2,s2,h,hQ⟩))
theorem XF (hm:P.follows .mixedOrders=true) (ef el L:List Nat) {id:Nat} {l:List Oper} (hB:(KY l ef&&V9 l ef el)=true) (F:St→Prop) (k nb:Nat) {e1 e2:Env} {s2:St} (hnb:st.boxes.length=nb)
  (h0:∃ c,Q9 P w0 n true l (fun e' s'=>e'=e1∧s'=st) c (C6 ef 0 l) e st)
  (hF:∀ s,F s→∃ c,Q9 P w0 n true l (fun e' s'=>s'=s∧PreOk e1 e') c (C6 (ef++el) 0 l) e1 s) (hG:Good P w0 n l ef F (fun ev s=>Conv w0 n nb ev s e2 s2) k [] e1 st) (hQ:Q .normal (Du L e2) s2):DF P w0 n M0 W0 ro (.region id l.toArray true) Q e st :=
 have a:=Bool.and_eq_true_iff.1 hB
 WN hm ef el L a.1 a.2 F k nb hnb (Vk a.1 h0).1 (fun s h i o d f b=>by
  by_cases c:i∈el
  ·rw [f c];exact (Vk a.1 h0).2 i o d b
  ·exact ZeJ a.1 (hF s h) i o d c b) (hG.imp (fun _ _ h=>⟨e2,s2,h,hQ⟩))
end
theorem NW (L:List Nat) {nb:Nat} {e e':Env} {s:St} (h:Du L e=e'):Conv w0 n nb e s e' s:=fun M _ w a=>⟨M,fun _ _ _ h=>h,by rw [←h];exact a.sub (D2 L e)⟩
def Zi (l:List Oper) (ef dn:List Nat):List Nat:=ef.filter fun i => !dn.contains i&&ef.all fun j => !Np (GL l []) i j||dn.contains j
theorem Good.mk {l:List Oper} {ef dn:List Nat} {F:St→Prop} {T:Env→St→Prop} {k:Nat} {ev:Env} {s:St} (rs:List Nat) (hr:Zi l ef dn=rs) (hF:F s) (hT:(ef.all fun i=>dn.contains i)=true→T ev s)
  (h:∀ i∈rs,∃ o,l[i]? = some o∧o.guard=none∧Js n o.dst∧∃ Post:AV→St→Prop,UI P w0 (BP true l o ev) s o Post∧∀ v s',Post v s'→Good P w0 n l ef F T k (i::dn) (JA ev o.dst true v) s'):Good P w0 n l ef F T (k+1) dn ev s :=
 ⟨hF,hT,fun i b hd a=>h i (by rw [←hr];exact List.mem_filter.2 ⟨b,by rw [hd,a];rfl⟩)⟩
theorem Ci {l:List Oper} {ef dn:List Nat} {F:St→Prop} {T:Env→St→Prop} {k i:Nat} {ev:Env} {s:St} {o:Oper} {v:AV} {s':St} (ho:l[i]? = some o) (hg:o.guard=none) (hd:Js n o.dst) (hs:Dw P w0 (BP true l o ev) s o v s')
  (hk:Good P w0 n l ef F T k (i::dn) (JA ev o.dst true v) s'):∃ o,l[i]? = some o∧o.guard=none∧Js n o.dst∧∃ Post:AV→St→Prop,UI P w0 (BP true l o ev) s o Post∧∀ v s',Post v s'→Good P w0 n l ef F T k (i::dn) (JA ev o.dst true v) s' :=
 ⟨o,ho,hg,hd,fun r t=>r=v∧t=s',.inr ⟨v,s',hs,fun _ _ h=>h⟩,by rintro _ _ ⟨rfl,rfl⟩;exact hk⟩
theorem Yd {l:List Oper} {ef dn:List Nat} {F:St→Prop} {T:Env→St→Prop} {k i:Nat} {ev:Env} {s:St} {o:Oper} {f:Operand} {args:Array Operand} {ts:Array TypeId} {Post:AV→St→Prop} (ho:l[i]? = some o) (hg:o.guard=none) (hd:Js n o.dst) (hop:o.op = .call ⟨.value f,args,ts⟩)
  (h1:AH (BP true l o ev) true f) (h2:∀ x∈args.toList,AH (BP true l o ev) true x) (h3:L6 P w0 (Az (BP true l o ev) f) (args.toList.map fun x=>argP (BP true l o ev) (Az (BP true l o ev) x)) s Post)
  (hk:∀ v s',Post v s'→Good P w0 n l ef F T k (i::dn) (JA ev o.dst true v) s'):∃ o,l[i]? = some o∧o.guard=none∧Js n o.dst∧∃ Post:AV→St→Prop,UI P w0 (BP true l o ev) s o Post∧∀ v s',Post v s'→Good P w0 n l ef F T k (i::dn) (JA ev o.dst true v) s' :=
 ⟨o,ho,hg,hd,Post,.inl ⟨by rw [hop];rfl,by rw [hop];exact ⟨h1,h2,h3⟩⟩,hk⟩
theorem ZcN {f:FuncId} {args args' cs:List AV} {st:St} {v:AV} (h:ACalls P w0 f args' st fun r s=>r=v∧s=st) (he:(args++cs).map AV.pubA=args'):L6 P w0 (.clo f cs) args st fun r t=>r=v∧t=st:=h.pub he
end
def Tg {α:Type} (_:α):Prop:=True
theorem tg {α:Type} {a:α}:Tg a:=trivial
theorem cl {p:Prop} (h:p:=by first | (intros;omega) | (intros;simp_all;done) | (intros;simp only [Bool.or_eq_false_iff,Bool.or_eq_true,Bool.and_eq_true,Bool.and_eq_false_iff,decide_eq_true_eq,decide_eq_false_iff_not,bne_iff_ne] at *; omega)):p:=h
theorem pf {p:Prop} (h:p:=by first | exact List.prefix_append _ _ | exact List.prefix_refl _ | (rw [List.append_assoc];exact List.prefix_append _ _)):p:=h
theorem ev {p:Prop} (h:p:=by simp +decide only [go_sem,Nat.reduceAdd]):p:=h
theorem ef {p F:Prop} (f:F) (h:F→p:=by intro hs;first | rfl | (simp +decide only [go_sem,Nat.reduceAdd,hs];done)):p:=h f
theorem en {p F:Prop} (f:F) (h:F→p:=by intro hs;first | (simp +decide only [go_sem,Nat.reduceAdd,hs];done) | (simp +decide only [go_sem,Nat.reduceAdd,hs];rfl)):p:=h f
theorem ow {p:Prop} (h:p:=by (simp +decide only [go_sem,Nat.reduceAdd,IY])<;>(try (repeat' apply Ae))<;>first | omega | assumption):p:=h
theorem ZbW:(0:Nat)=0:=rfl
section
variable {P:Program} {w0:World} {n:Nat} {M0:Mem} {W0:World} {ro:Option Nat} {e:Env} {st:St} {Q:AQ}
theorem IP {c:Nat} {L:List Nat} (tc:Tg c) (tL:Tg L) {id:Nat} {l:List Oper} (h:Q9 P w0 n false l (fun e' st'=>Q .normal (Du L e') st') c l e st):DF P w0 n M0 W0 ro (.region id l.toArray false) Q e st:=Au c L h
theorem Rt {L:List Nat} (t:Tg L) {c:Code} (h:DF P w0 n M0 W0 ro c Q (Du L e) st):DF P w0 n M0 W0 ro c Q e st:=LR _ h (D2 _ _)
theorem Qn {h c1 c2:Nat} {L:List Nat} (tt:Tg (h,c1,c2,L)) (hm:P.follows .mixedOrders=true) {id:Nat} {l:List Oper} (hB:Vi l h=true)
  (hev:Q9 P w0 n true l (fun e1 s1=>Q9 P w0 n false l (fun e2 s2=>Q .normal (Du L e2) s2) c2 (l.drop h) e1 s1) c1 (l.take h) e st):DF P w0 n M0 W0 ro (.region id l.toArray true) Q e st:=SD hm h c1 c2 L hB hev
theorem IZ {c d:Bool} {fv:AV} {args:List AV} {k:AV→St→Prop} (h:Jp P w0 c d fv args st k):Jp P w0 c d fv args st k:=h
theorem B6 {β:Type} {F:Prop} {b:Bool} {X Y r:β} (h:(if b=true then X else Y)=r) (f:F) {c:Operand} {x y:Code} (ht:(b=true∧F)→X=r→DF P w0 n M0 W0 ro x Q e st) (hf:(b=false∧F)→Y=r→DF P w0 n M0 W0 ro y Q e st)
  (hc:AH e true c:=by simp +decide only [go_sem,Nat.reduceAdd]) (hb:F→Az e c = .val (.bool b):=by intro hs;first | (simp +decide only [go_sem,Nat.reduceAdd,hs];done) | (simp +decide only [go_sem,Nat.reduceAdd,hs];rfl)):DF P w0 n M0 W0 ro (.cond c x y) Q e st :=
 A4 b hc (hb f) (fun q=>ht ⟨q,f⟩ (Bq h q)) (fun q=>hf ⟨q,f⟩ (Bo h q))
theorem td {B0 B bs X:List (List AV)} {Rw rows:List RowA} {L:List LoopA} {l:List (Nat × Nat × Own)} {c:Code} (hN:M0.N=B0.length) (hNR:M0.NR=Rw.length) (hNL:M0.NL=L.length) (hc:Calm B0.length Rw.length L.length ⟨B,Rw,L⟩) (ho:Owns Rw rows l)
  (h:DF P w0 n M0 W0 ro c Q e ⟨B++bs,rows,L⟩) (hB:B.length=B0.length:=by first | rfl | simp only [List.length_set])
  (hbs:∀ cs∈bs,∀ x∈cs,Under (B0.length+bs.length) rows.length L.length x:=by (simp +decide only [go_sem,Nat.reduceAdd])<;>(try (repeat' apply Ae))<;>first | omega | assumption)
  (he:IY (B0.length+bs.length) rows.length L.length e:=by (simp +decide only [go_sem,Nat.reduceAdd,IY])<;>(try (repeat' apply Ae))<;>first | omega | assumption):DF P w0 n M0 W0 ro c Q e ⟨B++(bs++X),rows,L⟩ :=
 A1 hN hNR hNL hB hc ho hbs he h
end
section
variable {P:Program} {w0:World} {n:Nat} {M0:Mem} {W0:World} {ro:Option Nat} {e:Env} {st:St} {Q:AQ}
theorem ZcF (g:Nat) (x:AV) (hn:n≤1000000) {c:Code} (h:DF P w0 n M0 W0 ro c Q ((2000000+g,false,x)::e) st):DF P w0 n M0 W0 ro c Q e st :=
 HU _ _ (fun M a w b=>⟨M,.refl _ _ _,b.st,b.size,fun s y hs=>by
  simp only [look] at hs
  by_cases q:2000000+g=s
  ·rw [Ai q] at hs
   cases hs
   have d:1000000≤s:=by rw [←q];omega
   simp only [entryOk,Bool.false_eq_true,if_false]
   rw [Array.getD_eq_getD_getElem?,Array.getElem?_eq_none (by rw [b.size];omega)]
   rfl
  ·rw [Aj q] at hs
   exact b.env s y hs⟩) h
theorem O6 (t:TypeId) (hn:n≤1000000) {c:Code} (h:DF P w0 n M0 W0 ro c Q ((1000000+t,false,.junk)::e) st):DF P w0 n M0 W0 ro c Q e st :=
 HU _ _ (fun M a w b=>⟨M,.refl _ _ _,b.st,b.size,fun s x hs=>by
  simp only [look] at hs
  by_cases q:1000000+t=s
  ·rw [Ai q] at hs
   cases hs
   have d:1000000≤s:=by rw [←q];exact Nat.le_add_right _ _
   simp only [entryOk,Bool.false_eq_true,if_false]
   rw [Array.getD_eq_getD_getElem?,Array.getElem?_eq_none (by rw [b.size];omega)]
   rfl
  ·rw [Aj q] at hs
   exact b.env s x hs⟩) h
end
theorem rg {F p q:Prop} (L:List Nat) (f:F) (k:q) (h:Tg L→F→q→p:=by
  intro tL hs hq
  apply An;intro K hK
  refine IP (c:=1) tg tL ?_
  rw [Ap];simp +decide only [go_sem,Nat.reduceAdd,hs]
  first | (refine hK _ _ ?_;exact hq) | ((repeat' apply Ae)<;>first | (refine hK _ _ ?_;exact hq) | (clear hq;exact cl))):p:=h tg f k
theorem rc {F p q:Prop} (c:Nat) (L:List Nat) (f:F) (k:q) (h:Tg c→Tg L→F→q→p:=by
  intro tc tL hs hq
  apply An;intro K hK
  refine IP tc tL ?_
  rw [Ap];simp +decide only [go_sem,Nat.reduceAdd,hs]
  first | (refine IZ ?_;revert K;exact hq) | ((repeat' apply Ae)<;>first | (refine IZ ?_;revert K;exact hq) | (clear hq;exact cl))):p:=h tg tg f k
theorem nc {F p q:Prop} (f:F) (k:q) (h:F→q→p:=by
  intro hs hq
  rw [Ap];simp +decide only [go_sem,Nat.reduceAdd,hs]
  first | (refine IZ ?_;exact hq) | ((repeat' apply Ae)<;>first | (refine IZ ?_;exact hq) | (clear hq;exact cl))):p:=h f k
theorem ne {F p q:Prop} (f:F) {K:Env→St→Prop} {A:Env→St→Prop} (hK:∀ e s,A e s→K e s) (k:q) (h:F→(∀ e s,A e s→K e s)→q→p:=by
  intro hs hK hq
  rw [Ap];simp +decide only [go_sem,Nat.reduceAdd,hs]
  first | (refine hK _ _ ?_;exact hq) | ((repeat' apply Ae)<;>first | (refine hK _ _ ?_;exact hq) | (clear hq;exact cl))):p:=h f hK k
theorem dg {F p q:Prop} (m c1 c2:Nat) (L:List Nat) (f:F) {P:Program} (hm:P.follows .mixedOrders=true) (k:q) (h:Tg (m,c1,c2,L)→F→P.follows .mixedOrders=true→q→p:=by
  intro tt hs hm hq
  apply An;intro K hK
  refine Qn tt hm (by kernel_rfl) ?_
  rw [Ap];simp +decide only [go_sem,Nat.reduceAdd,hs]
  (repeat' with_reducible apply Ae)<;>first | (rw [Ap];simp +decide only [go_sem,Nat.reduceAdd,hs]) | (clear hq;exact cl)
  first | (refine hK _ _ ?_;exact hq) | ((repeat' apply Ae)<;>first | (refine hK _ _ ?_;exact hq) | (clear hq;exact cl))):p:=h tg f hm k
theorem sk {F p q:Prop} (L:List Nat) (f:F) {A K:Env→St→Prop} (hK:∀ e s,A e s→K e s) (k:q) (h:Tg L→F→(∀ e s,A e s→K e s)→q→p:=by
  intro tL hs hK hq
  refine Rt tL ?_
  apply EH;simp +decide only [go_sem,Nat.reduceAdd]
  first | (refine hK _ _ ?_;exact hq) | ((repeat' apply Ae)<;>first | (refine hK _ _ ?_;exact hq) | (clear hq;exact cl))):p:=h tg f hK k
theorem sx {F p q:Prop} (L:List Nat) (f:F) {A K:Env→St→Prop} (hK:∀ e s,A e s→K e s) (k:q) (h:Tg L→F→(∀ e s,A e s→K e s)→q→p:=by
  intro tL hs hK hq
  refine Rt tL ?_
  apply I4;simp +decide only [go_sem,Nat.reduceAdd]
  first | (refine hK _ _ ?_;exact hq) | ((repeat' apply Ae)<;>first | (refine hK _ _ ?_;exact hq) | (clear hq;exact cl))):p:=h tg f hK k
theorem rl {F p q:Prop} (L:List Nat) (f:F) {A K:Env→St→Prop} (hK:∀ e s,A e s→K e s) (k:q) (h:Tg L→F→(∀ e s,A e s→K e s)→q→p:=by
  intro tL hs hK hq
  refine IP (c:=1) tg tL ?_
  rw [Ap];simp +decide only [go_sem,Nat.reduceAdd,hs]
  first | (refine hK _ _ ?_;exact hq) | ((repeat' apply Ae)<;>first | (refine hK _ _ ?_;exact hq) | (clear hq;exact cl))):p:=h tg f hK k
theorem rk {F p q:Prop} (c:Nat) (L:List Nat) (f:F) (k:q) (h:Tg c→Tg L→F→q→p:=by
  intro tc tL hs hq
  refine IP tc tL ?_
  rw [Ap];simp +decide only [go_sem,Nat.reduceAdd,hs]
  first | (refine IZ ?_;exact hq) | ((repeat' apply Ae)<;>first | (refine IZ ?_;exact hq) | (clear hq;exact cl))):p:=h tg tg f k
theorem hd {P:Program} {w0:World} {f:FuncId} {fn:Func} {c:Code} {n:Nat} {args:List AV} {B:List (List AV)} {Rw:List RowA} {L:List LoopA} {Post:AV→St→Prop} (rs:List ResultVar) (hf:P.funcs[f]? = some fn) (hn:fn.ntmps=n)
  (k:∀ (M0:Mem) (W0:World),M0.N=B.length→M0.NR=Rw.length→M0.NL=L.length→Calm B.length Rw.length L.length ⟨B,Rw,L⟩→(∀ x∈args,Under B.length Rw.length L.length x)→Owns Rw Rw []→(0:Nat)=0 →
   DF P w0 n M0 W0 none c (Zb6 P rs (finP ⟨B,Rw,L⟩ Post)) (AA 0 args) ⟨B,Rw,L⟩)
  (hb:fn.body=some c:=by rfl) (hrs:fn.results=rs.toArray:=by rfl) (hm:fn.name ≠ "runtime.NumGoroutine" := by decide) (ha:args.length≤n:=by exact Nat.le_of_ble_eq_true rfl):ACalls P w0 f args ⟨B,Rw,L⟩ Post :=
 ACalls.finP (E8 (rs:=rs) hf hb hrs hn (AY hf (by rw [hb];rfl) hm) ha fun M0 W0 b a d g e=>k M0 W0 b a d g e (Owns.none Rw) rfl)
theorem ix {α β:Type} {l:List α} {i:Int} {F:α→Option β} {r:β} (g:α→AV) (h:(Cj l i).bind F=some r):∃ x,0≤i∧i<l.length∧(l.map g).getD i.toNat .junk=g x∧F x=some r:=by
 obtain ⟨x,d,h⟩:=bind_some h
 obtain ⟨a,b,c⟩:=Bl d
 exact ⟨x,a,b,Bn c,h⟩
abbrev Ck (e:Env) (st:St) (B:Ao) (Rw:Av) (L:As) (e0:Env) (bs:Ao) (ow:List (Nat × Nat × Own)) (c:Prop):Prop :=
 ∃ (X:Ao) (rows:Av),e=e0∧st=⟨B++(bs++X),rows,L⟩∧Owns Rw rows ow∧c
end Go.Ev
namespace Go.Proofs
open Go.Shelf
def Tryz.laysM171_ren:Go.Shelf.Ren:=⟨fun | 171=>134 | 243=>206 | 246=>272 | 283=>315 | 284=>316 | 285=>317 | 286=>318 | 129=>299 | 317=>344 | 318=>345 | 319=>346 | 320=>347 | 337=>364 | 338=>365 | n=>n,fun | 3=>3 | 9=>9 | 2=>2 | 4=>4 | 171=>315 | 0=>0 | 53=>301 | 37=>167 | 5=>5 | 173=>317 | 212=>339 | 51=>299 | 20=>20 | 213=>340 | 46=>231 | 232=>360 | 233=>361 | n=>n,fun | 17=>4 | 18=>7 | 19=>8 | n=>n⟩
theorem Tryz.laysM171:Go.Proofs.LaysM.n171 Tryz.prog Tryz.laysM171_ren:={
 mixed:=by kernel_rfl
 f129:=Tryz.func299.trans (congrArg some (by kernel_rfl))
 f171:=Tryz.func134.trans (congrArg some (by kernel_rfl))
 f243:=Tryz.func206.trans (congrArg some (by kernel_rfl))
 f246:=Tryz.func272.trans (congrArg some (by kernel_rfl))
 f283:=Tryz.func315.trans (congrArg some (by kernel_rfl))
 f284:=Tryz.func316.trans (congrArg some (by kernel_rfl))
 f285:=Tryz.func317.trans (congrArg some (by kernel_rfl))
 f286:=Tryz.func318.trans (congrArg some (by kernel_rfl))
 f317:=Tryz.func344.trans (congrArg some (by kernel_rfl))
 f318:=Tryz.func345.trans (congrArg some (by kernel_rfl))
 f319:=Tryz.func346.trans (congrArg some (by kernel_rfl))
 f320:=Tryz.func347.trans (congrArg some (by kernel_rfl))
 f337:=Tryz.func364.trans (congrArg some (by kernel_rfl))
 f338:=Tryz.func365.trans (congrArg some (by kernel_rfl))
 t0:=Tryz.underlying0
 a0:=Tryz.isAgg0
 z0:=Tryz.sizeOf0
 v0:=Tryz.zeroValue0
 t2:=Tryz.underlying2
 a2:=Tryz.isAgg2
 z2:=Tryz.sizeOf2
 v2:=Tryz.zeroValue2
 t3:=Tryz.underlying3
 a3:=Tryz.isAgg3
 z3:=Tryz.sizeOf3
 v3:=Tryz.zeroValue3
 t4:=Tryz.underlying4
 a4:=Tryz.isAgg4
 z4:=Tryz.sizeOf4
 v4:=Tryz.zeroValue4
 t5:=Tryz.underlying5
 a5:=Tryz.isAgg5
 z5:=Tryz.sizeOf5
 v5:=Tryz.zeroValue5
 t9:=Tryz.underlying9
 a9:=Tryz.isAgg9
 z9:=Tryz.sizeOf9
 v9:=Tryz.zeroValue9
 t20:=Tryz.underlying20
 a20:=Tryz.isAgg20
 z20:=Tryz.sizeOf20
 v20:=Tryz.zeroValue20
 t37:=Tryz.underlying167
 a37:=Tryz.isAgg167
 z37:=Tryz.sizeOf167
 v37:=Tryz.zeroValue167
 t46:=Tryz.underlying231
 a46:=Tryz.isAgg231
 z46:=Tryz.sizeOf231
 v46:=Tryz.zeroValue231
 t51:=Tryz.underlying299
 a51:=Tryz.isAgg299
 z51:=Tryz.sizeOf299
 v51:=Tryz.zeroValue299
 t53:=Tryz.underlying301
 a53:=Tryz.isAgg301
 z53:=Tryz.sizeOf301
 v53:=Tryz.zeroValue301
 t171:=Tryz.underlying315
 a171:=Tryz.isAgg315
 z171:=Tryz.sizeOf315
 v171:=Tryz.zeroValue315
 t173:=Tryz.underlying317
 a173:=Tryz.isAgg317
 z173:=Tryz.sizeOf317
 v173:=Tryz.zeroValue317
 t212:=Tryz.underlying339
 a212:=Tryz.isAgg339
 z212:=Tryz.sizeOf339
 v212:=Tryz.zeroValue339
 t213:=Tryz.underlying340
 a213:=Tryz.isAgg340
 z213:=Tryz.sizeOf340
 t232:=Tryz.underlying360
 a232:=Tryz.isAgg360
 z232:=Tryz.sizeOf360
 v232:=Tryz.zeroValue360
 t233:=Tryz.underlying361
 a233:=Tryz.isAgg361
 z233:=Tryz.sizeOf361
 v233:=Tryz.zeroValue361
 g17:=by kernel_rfl
 g18:=by kernel_rfl
 g19:=by kernel_rfl
 i0:=by kernel_rfl
 i2:=by kernel_rfl
 i3:=by kernel_rfl
 i4:=by kernel_rfl
 i5:=by kernel_rfl
 i9:=by kernel_rfl
 i20:=by kernel_rfl
 i37:=by kernel_rfl
 i46:=by kernel_rfl
 i51:=by kernel_rfl
 i53:=by kernel_rfl
 i171:=by kernel_rfl
 i173:=by kernel_rfl
 i212:=by kernel_rfl
 i232:=by kernel_rfl
 i233:=by kernel_rfl
 m17:=by kernel_rfl
 m18:=by kernel_rfl
 m19:=by kernel_rfl }
def Tryz.laysValid_ren:Go.Shelf.Ren:=⟨fun | 196=>222 | 259=>279 | n=>n,fun | 9=>9 | 4=>4 | 3=>3 | 5=>5 | 12=>12 | 119=>279 | 0=>0 | 46=>231 | 139=>282 | 138=>281 | 53=>301 | n=>n,fun | 3=>2 | 4=>3 | n=>n⟩
theorem Tryz.laysValid:Go.Proofs.Lays.n196 Tryz.prog Tryz.laysValid_ren:={
 mixed:=by kernel_rfl
 f196:=Tryz.func222.trans (congrArg some (by kernel_rfl))
 f259:=Tryz.func279.trans (congrArg some (by kernel_rfl))
 t0:=Tryz.underlying0
 a0:=Tryz.isAgg0
 z0:=Tryz.sizeOf0
 v0:=Tryz.zeroValue0
 t3:=Tryz.underlying3
 a3:=Tryz.isAgg3
 z3:=Tryz.sizeOf3
 v3:=Tryz.zeroValue3
 t4:=Tryz.underlying4
 a4:=Tryz.isAgg4
 z4:=Tryz.sizeOf4
 v4:=Tryz.zeroValue4
 t5:=Tryz.underlying5
 a5:=Tryz.isAgg5
 z5:=Tryz.sizeOf5
 v5:=Tryz.zeroValue5
 t9:=Tryz.underlying9
 a9:=Tryz.isAgg9
 z9:=Tryz.sizeOf9
 v9:=Tryz.zeroValue9
 t12:=Tryz.underlying12
 a12:=Tryz.isAgg12
 z12:=Tryz.sizeOf12
 v12:=Tryz.zeroValue12
 t46:=Tryz.underlying231
 a46:=Tryz.isAgg231
 z46:=Tryz.sizeOf231
 v46:=Tryz.zeroValue231
 t53:=Tryz.underlying301
 a53:=Tryz.isAgg301
 z53:=Tryz.sizeOf301
 v53:=Tryz.zeroValue301
 t119:=Tryz.underlying279
 a119:=Tryz.isAgg279
 z119:=Tryz.sizeOf279
 t138:=Tryz.underlying281
 a138:=Tryz.isAgg281
 z138:=Tryz.sizeOf281
 v138:=Tryz.zeroValue281
 t139:=Tryz.underlying282
 a139:=Tryz.isAgg282
 z139:=Tryz.sizeOf282
 v139:=Tryz.zeroValue282
 g3:=by kernel_rfl
 g4:=by kernel_rfl }
end Go.Proofs
namespace Go.Proofs.YtmcnjijeocmkgaaGreatDoor
open Go Go.RowKit Go.Ev
@[go_sem] theorem Zil:EE Tryz.prog 103=none∧EE Tryz.prog 113=none∧EE Tryz.prog 124=none∧EE Tryz.prog 129=none∧EE Tryz.prog 132=none∧EE Tryz.prog 146=none∧EE Tryz.prog 153=none∧EE Tryz.prog 165=none∧EE Tryz.prog 167=none∧EE Tryz.prog 189=some (11,1,false)∧EE Tryz.prog 22=none∧EE Tryz.prog 23=none:=by (repeat' apply Ae)<;>kernel_rfl
@[go_sem] theorem ZiL:EE Tryz.prog 24=none∧EE Tryz.prog 258=none∧EE Tryz.prog 259=some (11,8,true)∧EE Tryz.prog 26=none∧EE Tryz.prog 31=none∧EE Tryz.prog 32=none∧EE Tryz.prog 34=none∧EE Tryz.prog 47=none∧EE Tryz.prog 49=none∧EE Tryz.prog 63=none∧EE Tryz.prog 65=none∧EE Tryz.prog 67=none:=by (repeat' apply Ae)<;>kernel_rfl
@[go_sem] theorem ZiS:EE Tryz.prog 71=none∧EE Tryz.prog 73=none∧EE Tryz.prog 81=none∧EE Tryz.prog 83=none∧EE Tryz.prog 87=none∧EE Tryz.prog 9=none∧EE Tryz.prog 95=none∧Lr Tryz.prog 4=true∧Jn Tryz.prog 167=true∧Jn Tryz.prog 21=false∧Jn Tryz.prog 231=false∧Jn Tryz.prog 3=false:=by (repeat' apply Ae)<;>kernel_rfl
@[go_sem] theorem Rk:KA Tryz.prog 113=some (146,3,true,32):=by kernel_rfl
@[go_sem] theorem Qf:KA Tryz.prog 22=some (9,1,false,16):=by kernel_rfl
@[go_sem] theorem YQ:KA Tryz.prog 23=some (26,7,true,104):=by kernel_rfl
@[go_sem] theorem S8:KA Tryz.prog 24=some (95,11,true,160):=by kernel_rfl
@[go_sem] theorem LZ:KA Tryz.prog 31=some (34,6,true,88):=by kernel_rfl
@[go_sem] theorem Zbl:KA Tryz.prog 32=some (81,7,true,104):=by kernel_rfl
@[go_sem] theorem ZbG:KA Tryz.prog 47=some (67,6,true,96):=by kernel_rfl
@[go_sem] theorem Zch:KA Tryz.prog 63=some (65,5,true,80):=by kernel_rfl
@[go_sem] theorem VA:KA Tryz.prog 71=some (113,1,false,24):=by kernel_rfl
@[go_sem] theorem ZhL:Jn Tryz.prog 9=false∧KA Tryz.prog 129=some (41,1,false,8)∧KA Tryz.prog 165=some (3,1,false,8)∧KA Tryz.prog 167=some (5,1,false,1)∧KA Tryz.prog 189=none∧KA Tryz.prog 259=none∧KA Tryz.prog 73=some (49,1,true,24)∧KA Tryz.prog 83=some (87,2,true,24)∧KA Tryz.prog 9=none:=by (repeat' apply Ae)<;>kernel_rfl
@[go_sem] theorem ZdO (xs ys:List AV):MR Tryz.prog .eql 146 xs ys=(obK [(some .i64,false),(some .i64,false),(none,true)] xs ys,MX xs ys):=Vb (by kernel_rfl) xs ys
@[go_sem] theorem Zds (xs ys:List AV):MR Tryz.prog .neq 146 xs ys=(obK [(some .i64,false),(some .i64,false),(none,true)] xs ys,!MX xs ys):=Zao (by kernel_rfl) xs ys
@[go_sem] theorem Zfh (xs ys:List AV):MR Tryz.prog .eql 87 xs ys=(obK [(none,true),(some .i64,false)] xs ys,MX xs ys):=Vb (by kernel_rfl) xs ys
@[go_sem] theorem Zgw:CE Tryz.prog 124 1=some (1,1,false)∧CE Tryz.prog 132 2=some (8,1,false)∧CE Tryz.prog 146 0=some (0,1,false)∧CE Tryz.prog 146 1=some (1,1,false)∧CE Tryz.prog 146 2=some (2,1,false)∧CE Tryz.prog 258 1=some (1,1,false)∧CE Tryz.prog 258 2=some (2,1,false)∧CE Tryz.prog 258 3=some (3,1,false)∧CE Tryz.prog 258 4=some (4,1,false)∧CE Tryz.prog 258 5=some (5,1,false)∧CE Tryz.prog 258 6=some (6,1,false)∧CE Tryz.prog 258 7=some (7,1,false):=by (repeat' apply Ae)<;>kernel_rfl
@[go_sem] theorem Zhz:CE Tryz.prog 26 0=some (0,1,false)∧CE Tryz.prog 26 1=some (1,1,false)∧CE Tryz.prog 26 2=some (2,1,false)∧CE Tryz.prog 26 3=some (3,1,false)∧CE Tryz.prog 26 4=some (4,1,false)∧CE Tryz.prog 26 5=some (5,1,false)∧CE Tryz.prog 26 6=some (6,1,false)∧CE Tryz.prog 28 0=some (0,7,true)∧CE Tryz.prog 28 1=some (7,7,true)∧CE Tryz.prog 34 0=some (0,1,false)∧CE Tryz.prog 34 1=some (1,1,false)∧CE Tryz.prog 34 2=some (2,1,false):=by (repeat' apply Ae)<;>kernel_rfl
@[go_sem] theorem ZgW:CE Tryz.prog 34 3=some (3,1,false)∧CE Tryz.prog 34 4=some (4,1,false)∧CE Tryz.prog 34 5=some (5,1,false)∧CE Tryz.prog 49 0=some (0,1,false)∧CE Tryz.prog 65 0=some (0,1,false)∧CE Tryz.prog 65 1=some (1,1,false)∧CE Tryz.prog 65 2=some (2,1,false)∧CE Tryz.prog 65 3=some (3,1,false)∧CE Tryz.prog 65 4=some (4,1,false)∧CE Tryz.prog 67 0=some (0,1,false)∧CE Tryz.prog 67 1=some (1,5,true)∧CE Tryz.prog 75 0=some (0,1,false):=by (repeat' apply Ae)<;>kernel_rfl
@[go_sem] theorem Zhd:CE Tryz.prog 75 1=some (1,1,false)∧CE Tryz.prog 81 0=some (0,1,false)∧CE Tryz.prog 81 1=some (1,6,true)∧CE Tryz.prog 95 0=some (0,1,false)∧CE Tryz.prog 95 1=some (1,1,false)∧CE Tryz.prog 95 2=some (2,1,false)∧CE Tryz.prog 95 3=some (3,7,true)∧CE Tryz.prog 95 4=some (10,1,false)∧M6 Tryz.prog 167=none∧M6 Tryz.prog 21=some .i32∧M6 Tryz.prog 231=some .u64∧M6 Tryz.prog 3=some .i64:=by (repeat' apply Ae)<;>kernel_rfl
@[go_sem] theorem Zjv:M6 Tryz.prog 9=none∧Cm Tryz.prog 103=some [(0,1),(1,1)]∧Cm Tryz.prog 124=some [(0,1),(1,1),(2,7)]∧Cm Tryz.prog 132=some [(0,1),(1,7),(8,1)]∧Cm Tryz.prog 146=some [(0,1),(1,1),(2,1)]∧Cm Tryz.prog 153=some []∧Cm Tryz.prog 189=none∧Cm Tryz.prog 258=some [(0,1),(1,1),(2,1),(3,1),(4,1),(5,1),(6,1),(7,1)]∧Cm Tryz.prog 259=none∧Cm Tryz.prog 26=some [(0,1),(1,1),(2,1),(3,1),(4,1),(5,1),(6,1)]∧Cm Tryz.prog 34=some [(0,1),(1,1),(2,1),(3,1),(4,1),(5,1)]∧Cm Tryz.prog 49=some [(0,1)]:=by (repeat' apply Ae)<;>kernel_rfl
@[go_sem] theorem ZgN:Cm Tryz.prog 65=some [(0,1),(1,1),(2,1),(3,1),(4,1)]∧Cm Tryz.prog 67=some [(0,1),(1,5)]∧Cm Tryz.prog 81=some [(0,1),(1,6)]∧Cm Tryz.prog 87=some [(0,1),(1,1)]∧Cm Tryz.prog 95=some [(0,1),(1,1),(2,1),(3,7),(10,1)]∧Ej Tryz.prog 113=false∧Ej Tryz.prog 129=false∧Ej Tryz.prog 165=false∧Ej Tryz.prog 167=false∧Ej Tryz.prog 189=false∧Ej Tryz.prog 21=false∧Ej Tryz.prog 22=false:=by (repeat' apply Ae)<;>kernel_rfl
@[go_sem] theorem ZiT:Ej Tryz.prog 23=false∧Ej Tryz.prog 231=false∧Ej Tryz.prog 24=false∧Ej Tryz.prog 259=false∧Ej Tryz.prog 3=false∧Ej Tryz.prog 31=false∧Ej Tryz.prog 32=false∧Ej Tryz.prog 47=false∧Ej Tryz.prog 63=false∧Ej Tryz.prog 71=false∧Ej Tryz.prog 73=false∧Ej Tryz.prog 83=false:=by (repeat' apply Ae)<;>kernel_rfl
@[go_sem] theorem Zjs:Ej Tryz.prog 9=true∧GK Tryz.prog 103=some (2,true)∧GK Tryz.prog 109=some (1,false)∧GK Tryz.prog 113=some (1,false)∧GK Tryz.prog 122=some (1,false)∧GK Tryz.prog 142=some (1,false)∧GK Tryz.prog 146=some (3,true)∧GK Tryz.prog 152=some (1,false)∧GK Tryz.prog 153=some (0,true)∧GK Tryz.prog 158=some (1,false)∧GK Tryz.prog 189=some (11,true)∧GK Tryz.prog 215=some (1,false):=by (repeat' apply Ae)<;>kernel_rfl
@[go_sem] theorem Zjp:GK Tryz.prog 22=some (1,false)∧GK Tryz.prog 23=some (1,false)∧GK Tryz.prog 24=some (1,false)∧GK Tryz.prog 253=some (1,false)∧GK Tryz.prog 258=some (8,true)∧GK Tryz.prog 259=some (88,true)∧GK Tryz.prog 26=some (7,true)∧GK Tryz.prog 28=some (14,true)∧GK Tryz.prog 3=some (1,false)∧GK Tryz.prog 31=some (1,false)∧GK Tryz.prog 32=some (1,false)∧GK Tryz.prog 34=some (6,true):=by (repeat' apply Ae)<;>kernel_rfl
@[go_sem] theorem tyT_4:GK Tryz.prog 4=some (1,false)∧GK Tryz.prog 41=some (1,false)∧GK Tryz.prog 47=some (1,false)∧GK Tryz.prog 49=some (1,true)∧GK Tryz.prog 5=some (1,false)∧GK Tryz.prog 63=some (1,false)∧GK Tryz.prog 65=some (5,true)∧GK Tryz.prog 67=some (6,true)∧GK Tryz.prog 71=some (1,false)∧GK Tryz.prog 73=some (1,false)∧GK Tryz.prog 75=some (2,true)∧GK Tryz.prog 81=some (7,true):=by (repeat' apply Ae)<;>kernel_rfl
@[go_sem] theorem NP:BA Tryz.prog 113=some [.list [] .full]:=by kernel_rfl
@[go_sem] theorem NN:BA Tryz.prog 146=some [Am 0,Am 0,.val (.string ⟨#[]⟩)]:=by kernel_rfl
@[go_sem] theorem ZjB:GK Tryz.prog 83=some (1,false)∧GK Tryz.prog 87=some (2,true)∧GK Tryz.prog 9=some (1,false)∧GK Tryz.prog 95=some (11,true)∧BA Tryz.prog 103=some [.val .nilFunc,.val (.bool false)]∧BA Tryz.prog 122=some [.val (.pointer none)]∧BA Tryz.prog 124=some [.list [] .full,.list [] .full,Am 0,Am 0,Am 0,Am 0,.list [] .full,.list [] .full,.list [] .full]∧BA Tryz.prog 132=some [.list [] .full,Am 0,Am 0,Am 0,Am 0,.list [] .full,.list [] .full,.list [] .full,.val (.bool false)]∧BA Tryz.prog 142=some [.val .nilFunc]∧BA Tryz.prog 152=some [.val (.map none)]∧BA Tryz.prog 153=some []∧BA Tryz.prog 189=some [.val .nilFunc,.val .nilFunc,.val .nilFunc,.val .nilFunc,.val .nilFunc,.val .nilFunc,.val .nilFunc,.val .nilFunc,.val .nilFunc,.val .nilFunc,.val .nilFunc]:=by (repeat' apply Ae)<;>kernel_rfl
@[go_sem] theorem RI:BA Tryz.prog 26=some [Am 0,Am 0,Am 0,Am 0,.list [] .full,.list [] .full,.list [] .full]:=by kernel_rfl
@[go_sem] theorem H2:BA Tryz.prog 34=some [Am 0,Am 0,Am 0,.val (.string ⟨#[]⟩),.list [] .full,.list [] .full]:=by kernel_rfl
@[go_sem] theorem X4:BA Tryz.prog 65=some [Am 0,Am 0,.val (.string ⟨#[]⟩),.list [] .full,.list [] .full]:=by kernel_rfl
@[go_sem] theorem Xy:BA Tryz.prog 67=some [.val (.string ⟨#[]⟩),Am 0,Am 0,.val (.string ⟨#[]⟩),.list [] .full,.list [] .full]:=by kernel_rfl
@[go_sem] theorem XP:BA Tryz.prog 81=some [.val (.string ⟨#[]⟩),Am 0,Am 0,Am 0,.val (.string ⟨#[]⟩),.list [] .full,.list [] .full]:=by kernel_rfl
@[go_sem] theorem Zhs:BA Tryz.prog 215=some [.val .nilFunc]∧BA Tryz.prog 22=some [.list [] .full]∧BA Tryz.prog 253=some [.val .nilFunc]∧BA Tryz.prog 258=some [.val (.string ⟨#[]⟩),Am 0,Am 0,.val (.bool false),.val (.bool false),.val (.bool false),.val (.bool false),.val (.bool false)]∧BA Tryz.prog 259=some [.val (.string ⟨#[]⟩),Am 0,Am 0,.val (.bool false),.val (.bool false),.val (.bool false),.val (.bool false),.val (.bool false),.val (.string ⟨#[]⟩),Am 0,Am 0,.val (.bool false),.val (.bool false),.val (.bool false),.val (.bool false),.val (.bool false),.val (.string ⟨#[]⟩),Am 0,Am 0,.val (.bool false),.val (.bool false),.val (.bool false),.val (.bool false),.val (.bool false),.val (.string ⟨#[]⟩),Am 0,Am 0,.val (.bool false),.val (.bool false),.val (.bool false),.val (.bool false),.val (.bool false),.val (.string ⟨#[]⟩),Am 0,Am 0,.val (.bool false),.val (.bool false),.val (.bool false),.val (.bool false),.val (.bool false),.val (.string ⟨#[]⟩),Am 0,Am 0,.val (.bool false),.val (.bool false),.val (.bool false),.val (.bool false),.val (.bool false),.val (.string ⟨#[]⟩),Am 0,Am 0,.val (.bool false),.val (.bool false),.val (.bool false),.val (.bool false),.val (.bool false),.val (.string ⟨#[]⟩),Am 0,Am 0,.val (.bool false),.val (.bool false),.val (.bool false),.val (.bool false),.val (.bool false),.val (.string ⟨#[]⟩),Am 0,Am 0,.val (.bool false),.val (.bool false),.val (.bool false),.val (.bool false),.val (.bool false),.val (.string ⟨#[]⟩),Am 0,Am 0,.val (.bool false),.val (.bool false),.val (.bool false),.val (.bool false),.val (.bool false),.val (.string ⟨#[]⟩),Am 0,Am 0,.val (.bool false),.val (.bool false),.val (.bool false),.val (.bool false),.val (.bool false)]∧BA Tryz.prog 3=some [Am 0]∧BA Tryz.prog 4=some [.val (.bool false)]∧BA Tryz.prog 41=some [Am 0]∧BA Tryz.prog 49=some [.list [] .full]∧BA Tryz.prog 71=some [.list [] .full]∧BA Tryz.prog 83=some [.list [] .full]∧BA Tryz.prog 87=some [.val (.string ⟨#[]⟩),Am 0]:=by (repeat' apply Ae)<;>kernel_rfl
@[go_sem] theorem NJ:BA Tryz.prog 9=some [.val (.string ⟨#[]⟩)]:=by kernel_rfl
@[go_sem] theorem M9:BA Tryz.prog 95=some [Am 0,.val (.string ⟨#[]⟩),Am 0,Am 0,Am 0,Am 0,Am 0,.list [] .full,.list [] .full,.list [] .full,.list [] .full]:=by kernel_rfl
theorem PS:Tryz.prog.follows .mixedOrders=true:=by kernel_rfl
inductive Vl where
 | mk (kind int scale:Int) (text:ByteArray) (list:List Vl) (fields:List (ByteArray × Vl))
inductive Ty where
 | mk (kind min max scale:Int) (words:List ByteArray) (elem:List Ty) (fields:List (Int × ByteArray × Int × Ty × List Vl))
abbrev KO:List AV:=[Am 0,Am 0,Am 0,.val (.string ⟨#[]⟩),.list [] .full,.list [] .full]
namespace Vl
def kind:Vl→Int | mk k _ _ _ _ _=>k
def int:Vl→Int | mk _ i _ _ _ _=>i
def scale:Vl→Int | mk _ _ s _ _ _=>s
def text:Vl→ByteArray | mk _ _ _ t _ _=>t
def list:Vl→List Vl | mk _ _ _ _ l _=>l
def fields:Vl→List (ByteArray × Vl) | mk _ _ _ _ _ f=>f
end Vl
mutual
def Vl.size:Vl→Nat
 | .mk _ _ _ _ l f=>1+DV l+Em f
def DV:List Vl→Nat
 | []=>0
 | v::r=>v.size+DV r
def Em:List (ByteArray × Vl)→Nat
 | []=>0
 | (_,v)::r=>v.size+Em r
end
mutual
def Vl.cs:Vl→List AV
 | .mk k i s t l f=>[.val (.int .i64 k),.val (.int .i64 i),.val (.int .i64 s),.val (.string t),.list (Ec l) .none,.list (Jt f) .none]
def Ec:List Vl→List AV
 | []=>[]
 | v::r => .agg v.cs::Ec r
def Jt:List (ByteArray × Vl)→List AV
 | []=>[]
 | (n,v)::r => .agg (.val (.string n)::v.cs)::Jt r
end
mutual
def Ty.size:Ty→Nat
 | .mk _ _ _ _ _ e f=>1+Fh e+DD f
def Fh:List Ty→Nat
 | []=>0
 | t::r=>t.size+Fh r
def DD:List (Int × ByteArray × Int × Ty × List Vl)→Nat
 | []=>0
 | (_,_,_,t,_)::r=>t.size+DD r
end
mutual
def Ty.cs:Ty→List AV
 | .mk k lo hi s w e f=>[.val (.int .i64 k),.val (.int .i64 lo),.val (.int .i64 hi),.val (.int .i64 s),.list (w.map fun x => .val (.string x)) .none,.list (MK e) .none,.list (Ip f) .none]
def MK:List Ty→List AV
 | []=>[]
 | t::r => .agg t.cs::MK r
def Ip:List (Int × ByteArray × Int × Ty × List Vl)→List AV
 | []=>[]
 | (n,s,d,t,l)::r => .agg (.val (.int .i64 n) :: .val (.string s) :: .val (.int .i64 d)::(t.cs++[.list (Ec l) .none]))::Ip r
end
theorem EC:∀ l:List Vl,Ec l=l.map fun v => .agg v.cs
 | []=>rfl
 | v::r=>by simp [Ec,EC r]
theorem NE:∀ l:List (ByteArray × Vl),Jt l=l.map fun p => .agg (.val (.string p.1)::p.2.cs)
 | []=>rfl
 | (n,v)::r=>by simp [Jt,NE r]
@[go_sem] theorem Pv (l:List Vl):(Ec l).length=l.length:=by simp [EC]
@[go_sem] theorem VS (l:List (ByteArray × Vl)):(Jt l).length=l.length:=by simp [NE]
theorem P3:∀ l:List Ty,MK l=l.map fun v => .agg v.cs
 | []=>rfl
 | v::r=>by simp [MK,P3 r]
theorem OZ:∀ l:List (Int × ByteArray × Int × Ty × List Vl),Ip l=l.map fun p => .agg (Am p.1 :: .val (.string p.2.1)::Am p.2.2.1::(p.2.2.2.1.cs++[.list (Ec p.2.2.2.2) .none]))
 | []=>rfl
 | (n,s,d,t,l)::r=>by simp [Ip,OZ r]
@[go_sem] theorem Ze5 (l:List Ty):(MK l).length=l.length:=by simp [P3]
@[go_sem] theorem Zdm (l:List (Int × ByteArray × Int × Ty × List Vl)):(Ip l).length=l.length:=by simp [OZ]
theorem Vl.cs_eq (v:Vl):v.cs=[.val (.int .i64 v.kind),.val (.int .i64 v.int),.val (.int .i64 v.scale),.val (.string v.text),.list (Ec v.list) .none,.list (Jt v.fields) .none]:=by cases v;rfl
@[go_sem] theorem Vl.cs_length (v:Vl):v.cs.length=6:=by cases v;rfl
@[go_sem] theorem Vl.cs_pub (v:Vl):v.cs.map AV.pubCell=v.cs:=by cases v;rfl
mutual
theorem Vl.under (nb nr nl:Nat):∀ v:Vl,∀ x∈v.cs,Under nb nr nl x
 | .mk k i s t l f=>by
  intro x a
  simp only [Vl.cs,List.mem_cons,List.not_mem_nil,or_false] at a
  rcases a with rfl | rfl | rfl | rfl | rfl | rfl
  ·exact .val _
  ·exact .val _
  ·exact .val _
  ·exact .val _
  ·exact .list (IL nb nr nl l) trivial
  ·exact .list (KC nb nr nl f) trivial
theorem IL (nb nr nl:Nat):∀ l:List Vl,∀ x∈Ec l,Under nb nr nl x
 | []=>fun _ h=>by simp [Ec] at h
 | v::r=>by
  intro x hx
  simp only [Ec,List.mem_cons] at hx
  rcases hx with rfl | hx
  ·exact .agg (Vl.under nb nr nl v)
  ·exact IL nb nr nl r x hx
theorem KC (nb nr nl:Nat):∀ l:List (ByteArray × Vl),∀ x∈Jt l,Under nb nr nl x
 | []=>fun _ h=>by simp [Jt] at h
 | (n,v)::r=>by
  intro x hx
  simp only [Jt,List.mem_cons] at hx
  rcases hx with rfl | hx
  ·refine .agg fun y hy=>?_
   rcases List.mem_cons.1 hy with rfl | hy
   ·exact .val _
   ·exact Vl.under nb nr nl v y hy
  ·exact KC nb nr nl r x hx
end
mutual
theorem Ty.under (nb nr nl:Nat):∀ v:Ty,∀ x∈v.cs,Under nb nr nl x
 | .mk k lo hi s w e f=>by
  intro x a
  simp only [Ty.cs,List.mem_cons,List.not_mem_nil,or_false] at a
  rcases a with rfl | rfl | rfl | rfl | rfl | rfl | rfl
  ·exact .val _
  ·exact .val _
  ·exact .val _
  ·exact .val _
  ·refine .list (fun y b=>?_) trivial
   obtain ⟨z,_,rfl⟩:=List.mem_map.1 b
   exact .val _
  ·exact .list (ND nb nr nl e) trivial
  ·exact .list (JC nb nr nl f) trivial
theorem ND (nb nr nl:Nat):∀ l:List Ty,∀ x∈MK l,Under nb nr nl x
 | []=>fun _ h=>by simp [MK] at h
 | v::r=>by
  intro x hx
  simp only [MK,List.mem_cons] at hx
  rcases hx with rfl | hx
  ·exact .agg (Ty.under nb nr nl v)
  ·exact ND nb nr nl r x hx
theorem JC (nb nr nl:Nat):∀ l:List (Int × ByteArray × Int × Ty × List Vl),∀ x∈Ip l,Under nb nr nl x
 | []=>fun _ h=>by simp [Ip] at h
 | (n,s,d,t,l)::r=>by
  intro x hx
  simp only [Ip,List.mem_cons] at hx
  rcases hx with rfl | hx
  ·refine .agg fun y hy=>?_
   simp only [List.mem_cons,List.mem_append,List.not_mem_nil,or_false] at hy
   rcases hy with rfl | rfl | rfl | hy | rfl
   ·exact .val _
   ·exact .val _
   ·exact .val _
   ·exact Ty.under nb nr nl t y hy
   ·exact .list (IL nb nr nl l) trivial
  ·exact JC nb nr nl r x hx
end
@[go_sem] theorem Ziu (nb nr nl:Nat) (v:Vl):Under nb nr nl (.agg v.cs)↔True:=iff_true_intro (.agg (v.under nb nr nl))
@[go_sem] theorem ZhF (nb nr nl:Nat) (v:Ty):Under nb nr nl (.agg v.cs)↔True:=iff_true_intro (.agg (v.under nb nr nl))
@[go_sem] theorem Zfy (nb nr nl:Nat) (l:List Vl):(∀ x∈Ec l,Under nb nr nl x)↔True:=iff_true_intro (IL nb nr nl l)
@[go_sem] theorem ZfN (nb nr nl:Nat) (l:List (ByteArray × Vl)):(∀ x∈Jt l,Under nb nr nl x)↔True:=iff_true_intro (KC nb nr nl l)
@[go_sem] theorem Zfr (nb nr nl:Nat) (l:List Ty):(∀ x∈MK l,Under nb nr nl x)↔True:=iff_true_intro (ND nb nr nl l)
@[go_sem] theorem Ze8 (nb nr nl:Nat) (l:List (Int × ByteArray × Int × Ty × List Vl)):(∀ x∈Ip l,Under nb nr nl x)↔True:=iff_true_intro (JC nb nr nl l)
theorem Ty.cs_eq (t:Ty):∃ k lo hi s w e f,t = .mk k lo hi s w e f:=by cases t;exact ⟨_,_,_,_,_,_,_,rfl⟩
@[go_sem] theorem Ty.cs_length (v:Ty):v.cs.length=7:=by cases v;rfl
@[go_sem] theorem Ty.cs_pub (v:Ty):v.cs.map AV.pubCell=v.cs:=by cases v;rfl
namespace Ty
def kind:Ty→Int | mk k _ _ _ _ _ _=>k
def min:Ty→Int | mk _ m _ _ _ _ _=>m
def max:Ty→Int | mk _ _ m _ _ _ _=>m
def scale:Ty→Int | mk _ _ _ s _ _ _=>s
def words:Ty→List ByteArray | mk _ _ _ _ w _ _=>w
def elem:Ty→List Ty | mk _ _ _ _ _ e _=>e
def fields:Ty→List (Int × ByteArray × Int × Ty × List Vl) | mk _ _ _ _ _ _ f=>f
end Ty
section
variable (v:Vl) (t:Ty) (x d:AV) (l:List AV)
@[go_sem] theorem Vl.g0:v.cs.getD 0 d = .val (.int .i64 v.kind):=by cases v;rfl
@[go_sem] theorem Vl.g1:v.cs.getD 1 d = .val (.int .i64 v.int):=by cases v;rfl
@[go_sem] theorem Vl.g2:v.cs.getD 2 d = .val (.int .i64 v.scale):=by cases v;rfl
@[go_sem] theorem Vl.g3:v.cs.getD 3 d = .val (.string v.text):=by cases v;rfl
@[go_sem] theorem Vl.g4:v.cs.getD 4 d = .list (Ec v.list) .none:=by cases v;rfl
@[go_sem] theorem Vl.g5:v.cs.getD 5 d = .list (Jt v.fields) .none:=by cases v;rfl
@[go_sem] theorem Vl.take6:v.cs.take 6=v.cs:=by cases v;rfl
@[go_sem] theorem Vl.take6a:(v.cs++l).take 6=v.cs:=by cases v;rfl
@[go_sem] theorem Ty.g0:t.cs.getD 0 d = .val (.int .i64 t.kind):=by cases t;rfl
@[go_sem] theorem Ty.g1:t.cs.getD 1 d = .val (.int .i64 t.min):=by cases t;rfl
@[go_sem] theorem Ty.g2:t.cs.getD 2 d = .val (.int .i64 t.max):=by cases t;rfl
@[go_sem] theorem Ty.g3:t.cs.getD 3 d = .val (.int .i64 t.scale):=by cases t;rfl
@[go_sem] theorem Ty.g4:t.cs.getD 4 d = .list (t.words.map fun x => .val (.string x)) .none:=by cases t;rfl
@[go_sem] theorem Ty.g5:t.cs.getD 5 d = .list (MK t.elem) .none:=by cases t;rfl
@[go_sem] theorem Ty.g6:t.cs.getD 6 d = .list (Ip t.fields) .none:=by cases t;rfl
@[go_sem] theorem Ty.take7:t.cs.take 7=t.cs:=by cases t;rfl
@[go_sem] theorem Ty.a0:(t.cs++l).getD 0 d = .val (.int .i64 t.kind):=by cases t;rfl
@[go_sem] theorem Ty.a1:(t.cs++l).getD 1 d = .val (.int .i64 t.min):=by cases t;rfl
@[go_sem] theorem Ty.a2:(t.cs++l).getD 2 d = .val (.int .i64 t.max):=by cases t;rfl
@[go_sem] theorem Ty.a3:(t.cs++l).getD 3 d = .val (.int .i64 t.scale):=by cases t;rfl
@[go_sem] theorem Ty.a4:(t.cs++l).getD 4 d = .list (t.words.map fun x => .val (.string x)) .none:=by cases t;rfl
@[go_sem] theorem Ty.a5:(t.cs++l).getD 5 d = .list (MK t.elem) .none:=by cases t;rfl
@[go_sem] theorem Ty.a6:(t.cs++l).getD 6 d = .list (Ip t.fields) .none:=by cases t;rfl
@[go_sem] theorem Ty.a7:(t.cs++[x]).getD 7 d=x:=by cases t;rfl
@[go_sem] theorem Ty.take7a:(t.cs++l).take 7=t.cs:=by cases t;rfl
@[go_sem] theorem Ty.take8a:(t.cs++[x]).take 8=t.cs++[x]:=by cases t;rfl
@[go_sem] theorem Ty.drop7a:(t.cs++l).drop 7=l:=by cases t;rfl
attribute [go_sem] List.length_append List.map_append
end
end Go.Proofs.YtmcnjijeocmkgaaGreatDoor
namespace Go.Proofs.YtmcnjijeocmkgaaGreatDoor
open Go Go.RowKit Go.Ev
theorem ZO (t:ByteArray):GP t ⟨#[]⟩=decide (t.size=0):=by
 by_cases h:t.size=0
 ·have:t=⟨#[]⟩:=by
   obtain ⟨⟨l⟩⟩:=t
   simp [ByteArray.size] at h
   subst h;rfl
  subst this
  rfl
 ·simp only [h,decide_false]
  obtain ⟨⟨l⟩⟩:=t
  simp [ByteArray.size] at h
  simp [GP,h]
theorem O7 (w0:World) (B:Ao) (Rw:Av) (L:As) (n low high:Int) :
  ACalls Tryz.prog w0 251 [Am n,Am low,Am high] ⟨B,Rw,L⟩ fun r st=>r = .val (.bool (decide (low≤n)&&decide (n≤high)))∧st=⟨B,Rw,L⟩:=by
 refine ACalls.finP (E8 (rs:=[.tmp 6]) Tryz.func251 rfl rfl Tryz.ntmps251 (AY Tryz.func251 rfl (by decide)) (Nat.le_of_ble_eq_true rfl) ?_)
 intro M0 W0 g e d a f
 simp only [AA]
 apply An;intro K1 b
 apply Au 1 [0,1,2]
 rw [Ap];simp +decide only [go_sem]
 (repeat' apply Ae)<;>first | refine b _ _ ?_ | exact cl
 clear b
 apply An;intro K2 c
 apply Au 1 [6]
 rw [Ap];simp +decide only [go_sem]
 (repeat' apply Ae)<;>first | refine c _ _ ?_ | exact cl
 clear c
 apply A0;simp +decide only [go_sem]
 refine PP a pf pf pf (by simp +decide only [go_sem]) ⟨?_,rfl⟩
 rfl
def KH (c:Nat):Bool:=decide (97≤c)&&decide (c≤122)
def TG (c:Nat):Bool:=KH c||decide (c=95)||(decide (48≤c)&&decide (c≤57))
def ZV (l:List UInt8):Bool:=decide (1≤l.length∧l.length≤32)&&KH (l.headD 0).toNat&&l.all fun c=>TG c.toNat
def EK (s:ByteArray):Bool:=ZV s.data.toList
theorem Tn (s:ByteArray) (k:Nat) (h:k<s.size):s.get! k=s.data.toList[k]'(by simpa using h):=by
 rw [Utf8W.get!_of_lt s k h];rfl
theorem ZcC (s:ByteArray) (f:UInt8→Bool) (k:Nat) (h:k<s.size):(s.data.toList.drop k).all f=(f (s.get! k)&&(s.data.toList.drop (k+1)).all f):=by
 rw [List.drop_eq_getElem_cons (by simpa using h),Tn s k h];rfl
theorem ZcO (s:ByteArray) (h:0<s.size):s.data.toList.headD 0=s.get! 0:=by
 rw [Tn s 0 h]
 have b:0<s.data.toList.length:=by simpa using h
 have:∀ (l:List UInt8) (q:0<l.length),l.headD 0=l[0]:=fun l q=>by
  cases l with
  | nil=>simp at q
  | cons a l=>rfl
 exact this _ b
theorem ZaG (s:ByteArray) (k:Nat) (h:k<s.size):(F4 s.data.toList).getD k .junk = .val (.int .u8 (s.get! k).toNat):=by
 have a:s.data.toList.length=s.size:=by simp
 rw [Tn s k h]
 simp [F4,a,h,List.getD]
theorem V1 (s:ByteArray):(F4 s.data.toList).length=s.size:=by
 have a:s.data.toList.length=s.size:=by simp
 simp [F4,a]
theorem Zat (c:Nat):TG c=decide ((97≤(c:Int)∧(c:Int)≤122)∨(c:Int)=95∨(48≤(c:Int)∧(c:Int)≤57)):=by
 rw [Bool.eq_iff_iff]
 simp [TG,KH]
 omega
theorem Qy (c:Nat):KH c=decide (97≤(c:Int)∧(c:Int)≤122):=by
 rw [Bool.eq_iff_iff]
 simp [KH]
 omega
theorem RB (s:ByteArray) (h1:1≤s.size) (h2:s.size≤32):EK s=(KH (s.get! 0).toNat&&s.data.toList.all fun c=>TG c.toNat):=by
 have a:s.data.toList.length=s.size:=by simp
 rw [EK,ZV,Ad,ZcO s h1];rfl
theorem Y8 (s:ByteArray) (h:¬ (1≤s.size∧s.size≤32)):EK s=false:=by
 have a:s.data.toList.length=s.size:=by simp
 rw [EK,ZV,Ac];rfl
theorem NV (w0:World) (B:Ao) (Rw:Av) (L:As) (s:ByteArray) (hs:s.size≤maxLen) :
  ACalls Tryz.prog w0 198 [.val (.string s)] ⟨B,Rw,L⟩ fun r st=>r = .val (.bool (EK s))∧st=⟨B,Rw,L⟩:=by
 refine ACalls.finP (E8 (rs:=[.tmp 2]) Tryz.func198 rfl rfl Tryz.ntmps198 (AY Tryz.func198 rfl (by decide)) (Nat.le_of_ble_eq_true rfl) ?_)
 intro M0 W0 Q G F b O
 unfold maxLen at hs
 have K:s.data.toList.length=s.size:=by simp
 have f:=ZO s
 obtain ⟨d,hd⟩:∃ d,(s.get! 0).toNat=d:=⟨_,rfl⟩
 have a:=V1 s
 simp only [AA]
 apply An;intro K1 q
 apply Au 1 [0]
 rw [Ap];simp +decide only [go_sem,hd,a,f]
 (repeat' apply Ae)<;>first | refine q _ _ ?_ | exact cl
 clear q
 apply An;intro K2 u
 apply An;intro K3 y
 apply Au 1 [0,21]
 rw [Ap];simp +decide only [go_sem,hd,a,f]
 (repeat' apply Ae)<;>first | refine y _ _ ?_ | exact cl
 clear y
 refine A4 _ (by simp +decide only [go_sem]) (by simp +decide only [go_sem];rfl) (fun g=>?_) (fun g=>?_)
 ·simp only [Bool.or_eq_true,Bool.or_eq_false_iff,Bool.and_eq_true,Bool.and_eq_false_iff,decide_eq_true_eq,decide_eq_false_iff_not,Bool.not_eq_true',Bool.not_eq_false',Bool.not_eq_eq_eq_not,Bool.not_true,Bool.not_false] at g
  apply An;intro K4 w
  apply Au 1 [2]
  rw [Ap];simp +decide only [go_sem,hd,a,f]
  (repeat' apply Ae)<;>first | refine w _ _ ?_ | exact cl
  clear w
  apply A0;simp +decide only [go_sem]
  refine PP b pf pf pf (by simp +decide only [go_sem]) ⟨?_,rfl⟩
  rw [SC]
  congr 2
  symm
  by_cases hz:1≤s.size∧s.size≤32
  ·rw [RB s hz.1 hz.2,hd,Qy,Ac];rfl
  ·exact Y8 s hz
 simp only [Bool.or_eq_true,Bool.or_eq_false_iff,Bool.and_eq_true,Bool.and_eq_false_iff,decide_eq_true_eq,decide_eq_false_iff_not,Bool.not_eq_true',Bool.not_eq_false',Bool.not_eq_eq_eq_not,Bool.not_true,Bool.not_false] at g
 have J:1≤s.size∧s.size≤32∧97≤d∧d≤122:=by omega
 clear g
 have h:KH d=true:=by rw [Qy];exact Ah (by omega)
 apply EH;simp only [go_sem]
 (repeat' apply Ae)<;>first | refine u _ _ ?_ | exact cl
 clear u
 apply An;intro K5 D
 apply An;intro K6 t
 apply Au 1 [23,24,25]
 rw [Ap];simp +decide only [go_sem,hd,a,f]
 (repeat' apply Ae)<;>first | refine t _ _ ?_ | exact cl
 clear t
 apply Ar
 refine AC (fun m e st=>∃ k:Nat,k≤s.size∧m=s.size-k∧KH d=true∧(s.data.toList.all fun c=>TG c.toNat)=((s.data.toList.drop k).all fun c=>TG c.toNat)∧e=[(23,true,.list (F4 s.data.toList) .none),(24,true,Am s.size),(25,true,Am k)]∧st=⟨B,Rw,L⟩) s.size ⟨0,by omega,rfl,by assumption,rfl,rfl,rfl⟩ ?_
 rintro m e st ⟨k,N,rfl,H,p,rfl,rfl⟩ KR E
 obtain ⟨c,hc⟩:∃ c,(s.get! k).toNat=c:=⟨_,rfl⟩
 obtain ⟨x,hn1⟩:∃ x,(F4 s.data.toList).getD k .junk=x:=⟨_,rfl⟩
 apply An;intro K7 v
 apply Au 1 [23,24,25,26]
 rw [Ap];simp +decide only [go_sem,hn1,a]
 (repeat' apply Ae)<;>first | refine v _ _ ?_ | exact cl
 clear v
 apply An;intro K8 C
 refine A4 _ (by simp +decide only [go_sem]) (by simp +decide only [go_sem];rfl) (fun g=>?_) (fun g=>?_)
 rotate_left
 ·simp only [Bool.or_eq_true,Bool.or_eq_false_iff,Bool.and_eq_true,Bool.and_eq_false_iff,decide_eq_true_eq,decide_eq_false_iff_not,Bool.not_eq_true',Bool.not_eq_false',Bool.not_eq_eq_eq_not,Bool.not_true,Bool.not_false] at g
  apply I4;simp +decide only [go_sem,hn1,a]
  (repeat' apply Ae)<;>first | refine D _ _ ?_ | exact cl
  clear D
  apply An;intro K9 z
  apply Au 1 [2]
  rw [Ap];simp +decide only [go_sem,hn1,a]
  (repeat' apply Ae)<;>first | refine z _ _ ?_ | exact cl
  clear z
  apply A0;simp +decide only [go_sem]
  refine PP b pf pf pf (by simp +decide only [go_sem]) ⟨?_,rfl⟩
  rw [SC]
  have:k=s.size:=by omega
  subst this
  rw [RB s (by omega) (by omega),hd,h,p,List.drop_eq_nil_of_le (by omega)];rfl
 simp only [Bool.or_eq_true,Bool.or_eq_false_iff,Bool.and_eq_true,Bool.and_eq_false_iff,decide_eq_true_eq,decide_eq_false_iff_not,Bool.not_eq_true',Bool.not_eq_false',Bool.not_eq_eq_eq_not,Bool.not_true,Bool.not_false] at g
 have i:=ZcC s (fun c=>TG c.toNat) k (by omega)
 simp only [hc] at i
 rw [Zat c] at i
 have hn2:=ZaG s k (by omega)
 rw [hn1,hc] at hn2
 subst hn2
 apply EH;simp only [go_sem]
 (repeat' apply Ae)<;>first | refine C _ _ ?_ | exact cl
 clear C
 apply An;intro K10 l
 apply Ar
 apply An;intro K11 n
 apply Au 1 [4,23,24,25]
 rw [Ap];simp +decide only [go_sem,hn1,a]
 (repeat' apply Ae)<;>first | refine n _ _ ?_ | exact cl
 clear n
 apply An;intro K12 o
 apply Au 1 [23,24,25,46]
 rw [Ap];simp +decide only [go_sem,hn1,a]
 (repeat' apply Ae)<;>first | refine o _ _ ?_ | exact cl
 clear o
 refine A4 _ (by simp +decide only [go_sem]) (by simp +decide only [go_sem];rfl) (fun g=>?_) (fun g=>?_)
 ·simp only [Bool.or_eq_true,Bool.or_eq_false_iff,Bool.and_eq_true,Bool.and_eq_false_iff,decide_eq_true_eq,decide_eq_false_iff_not,Bool.not_eq_true',Bool.not_eq_false',Bool.not_eq_eq_eq_not,Bool.not_true,Bool.not_false] at g
  apply An;intro K13 j
  apply Au 1 [2]
  rw [Ap];simp +decide only [go_sem,hn1,a]
  (repeat' apply Ae)<;>first | refine j _ _ ?_ | exact cl
  clear j
  apply A0;simp +decide only [go_sem]
  refine PP b pf pf pf (by simp +decide only [go_sem]) ⟨?_,rfl⟩
  rw [SC]
  rw [RB s (by omega) (by omega),hd,h,p,i,Ac];rfl
 simp only [Bool.or_eq_true,Bool.or_eq_false_iff,Bool.and_eq_true,Bool.and_eq_false_iff,decide_eq_true_eq,decide_eq_false_iff_not,Bool.not_eq_true',Bool.not_eq_false',Bool.not_eq_eq_eq_not,Bool.not_true,Bool.not_false] at g
 apply EH;simp only [go_sem]
 (repeat' apply Ae)<;>first | refine l _ _ ?_ | exact cl
 clear l
 apply Au 1 [23,24,25]
 rw [Ap];simp +decide only [go_sem,hn1,a]
 (repeat' apply Ae)<;>first | refine E (s.size-(k+1)) _ _ ?_ ⟨k+1,?_,rfl,?_,?_,?_,rfl⟩ | exact cl
 ·omega
 ·omega
 ·exact h
 ·rw [p,i,Ad];rfl
 ·simp
theorem Z5 (w0:World) (st:St) (hT:Lib.Utf8Tabs 2 3 w0) (s:ByteArray) (hs:s.size≤maxLen):ACalls Tryz.prog w0 222 [.val (.string s)] st fun v s'=>v = .val (.bool (Lib.validD s.data.toList))∧s'=st :=
 Jw (AY Tryz.func222 rfl (by decide)) rfl fun M w b c a=>by
  have:=Lj (us:=[.string s]) a
  subst this
  exact Any.utf8_ValidString Tryz.laysValid s w hs (Utf8Tabs_below hT c)
def BH (v:Vl):List Vl:=if v.kind=8∨v.kind=10 then v.list else if v.kind=9 then v.fields.map (·.2) else []
@[go_sem] theorem ZfJ (l:List Vl):(∀ y∈Ec l,y.cells.length=6)↔True:=iff_true_intro (by
 rw [EC];intro y a
 obtain ⟨v,_,rfl⟩:=List.mem_map.1 a
 exact v.cs_length)
@[go_sem] theorem Zh3 (l:List Vl):(∀ y∈Ec l,y.cells.length=6∧AX y=true)↔True:=iff_true_intro (by
 rw [EC];intro y a
 obtain ⟨v,_,rfl⟩:=List.mem_map.1 a
 exact ⟨v.cs_length,rfl⟩)
@[go_sem] theorem Zhn (l:List Vl):(Ec l).map AV.pub=Ec l:=by
 rw [EC,List.map_map]
 refine List.map_congr_left fun v _=>?_
 simp only [Function.comp,AV.pub,Vl.cs_pub]
theorem ZaY (l:List Vl) (k:Nat) (h:k<l.length):(Ec l).getD k .junk = .agg (l[k]).cs:=by
 simp [EC,List.getD,h]
theorem ZaS (l:List (ByteArray × Vl)) (k:Nat) (h:k<l.length):(Jt l).getD k .junk = .agg (.val (.string (l[k]).1)::(l[k]).2.cs):=by
 simp [NE,List.getD,h]
theorem Y3 (l:List (ByteArray × Vl)) (k:Nat) (h:k<l.length):Ec ((l.take (k+1)).map (·.2))=Ec ((l.take k).map (·.2))++[.agg (l[k]).2.cs]:=by
 rw [EC,EC,List.take_succ_eq_append_getElem h,List.map_append,List.map_append];rfl
theorem WY (l:List (ByteArray × Vl)) (k:Nat) (h:k≤l.length):(Ec ((l.take k).map (·.2))).length=k:=by
 rw [Pv,List.length_map,List.length_take];omega
theorem Zc3 (w0:World) (B:Ao) (Rw:Av) (L:As) (v:Vl) (hl:v.list.length≤1000000000000) (hf:v.fields.length≤1000000000000) :
  ACalls Tryz.prog w0 280 [.agg v.cs] ⟨B,Rw,L⟩ fun r st=>r = .list (Ec (BH v)) .none∧st=⟨B,Rw,L⟩:=by
 refine ACalls.finP (E8 (rs:=[.tmp 2]) Tryz.func280 rfl rfl Tryz.ntmps280 (AY Tryz.func280 rfl (by decide)) (Nat.le_of_ble_eq_true rfl) ?_)
 intro M0 W0 V N K b U
 have Q:=VS v.fields
 simp only [AA]
 apply An;intro K1 y
 apply Au 1 [1]
 rw [Ap];simp +decide only [go_sem]
 (repeat' apply Ae)<;>first | refine y _ _ ?_ | exact cl
 clear y
 apply An;intro K2 z
 apply An;intro K3 E
 apply Au 1 [1,7]
 rw [Ap];simp +decide only [go_sem]
 (repeat' apply Ae)<;>first | refine E _ _ ?_ | exact cl
 clear E
 apply Ar
 apply An;intro K4 f
 apply An;intro K5 F
 apply Au 1 [1,7,8]
 rw [Ap];simp +decide only [go_sem]
 (repeat' apply Ae)<;>first | refine F _ _ ?_ | exact cl
 clear F
 refine A4 _ (by simp +decide only [go_sem]) (by simp +decide only [go_sem];rfl) (fun a=>?_) (fun a=>?_)
 -- JOIN
 ·simp only [Bool.or_eq_true,Bool.or_eq_false_iff,Bool.and_eq_true,Bool.and_eq_false_iff,decide_eq_true_eq,decide_eq_false_iff_not,Bool.not_eq_true',Bool.not_eq_false',Bool.not_eq_eq_eq_not,Bool.not_true,Bool.not_false] at a
  apply EH;simp only [go_sem]
  (repeat' apply Ae)<;>first | refine f _ _ ?_ | exact cl
  clear f
  refine A4 _ (by simp +decide only [go_sem]) (by simp +decide only [go_sem];rfl) (fun a=>?_) (fun a=>?_)
  ·simp only [Bool.or_eq_true,Bool.or_eq_false_iff,Bool.and_eq_true,Bool.and_eq_false_iff,decide_eq_true_eq,decide_eq_false_iff_not,Bool.not_eq_true',Bool.not_eq_false',Bool.not_eq_eq_eq_not,Bool.not_true,Bool.not_false] at a
   apply An;intro K6 w
   apply Au 1 [2]
   rw [Ap];simp +decide only [go_sem]
   (repeat' apply Ae)<;>first | refine w _ _ ?_ | exact cl
   clear w
   apply A0;simp +decide only [go_sem]
   refine PP b pf pf pf ?_ ⟨?_,rfl⟩
   ·simp +decide only [go_sem]
   ·simp only [go_sem]
    rw [BH,Ab]
  simp only [Bool.or_eq_true,Bool.or_eq_false_iff,Bool.and_eq_true,Bool.and_eq_false_iff,decide_eq_true_eq,decide_eq_false_iff_not,Bool.not_eq_true',Bool.not_eq_false',Bool.not_eq_eq_eq_not,Bool.not_true,Bool.not_false] at a
  omega
 simp only [Bool.or_eq_true,Bool.or_eq_false_iff,Bool.and_eq_true,Bool.and_eq_false_iff,decide_eq_true_eq,decide_eq_false_iff_not,Bool.not_eq_true',Bool.not_eq_false',Bool.not_eq_eq_eq_not,Bool.not_true,Bool.not_false] at a
 apply Au 1 [1,7,8]
 rw [Ap];simp +decide only [go_sem]
 (repeat' apply Ae)<;>first | refine f _ _ ?_ | exact cl
 clear f
 refine A4 _ (by simp +decide only [go_sem]) (by simp +decide only [go_sem];rfl) (fun a=>?_) (fun a=>?_)
 ·simp only [Bool.or_eq_true,Bool.or_eq_false_iff,Bool.and_eq_true,Bool.and_eq_false_iff,decide_eq_true_eq,decide_eq_false_iff_not,Bool.not_eq_true',Bool.not_eq_false',Bool.not_eq_eq_eq_not,Bool.not_true,Bool.not_false] at a
  apply An;intro K17 n
  apply Au 1 [2]
  rw [Ap];simp +decide only [go_sem]
  (repeat' apply Ae)<;>first | refine n _ _ ?_ | exact cl
  clear n
  apply A0;simp +decide only [go_sem]
  refine PP b pf pf pf ?_ ⟨?_,rfl⟩
  ·simp +decide only [go_sem]
  ·simp only [go_sem]
   rw [BH,Ab]
 simp only [Bool.or_eq_true,Bool.or_eq_false_iff,Bool.and_eq_true,Bool.and_eq_false_iff,decide_eq_true_eq,decide_eq_false_iff_not,Bool.not_eq_true',Bool.not_eq_false',Bool.not_eq_eq_eq_not,Bool.not_true,Bool.not_false] at a
 apply An;intro K18 q
 apply Au 1 [1,13]
 rw [Ap];simp +decide only [go_sem]
 (repeat' apply Ae)<;>first | refine q _ _ ?_ | exact cl
 clear q
 refine A4 _ (by simp +decide only [go_sem]) (by simp +decide only [go_sem];rfl) (fun a=>?_) (fun a=>?_)
 ·simp only [Bool.or_eq_true,Bool.or_eq_false_iff,Bool.and_eq_true,Bool.and_eq_false_iff,decide_eq_true_eq,decide_eq_false_iff_not,Bool.not_eq_true',Bool.not_eq_false',Bool.not_eq_eq_eq_not,Bool.not_true,Bool.not_false] at a
  apply An;intro K19 t
  apply Au 1 [1,3]
  rw [Ap];simp +decide only [go_sem]
  (repeat' apply Ae)<;>first | refine t _ _ ?_ | exact cl
  clear t
  apply An;intro K20 j
  apply An;intro K21 p
  apply Au 1 [3,16,17,18]
  rw [Ap];simp +decide only [go_sem]
  (repeat' apply Ae)<;>first | refine p _ _ ?_ | exact cl
  clear p
  apply Ar
  refine AC (fun m e st=>∃ (k:Nat) (o:Ev.Own) (r:Av) (X:Ao),k≤v.fields.length∧m=v.fields.length-k∧Grow Rw 6 (Ec ((v.fields.take k).map (·.2))) o r ∧
   e=[(3,true,.list (Ec ((v.fields.take k).map (·.2))) o),(16,true,.list (Jt v.fields) .none),(17,true,Am v.fields.length),(18,true,Am k)]∧st=⟨B++X,Rw++r,L⟩) v.fields.length ⟨0,.full,[],[v.cs],by omega,rfl,.nil _ _,rfl,by simp⟩ ?_
  rintro m e st ⟨k,o,r,X,O,rfl,G,rfl,rfl⟩ KR J
  obtain ⟨x,hx⟩:∃ x,(Jt v.fields).getD k .junk=x:=⟨_,rfl⟩
  have d:=TW (P:=Tryz.prog) LZ (by rw [H2];rfl) (by decide) G
  have c:=WY v.fields k O
  apply An;intro K22 s
  apply Au 1 [3,16,17,18,19]
  rw [Ap];simp +decide only [go_sem,hx,d,c]
  (repeat' apply Ae)<;>first | refine s _ _ ?_ | exact cl
  clear s
  apply An;intro K23 g
  refine A4 _ (by simp +decide only [go_sem]) (by simp +decide only [go_sem];rfl) (fun a=>?_) (fun a=>?_)
  rotate_left
  ·simp only [Bool.or_eq_true,Bool.or_eq_false_iff,Bool.and_eq_true,Bool.and_eq_false_iff,decide_eq_true_eq,decide_eq_false_iff_not,Bool.not_eq_true',Bool.not_eq_false',Bool.not_eq_eq_eq_not,Bool.not_true,Bool.not_false] at a
   apply I4;simp +decide only [go_sem,hx,d,c]
   (repeat' apply Ae)<;>first | refine j _ _ ?_ | exact cl
   clear j
   apply An;intro K24 i
   apply Au 1 [2]
   rw [Ap];simp +decide only [go_sem,hx,d,c]
   (repeat' apply Ae)<;>first | refine i _ _ ?_ | exact cl
   clear i
   apply A0;simp +decide only [go_sem]
   refine PP b pf pf pf ?_ ⟨?_,rfl⟩
   ·simp +decide only [go_sem]
   ·simp only [go_sem]
    rw [BH,Aa,Ab,List.take_of_length_le (by omega)]
  simp only [Bool.or_eq_true,Bool.or_eq_false_iff,Bool.and_eq_true,Bool.and_eq_false_iff,decide_eq_true_eq,decide_eq_false_iff_not,Bool.not_eq_true',Bool.not_eq_false',Bool.not_eq_eq_eq_not,Bool.not_true,Bool.not_false] at a
  have C:k<v.fields.length:=by omega
  have hx2:=ZaS v.fields k C
  rw [hx] at hx2
  subst hx2
  have H:=Y3 v.fields k C
  have D:=WY v.fields (k+1) (by omega)
  apply EH;simp only [go_sem]
  (repeat' apply Ae)<;>first | refine g _ _ ?_ | exact cl
  clear g
  apply An;intro K25 l
  apply Ar
  apply An;intro K26 u
  apply Au 1 [3,5,16,17,18]
  rw [Ap];simp +decide only [go_sem,hx,d,c]
  (repeat' apply Ae)<;>first | refine u _ _ ?_ | exact cl
  clear u
  apply Au 1 [3,16,17,18]
  rw [Ap];simp +decide only [go_sem,hx,d,c]
  (repeat' apply Ae)<;>first | refine l _ _ ?_ | exact cl
  clear l
  apply Au 1 [3,16,17,18]
  rw [Ap];simp +decide only [go_sem,hx,d,c]
  (repeat' apply Ae)<;>first | refine J (v.fields.length-(k+1)) _ _ ?_ ⟨k+1,.row Rw.length,[.grow (k+1) 6],_,?_,rfl,.more _ _ _ _ D,?_,rfl⟩ | exact cl
  ·omega
  ·omega
  ·rw [H];simp
 simp only [Bool.or_eq_true,Bool.or_eq_false_iff,Bool.and_eq_true,Bool.and_eq_false_iff,decide_eq_true_eq,decide_eq_false_iff_not,Bool.not_eq_true',Bool.not_eq_false',Bool.not_eq_eq_eq_not,Bool.not_true,Bool.not_false] at a
 apply EH;simp only [go_sem]
 (repeat' apply Ae)<;>first | refine z _ _ ?_ | exact cl
 clear z
 apply An;intro K27 h
 apply Au 1 [2]
 rw [Ap];simp +decide only [go_sem]
 (repeat' apply Ae)<;>first | refine h _ _ ?_ | exact cl
 clear h
 apply A0;simp +decide only [go_sem]
 refine PP b pf pf pf ?_ ⟨?_,rfl⟩
 ·simp +decide only [go_sem]
 ·simp only [go_sem]
  rw [BH,Aa,Aa];rfl
mutual
def FH (lv:Nat):Vl→List (Nat × Vl)
 | .mk k i s t l f=>(lv,.mk k i s t l f)::(if k=8∨k=10 then Zy (lv+1) l else if k=9 then ZE (lv+1) f else [])
def Zy (lv:Nat):List Vl→List (Nat × Vl)
 | []=>[]
 | v::r=>FH lv v++Zy lv r
def ZE (lv:Nat):List (ByteArray × Vl)→List (Nat × Vl)
 | []=>[]
 | (_,v)::r=>FH lv v++ZE lv r
end
theorem XY (lv:Nat):∀ l,Zy lv l=l.flatMap (FH lv)
 | []=>rfl
 | v::r=>by simp [Zy,XY lv r]
theorem WR (lv:Nat):∀ l,ZE lv l=(l.map (·.2)).flatMap (FH lv)
 | []=>rfl
 | (_,v)::r=>by simp [ZE,WR lv r]
theorem Pe (lv:Nat) (v:Vl):FH lv v=(lv,v)::(BH v).flatMap (FH (lv+1)):=by
 obtain ⟨k,i,s,t,l,f⟩:=v
 simp only [FH,BH,Vl.kind,Vl.list,Vl.fields,XY,WR]
 by_cases h1:k=8∨k=10
 ·simp only [h1,if_true]
 ·by_cases h2:k=9
  ·subst h2;simp
  ·simp only [h1,h2,if_false,List.flatMap_nil]
theorem WF {α β:Type} (f:α→List β) (l:List α) (q:Nat) (h:q<l.length):((l.take (q+1)).flatMap f).length=((l.take q).flatMap f).length+(f l[q]).length:=by
 rw [List.take_succ_eq_append_getElem h,List.flatMap_append,List.length_append];simp
theorem W2 {α β:Type} (f:α→List β) (l:List α) (q:Nat) (h:q<l.length) (j:Nat) (x:β) (hx:(f l[q])[j]? = some x):(l.flatMap f)[((l.take q).flatMap f).length+j]? = some x:=by
 have e:l=l.take q++l[q]::l.drop (q+1):=by rw [←List.drop_eq_getElem_cons h,List.take_append_drop]
 have a:l.flatMap f=(l.take q).flatMap f++(f l[q]++(l.drop (q+1)).flatMap f):=by
  conv=>lhs;rw [e]
  rw [List.flatMap_append,List.flatMap_cons]
 rw [a,List.getElem?_append_right (by omega),Nat.add_sub_cancel_left,List.getElem?_append_left (Ak.1 hx).1,hx]
theorem LJ:∀ (l:List Vl) (v:Vl),v∈l→v.size≤DV l
 | [],_,h=>by simp at h
 | a::r,v,h=>by
  rcases List.mem_cons.1 h with rfl | h
  ·simp [DV]
  ·have:=LJ r v h
   simp [DV];omega
theorem L8:∀ (l:List (ByteArray × Vl)) (p:ByteArray × Vl),p∈l→p.2.size≤Em l
 | [],_,h=>by simp at h
 | (n,a)::r,p,h=>by
  rcases List.mem_cons.1 h with rfl | h
  ·simp [Em]
  ·have:=L8 r p h
   simp [Em];omega
theorem Vl.size_pos (v:Vl):0<v.size:=by cases v;simp [Vl.size];omega
theorem RJ:∀ l:List Vl,l.length≤DV l
 | []=>Nat.le_refl _
 | v::r=>by have:=RJ r;have:=v.size_pos;simp [DV];omega
theorem OJ:∀ l:List (ByteArray × Vl),l.length≤Em l
 | []=>Nat.le_refl _
 | (n,v)::r=>by have:=OJ r;have:=v.size_pos;simp [Em];omega
theorem Vl.size_eq (v:Vl):v.size=1+DV v.list+Em v.fields:=by cases v;simp [Vl.size,Vl.list,Vl.fields]
theorem Za1 (v x:Vl) (h:x∈BH v):x.size<v.size:=by
 have e:=v.size_eq
 unfold BH at h
 split at h
 ·have:=LJ _ _ h;omega
 ·split at h
  ·obtain ⟨p,a,rfl⟩:=List.mem_map.1 h
   have:=L8 _ _ a;omega
  ·simp at h
theorem NU (v:Vl):v.list.length<v.size∧v.fields.length<v.size∧(BH v).length<v.size:=by
 have e:=v.size_eq
 have a:=RJ v.list
 have b:=OJ v.fields
 refine ⟨by omega,by omega,?_⟩
 unfold BH
 split
 ·omega
 ·split
  ·simp;omega
  ·simp;omega
mutual
def Vl.wide:Vl→Bool
 | .mk _ _ _ _ l f=>decide (l.length≤1000000000000)&&decide (f.length≤1000000000000)&&SU l&&SK f
def SU:List Vl→Bool
 | []=>true
 | v::r=>v.wide&&SU r
def SK:List (ByteArray × Vl)→Bool
 | []=>true
 | (_,v)::r=>v.wide&&SK r
end
theorem Sr:∀ l,SU l=true↔∀ v∈l,v.wide=true
 | []=>by simp [SU]
 | v::r=>by simp [SU,Sr r]
theorem RU:∀ l,SK l=true↔∀ p∈l,p.2.wide=true
 | []=>by simp [SK]
 | (n,v)::r=>by simp [SK,RU r]
theorem Vl.wide_iff (v:Vl):v.wide=true↔v.list.length≤1000000000000∧v.fields.length≤1000000000000∧(∀ x∈v.list,x.wide=true)∧∀ p∈v.fields,p.2.wide=true:=by
 cases v;simp only [Vl.wide,Bool.and_eq_true,decide_eq_true_eq,Sr,RU,Vl.list,Vl.fields,and_assoc]
theorem Ut {v x:Vl} (h:v.wide=true) (hx:x∈BH v):x.wide=true:=by
 obtain ⟨_,_,b,c⟩:=v.wide_iff.1 h
 unfold BH at hx
 split at hx
 ·exact b x hx
 ·split at hx
  ·obtain ⟨p,a,rfl⟩:=List.mem_map.1 hx
   exact c p a
  ·simp at hx
theorem HB:∀ (k:Nat) (v:Vl),v.size≤k→v.size≤1000000000000→v.wide=true
 | 0,v,h,_=>by have:=v.size_pos;omega
 | k+1,v,h,h2=>by
  have e:=v.size_eq
  obtain ⟨a,b,_⟩:=NU v
  refine v.wide_iff.2 ⟨by omega,by omega,fun x d=>?_,fun p c=>?_⟩
  ·have:=LJ _ _ d;exact HB k x (by omega) (by omega)
  ·have:=L8 _ _ c;exact HB k p.2 (by omega) (by omega)
mutual
def Vl.depth:Vl→Nat
 | .mk _ _ _ _ l f=>1+max (KB l) (KI f)
def KB:List Vl→Nat
 | []=>0
 | t::r=>max t.depth (KB r)
def KI:List (ByteArray × Vl)→Nat
 | []=>0
 | (_,t)::r=>max t.depth (KI r)
end
theorem RG:∀ (l:List Vl) (d:Nat),KB l≤d↔∀ v∈l,v.depth≤d
 | [],d=>by simp [KB]
 | v::r,d=>by simp [KB,Nat.max_le,RG r d]
theorem Ta:∀ (l:List (ByteArray × Vl)) (d:Nat),KI l≤d↔∀ v∈l,v.2.depth≤d
 | [],d=>by simp [KI]
 | (_,t)::r,d=>by simp [KI,Nat.max_le,Ta r d]
theorem Vl.depth_eq (v:Vl):v.depth=1+Max.max (KB v.list) (KI v.fields):=by cases v;simp [Vl.depth,Vl.list,Vl.fields]
theorem YM {v x:Vl} (h:x∈BH v):x.depth<v.depth:=by
 have e:=v.depth_eq
 unfold BH at h
 split at h
 ·have:=(RG v.list _).1 (Nat.le_refl _) x h;omega
 ·split at h
  ·obtain ⟨p,a,rfl⟩:=List.mem_map.1 h
   have:=(Ta v.fields _).1 (Nat.le_refl _) p a;omega
  ·simp at h
mutual
theorem Vl.depth_size:∀ v:Vl,v.depth≤v.size
 | .mk _ _ _ _ l f=>by have:=Ph l;have:=Py f;simp only [Vl.depth,Vl.size];omega
theorem Ph:∀ l:List Vl,KB l≤DV l
 | []=>Nat.le_refl _
 | v::r=>by have:=v.depth_size;have:=Ph r;simp only [KB,DV];omega
theorem Py:∀ l:List (ByteArray × Vl),KI l≤Em l
 | []=>Nat.le_refl _
 | (_,v)::r=>by have:=v.depth_size;have:=Py r;simp only [KI,Em];omega
end
def Zq (p:Nat × Vl):List AV:=[Am p.1,.agg p.2.cs]
def Yh (w0:World) (items:Ao) (k:Nat) (J:Nat→St→Prop) (Jx:St→Prop):Prop :=
 ∀ i SB SR SL x XB XL,J i ⟨SB,SR,SL⟩→items[i]? = some x→TO Tryz.prog w0 k x ⟨SB++XB,SR,SL++XL⟩ fun r s'=>∃ TB TR TL b,r = .val (.bool b)∧s'=⟨TB++XB,TR,TL++XL⟩∧TB.length=SB.length∧SR.length≤TR.length∧TL.length=SL.length∧(b=true→J (i+1) ⟨TB,TR,TL⟩)∧(b=false→Jx ⟨TB,TR,TL⟩)
def YB (w0:World) (items:Ao) (k:Nat) (J:Nat→St→Prop) (Jx:St→Prop) (v:Vl):Prop :=
 ∀ (lv i:Nat) (lvi:Int) SB SR SL XB XL,lv+v.depth≤4611686018427387904→v.wide=true→J i ⟨SB,SR,SL⟩→lvi=lv→(∀ j x,(FH lv v)[j]? = some x→items[i+j]? = some (Zq x)) →
  ACalls Tryz.prog w0 230 [.agg v.cs,Am lvi,.yld k] ⟨SB++XB,SR,SL++XL⟩ fun r s'=>∃ TB TR TL XB' b,r = .val (.bool b)∧s'=⟨TB++(XB++XB'),TR,TL++XL⟩∧TB.length=SB.length∧SR.length≤TR.length∧TL.length=SL.length∧(b=true→J (i+(FH lv v).length) ⟨TB,TR,TL⟩)∧(b=false→Jx ⟨TB,TR,TL⟩)
theorem YZ (w0:World) (items:Ao) (k:Nat) (J:Nat→St→Prop) (Jx:St→Prop) (hY:Yh w0 items k J Jx) (v:Vl) (ih:∀ x,x.size<v.size→YB w0 items k J Jx x):YB w0 items k J Jx v:=by
 intro d i ak SB SR SL XB XL aj g h0 hle z
 subst hle
 obtain ⟨y,u,_⟩:=v.wide_iff.1 g
 have aa:(BH v).length≤1000000000000:=by
  unfold BH
  split
  ·exact y
  ·split
   ·simpa using u
   ·simp
 refine E8 (rs:=[.tmp 6]) Tryz.func230 rfl rfl Tryz.ntmps230 (AY Tryz.func230 rfl (by decide)) (Nat.le_of_ble_eq_true rfl) ?_
 intro M0 W0 hN ag af ad hu
 obtain ⟨ai,ah,ab⟩:=NU v
 have f:=Pe d v
 have c:=Pv (BH v)
 obtain ⟨ps,hpe⟩:∃ ps,BH v=ps:=⟨_,rfl⟩
 have C:items[i]? = some (Zq (d,v)):=by
  have:=z 0 (d,v) (by rw [f];rfl)
  simpa using this
 simp only [AA]
 apply An;intro K1 s
 apply Au 1 [1,2,3]
 rw [Ap];simp +decide only [go_sem]
 (repeat' apply Ae)<;>first | refine s _ _ ?_ | exact cl
 clear s
 apply An;intro K2 w
 apply An;intro K3 F
 apply Au 2 [1,2,3,13]
 rw [Ap];simp +decide only [go_sem]
 (repeat' apply Ae)<;>first | refine XJ _ (fun _=>hY i SB SR SL _ (XB++[v.cs]) XL h0 C) (fun r s' hp _=>?_) | exact cl
 obtain ⟨TB,TR,TL,b,rfl,rfl,V,l2,l3,Z,hp2⟩:=hp rfl
 rw [←V]
 rw [Ap];simp +decide only [go_sem]
 (repeat' apply Ae)<;>first | refine F _ _ ?_ | exact cl
 clear F
 refine A4 _ (by simp +decide only [go_sem]) (by simp +decide only [go_sem];rfl) (fun hb=>?_) (fun hb=>?_)
 ·simp only [Bool.not_eq_true'] at hb
  apply An;intro K4 E
  apply Au 1 [6]
  rw [Ap];simp +decide only [go_sem]
  (repeat' apply Ae)<;>first | refine E _ _ ?_ | exact cl
  clear E
  apply A0;simp +decide only [go_sem]
  exact ⟨TB,TR,TL,[v.cs],false,rfl,rfl,V,l2,l3,fun h=>(by cases h),fun _=>hp2 hb⟩
 simp only [Bool.not_eq_false'] at hb
 apply EH;simp only [go_sem]
 (repeat' apply Ae)<;>first | refine w _ _ ?_ | exact cl
 clear w
 apply An;intro K5 N
 apply An;intro K6 t
 apply Au 2 [1,2,15,16,17]
 rw [Ap];simp +decide only [go_sem]
 (repeat' apply Ae)<;>first | refine Xj _ (Zc3 w0 _ TR _ v y u) ?_ | exact cl
 rw [hpe] at c ab aa f ⊢
 rw [Ap];simp +decide only [go_sem]
 (repeat' apply Ae)<;>first | refine t _ _ ?_ | exact cl
 clear t
 apply Ar
 refine AC (fun m e st=>∃ (q:Nat) (UB:Ao) (UR:Av) (UL:As) (XB':Ao),q≤ps.length∧m=ps.length-q∧J (i+1+((ps.take q).flatMap (FH (d+1))).length) ⟨UB,UR,UL⟩∧UB.length=SB.length∧SR.length≤UR.length∧UL.length=SL.length∧e=[(1,true,Am d),(2,true,.yld k),(15,true,.list (Ec ps) .none),(16,true,Am ps.length),(17,true,Am q)]∧st=⟨UB++(XB++XB'),UR,UL++XL⟩) ps.length ⟨0,TB,TR,TL,[v.cs],by omega,rfl,by simpa using Z hb,V,l2,l3,rfl,by simp⟩ ?_
 rintro m e st ⟨q,UB,UR,UL,XB',hq,rfl,U,m1,m2,m3,rfl,rfl⟩ KR ae
 obtain ⟨x,hx⟩:∃ x,(Ec ps).getD q .junk=x:=⟨_,rfl⟩
 apply An;intro K7 D
 apply Au 1 [1,2,15,16,17,18]
 rw [Ap];simp +decide only [go_sem,hx,c]
 (repeat' apply Ae)<;>first | refine D _ _ ?_ | exact cl
 clear D
 apply An;intro K8 H
 refine A4 _ (by simp +decide only [go_sem]) (by simp +decide only [go_sem];rfl) (fun hb=>?_) (fun hb=>?_)
 rotate_left
 ·simp only [Bool.or_eq_true,Bool.or_eq_false_iff,Bool.and_eq_true,Bool.and_eq_false_iff,decide_eq_true_eq,decide_eq_false_iff_not,Bool.not_eq_true',Bool.not_eq_false',Bool.not_eq_eq_eq_not,Bool.not_true,Bool.not_false] at hb
  apply I4;simp +decide only [go_sem,hx,c]
  (repeat' apply Ae)<;>first | refine N _ _ ?_ | exact cl
  clear N
  apply An;intro K9 G
  apply Au 1 [6]
  rw [Ap];simp +decide only [go_sem,hx,c]
  (repeat' apply Ae)<;>first | refine G _ _ ?_ | exact cl
  clear G
  apply A0;simp +decide only [go_sem]
  refine ⟨UB,UR,UL,XB',true,rfl,rfl,m1,m2,m3,fun _=>?_,fun h=>(by cases h)⟩
  rw [List.take_of_length_le (by omega)] at U
  rw [f,List.length_cons,show i+((ps.flatMap (FH (d+1))).length+1)=i+1+(ps.flatMap (FH (d+1))).length by omega]
  exact U
 simp only [Bool.or_eq_true,Bool.or_eq_false_iff,Bool.and_eq_true,Bool.and_eq_false_iff,decide_eq_true_eq,decide_eq_false_iff_not,Bool.not_eq_true',Bool.not_eq_false',Bool.not_eq_eq_eq_not,Bool.not_true,Bool.not_false] at hb
 have a:q<ps.length:=by omega
 have hx2:=ZaY ps q a
 rw [hx] at hx2
 subst hx2
 have Q:=WF (FH (d+1)) ps q a
 have K:∀ j x,(FH (d+1) (ps[q]'a))[j]? = some x→items[i+1+((ps.take q).flatMap (FH (d+1))).length+j]? = some (Zq x):=fun j x O=>by
  have h1:=W2 (FH (d+1)) ps q a j x O
  have h2:=z (((ps.take q).flatMap (FH (d+1))).length+j+1) x (by rw [f,List.getElem?_cons_succ,h1])
  rw [show i+1+((ps.take q).flatMap (FH (d+1))).length+j=i+(((ps.take q).flatMap (FH (d+1))).length+j+1) by omega]
  exact h2
 apply EH;simp only [go_sem]
 (repeat' apply Ae)<;>first | refine H _ _ ?_ | exact cl
 clear H
 apply An;intro K10 n
 apply Ar
 apply An;intro K11 o
 apply Au 1 [1,2,8,15,16,17]
 rw [Ap];simp +decide only [go_sem,hx,c]
 (repeat' apply Ae)<;>first | refine o _ _ ?_ | exact cl
 clear o
 apply An;intro K12 p
 apply Au 2 [1,2,15,16,17,26]
 rw [Ap];simp +decide only [go_sem,hx,c]
 (repeat' apply Ae)<;>first | refine Tz _ (ih (ps[q]'a) (Za1 v _ (by rw [hpe];exact List.getElem_mem a)) (d+1) _ _ UB UR UL (XB++(XB'++[(ps[q]'a).cs])) XL (by have:=YM (v:=v) (x:=ps[q]'a) (by rw [hpe];exact List.getElem_mem a);omega) (Ut g (by rw [hpe];exact List.getElem_mem a)) U (by omega) K) ?_ | exact cl
 rintro r s' ⟨VB,VR,VL,XB2,b2,rfl,rfl,n1,n2,n3,Y,np2⟩
 rw [Ap];simp +decide only [go_sem,hx,c]
 (repeat' apply Ae)<;>first | refine p _ _ ?_ | exact cl
 clear p
 refine A4 _ (by simp +decide only [go_sem]) (by simp +decide only [go_sem];rfl) (fun hb=>?_) (fun hb=>?_)
 ·simp only [Bool.not_eq_true'] at hb
  apply An;intro K13 l
  apply Au 1 [6]
  rw [Ap];simp +decide only [go_sem,hx,c]
  (repeat' apply Ae)<;>first | refine l _ _ ?_ | exact cl
  clear l
  apply A0;simp +decide only [go_sem]
  exact ⟨VB,VR,VL,XB'++([(ps[q]'a).cs]++XB2),false,rfl,by simp,by omega,by omega,by omega,fun h=>(by cases h),fun _=>np2 hb⟩
 simp only [Bool.not_eq_false'] at hb
 apply EH;simp only [go_sem]
 (repeat' apply Ae)<;>first | refine n _ _ ?_ | exact cl
 clear n
 apply Au 1 [1,2,15,16,17]
 rw [Ap];simp +decide only [go_sem,hx,c]
 (repeat' apply Ae)<;>first | refine ae (ps.length-(q+1)) _ _ ?_ ⟨q+1,VB,VR,VL,XB'++([(ps[q]'a).cs]++XB2),?_,rfl,?_,?_,?_,?_,?_,?_⟩ | exact cl
 ·omega
 ·omega
 ·rw [Q];have:=Y hb;rwa [Nat.add_assoc (i+1)] at this
 ·omega
 ·omega
 ·omega
 ·simp
 ·simp
theorem Xz (w0:World) (items:Ao) (k:Nat) (J:Nat→St→Prop) (Jx:St→Prop) (hY:Yh w0 items k J Jx):∀ (n:Nat) (v:Vl),v.size≤n→YB w0 items k J Jx v
 | 0,v,h=>by have:=v.size_pos;omega
 | n+1,v,h=>YZ w0 items k J Jx hY v fun x a=>Xz w0 items k J Jx hY n x (by omega)
def Je (v:Vl):List (List AV):=(FH 1 v).map Zq
theorem Oe (w0:World) (v:Vl) (hv:v.depth<4611686018427387904∧v.wide=true) (l:Nat):ZfR Tryz.prog w0 229 [.box l 0] (Je v) (fun st=>st.boxes[l]? = some v.cs):=by
 intro k J Jx G V H y
 have U:Yh w0 (Je v) k J (fun s=>Jx s):=by
  intro i SB SR SL x XB XL N g
  have:=V i ⟨SB,SR,SL⟩ x ⟨XB,[],XL⟩ rfl N g
  simp only [St.ext,List.append_nil] at this
  intro M w d O K
  obtain ⟨Q,e,o,f,m,t⟩:=this M w d O K
  refine ⟨Q,e,o,f,m,fun n=>(t n).mono ?_⟩
  intro en Y z
  refine z.mono ?_
  rintro r s ⟨⟨TB,TR,TL⟩,rfl,⟨q1,q2,q3⟩,hp⟩
  rcases hp with ⟨rfl,hp⟩ | ⟨rfl,hp⟩
  ·exact ⟨TB,TR,TL,true,rfl,rfl,q1,q2,q3,fun _=>hp,fun h=>(by cases h)⟩
  ·exact ⟨TB,TR,TL,false,rfl,rfl,q1,q2,q3,fun h=>(by cases h),fun _=>hp⟩
 obtain ⟨a,F⟩:=G _ _ y
 obtain ⟨SB,SR,SL⟩:=H
 have C:l<SB.length:=(Ak.1 a).1
 have m:C7 ⟨SB,SR,SL⟩ (.box l 0)=true:=by simp [C7,C]
 have t:A6 ⟨SB,SR,SL⟩ (.box l 0)=v.cs:=by
  simp only at a
  simp [A6,List.getD,a]
 have c:=Xz w0 (Je v) k J Jx U v.size v (Nat.le_refl _) 1 0 1 SB SR SL [] [] (by omega) hv.2 y rfl (fun j x g=>by simp [Je,g])
 simp only [List.append_nil,List.nil_append,Nat.zero_add] at c
 refine E8 (rs:=[]) Tryz.func229 rfl rfl Tryz.ntmps229 (AY Tryz.func229 rfl (by decide)) (Nat.le_of_ble_eq_true rfl) ?_
 intro M0 W0 hN E D u Z
 simp only [AA]
 apply Au 2 []
 rw [Ap];simp +decide only [go_sem,m,t]
 (repeat' apply Ae)<;>first | refine Tz _ c ?_ | exact cl
 rintro r s ⟨TB,TR,TL,XB',b,rfl,rfl,q1,q2,q3,p,q⟩
 rw [Ap];simp +decide only [go_sem]
 refine ⟨⟨TB,TR,TL⟩,⟨XB',[],[]⟩,rfl,by simp [St.ext],?_⟩
 cases b with
 | true=>exact .inl (by have:=p rfl;simpa [Je] using this)
 | false=>exact .inr (q rfl)
theorem Of (v:Vl):(Je v).length=(FH 1 v).length:=by simp [Je]
theorem SH (v:Vl) (i:Nat) (x:List AV) (h:(Je v)[i]? = some x):∃ p,(FH 1 v)[i]? = some p∧x=[Am p.1,.agg p.2.cs]∧i<(FH 1 v).length:=by
 simp only [Je,List.getElem?_map,Option.map_eq_some_iff] at h
 obtain ⟨p,a,rfl⟩:=h
 exact ⟨p,a,rfl,(Ak.1 a).1⟩
theorem S1 (v:Vl) (x:List AV) (h:x∈Je v):x.length=2:=by
 obtain ⟨p,_,rfl⟩:=List.mem_map.1 h
 rfl
theorem QI (w0:World) (B:Ao) (Rw:Av) (L:As) (v:Vl) :
  ACalls Tryz.prog w0 146 [.agg v.cs] ⟨B,Rw,L⟩ fun r st=>r = .clo 229 [.box B.length 0]∧st=⟨B++[v.cs],Rw,L⟩:=by
 refine E8 (rs:=[.tmp 2]) Tryz.func146 rfl rfl Tryz.ntmps146 (AY Tryz.func146 rfl (by decide)) (Nat.le_of_ble_eq_true rfl) ?_
 intro M0 W0 g e d c f
 simp only [AA]
 apply An;intro K1 a
 apply Au 1 [1]
 rw [Ap];simp +decide only [go_sem]
 (repeat' apply Ae)<;>first | refine a _ _ ?_ | exact cl
 clear a
 apply An;intro K2 b
 apply Au 1 [2]
 rw [Ap];simp +decide only [go_sem]
 (repeat' apply Ae)<;>first | refine b _ _ ?_ | exact cl
 clear b
 apply A0;simp +decide only [go_sem]
 skip
def Rz:List AV:=[.val .nilFunc,.clo 215 [],.clo 217 [],.clo 218 [],.clo 220 [],.clo 223 [],.clo 224 [],.clo 225 [],.clo 226 [],.clo 227 [],.clo 228 []]
theorem ZbS (w0:World) (B:Ao) (Rw:Av) (L:As)  :
  ACalls Tryz.prog w0 145 [] ⟨B,Rw,L⟩ fun r st=>r = .agg Rz∧st=⟨B,Rw,L⟩:=by
 refine ACalls.finP (E8 (rs:=[.cell 0 189]) Tryz.func145 rfl rfl Tryz.ntmps145 (AY Tryz.func145 rfl (by decide)) (Nat.le_of_ble_eq_true rfl) ?_)
 intro M0 W0 g e d a f
 simp only [AA]
 apply An;intro K1 b
 apply Au 1 [0]
 rw [Ap];simp +decide only [go_sem,QL,O1,J9,CM,List.getElem?_cons_zero,List.getElem?_cons_succ,List.nil_append,List.cons_append]
 (repeat' apply Ae)<;>first | refine b _ _ ?_ | exact cl
 clear b
 apply An;intro K2 c
 apply Au 1 [0]
 rw [Ap];simp +decide only [go_sem,QL,O1,J9,CM,List.getElem?_cons_zero,List.getElem?_cons_succ,List.nil_append,List.cons_append]
 (repeat' apply Ae)<;>first | refine c _ _ ?_ | exact cl
 clear c
 apply A0;simp +decide only [go_sem]
 refine PP a pf pf pf (by simp +decide only [go_sem]) ⟨?_,rfl⟩
 rfl
inductive Ex where
 | mk (op int:Int) (text:ByteArray) (value:List Vl) (args:List Ex)
namespace Ex
def op:Ex→Int | mk o _ _ _ _=>o
def int:Ex→Int | mk _ i _ _ _=>i
def text:Ex→ByteArray | mk _ _ t _ _=>t
def value:Ex→List Vl | mk _ _ _ v _=>v
def args:Ex→List Ex | mk _ _ _ _ a=>a
end Ex
mutual
def Ex.size:Ex→Nat
 | .mk _ _ _ _ a=>1+Zb2 a
def Zb2:List Ex→Nat
 | []=>0
 | e::r=>e.size+Zb2 r
end
mutual
def Ex.cs:Ex→List AV
 | .mk o i t v a=>[.val (.int .i64 o),.val (.int .i64 i),.val (.string t),.list (Ec v) .none,.list (Nc a) .none]
def Nc:List Ex→List AV
 | []=>[]
 | e::r => .agg e.cs::Nc r
end
theorem NT:∀ l:List Ex,Nc l=l.map fun v => .agg v.cs
 | []=>rfl
 | v::r=>by simp [Nc,NT r]
@[go_sem] theorem Zel (l:List Ex):(Nc l).length=l.length:=by simp [NT]
mutual
theorem Ex.under (nb nr nl:Nat):∀ v:Ex,∀ x∈v.cs,Under nb nr nl x
 | .mk o i t v a=>by
  intro x b
  simp only [Ex.cs,List.mem_cons,List.not_mem_nil,or_false] at b
  rcases b with rfl | rfl | rfl | rfl | rfl
  ·exact .val _
  ·exact .val _
  ·exact .val _
  ·exact .list (IL nb nr nl v) trivial
  ·exact .list (M8 nb nr nl a) trivial
theorem M8 (nb nr nl:Nat):∀ l:List Ex,∀ x∈Nc l,Under nb nr nl x
 | []=>fun _ h=>by simp [Nc] at h
 | v::r=>by
  intro x hx
  simp only [Nc,List.mem_cons] at hx
  rcases hx with rfl | hx
  ·exact .agg (Ex.under nb nr nl v)
  ·exact M8 nb nr nl r x hx
end
@[go_sem] theorem ZhE (nb nr nl:Nat) (v:Ex):Under nb nr nl (.agg v.cs)↔True:=iff_true_intro (.agg (v.under nb nr nl))
@[go_sem] theorem ZfQ (nb nr nl:Nat) (l:List Ex):(∀ x∈Nc l,Under nb nr nl x)↔True:=iff_true_intro (M8 nb nr nl l)
@[go_sem] theorem Ex.cs_length (v:Ex):v.cs.length=5:=by cases v;rfl
@[go_sem] theorem Ex.cs_pub (v:Ex):v.cs.map AV.pubCell=v.cs:=by cases v;rfl
section
variable (v:Ex) (d:AV) (l:List AV)
@[go_sem] theorem Ex.g0:v.cs.getD 0 d = .val (.int .i64 v.op):=by cases v;rfl
@[go_sem] theorem Ex.g1:v.cs.getD 1 d = .val (.int .i64 v.int):=by cases v;rfl
@[go_sem] theorem Ex.g2:v.cs.getD 2 d = .val (.string v.text):=by cases v;rfl
@[go_sem] theorem Ex.g3:v.cs.getD 3 d = .list (Ec v.value) .none:=by cases v;rfl
@[go_sem] theorem Ex.g4:v.cs.getD 4 d = .list (Nc v.args) .none:=by cases v;rfl
@[go_sem] theorem Ex.take5:v.cs.take 5=v.cs:=by cases v;rfl
@[go_sem] theorem Ex.take5a:(v.cs++l).take 5=v.cs:=by cases v;rfl
end
end Go.Proofs.YtmcnjijeocmkgaaGreatDoor
namespace Go.Proofs.YtmcnjijeocmkgaaGreatDoor
open Go Go.RowKit Go.Ev
structure Part where
 kind:Int
 index:Int
 name:ByteArray
structure Itm where
 v:Vl
 level:Int
structure Lim where
 name:ByteArray
 low:Int
 high:Int
 bounds:Bool
 scale:Bool
 text:Bool
 list:Bool
 fields:Bool
structure Sch where
 name:ByteArray
 version:Int
 type:Ty
structure Cps where
 rules:List (ByteArray × Ex)
 targets:List (List Part)
 mid:Ty
def I8 {α:Type} (f:α→AV) (l:List α):AV := .list (l.map f) .none
@[go_sem] theorem Fz {α:Type} (f:α→AV) (l:List α):I8 f l = .list (l.map f) .none:=rfl
@[go_sem] theorem Zh9 {α:Type} (f:α→AV) (l:List α) (n:Nat):(l.map f).take n=(l.take n).map f:=List.map_take.symm
@[go_sem] theorem Zia {α:Type} (f:α→AV) (l:List α) (n:Nat):(l.map f).drop n=(l.drop n).map f:=List.map_drop.symm
attribute [go_sem] List.length_map List.take_length
def bodyP:Part:=⟨1,0,⟨#[98,111,100,121]⟩⟩
abbrev PM (w0:World):Prop:=ZfF Tryz.prog w0 113 0 (.list [.agg [Am bodyP.kind,Am bodyP.index,.val (.string bodyP.name)]] .none)
def Yi (x:Int):AV:=Am x
@[go_sem] theorem Fe (x:Int):Yi x=Am x:=rfl
@[go_sem] theorem Zg0 (l:List (Int)):(∀ y∈l.map Yi,y.cells.length=1)↔True:=iff_true_intro fun y a=>by
 obtain ⟨x,_,rfl⟩:=List.mem_map.1 a
 simp +decide only [go_sem]
@[go_sem] theorem Zji (l:List (Int)):(∀ y∈l.map Yi,y.cells.length=1∧AX y=true)↔True:=iff_true_intro fun y a=>by
 obtain ⟨x,_,rfl⟩:=List.mem_map.1 a
 simp +decide only [go_sem]
@[go_sem] theorem ZhH (nb nr nl:Nat) (l:List (Int)):(∀ y∈l.map Yi,Under nb nr nl y)↔True:=iff_true_intro fun y a=>by
 obtain ⟨x,_,rfl⟩:=List.mem_map.1 a
 exact .val _
@[go_sem] theorem ZiD (l:List (Int)):(l.map Yi).map AV.pub=l.map Yi:=by
 rw [List.map_map]
 refine List.map_congr_left fun x _=>?_
 simp +decide only [Function.comp,go_sem]
def avB (x:Bool):AV := .val (.bool x)
@[go_sem] theorem Fj (x:Bool):avB x = .val (.bool x):=rfl
@[go_sem] theorem Zho (l:List (Bool)):(∀ y∈l.map avB,y.cells.length=1)↔True:=iff_true_intro fun y a=>by
 obtain ⟨x,_,rfl⟩:=List.mem_map.1 a
 simp +decide only [go_sem]
@[go_sem] theorem Zjy (l:List (Bool)):(∀ y∈l.map avB,y.cells.length=1∧AX y=true)↔True:=iff_true_intro fun y a=>by
 obtain ⟨x,_,rfl⟩:=List.mem_map.1 a
 simp +decide only [go_sem]
@[go_sem] theorem Zg6 (nb nr nl:Nat) (l:List (Bool)):(∀ y∈l.map avB,Under nb nr nl y)↔True:=iff_true_intro fun y a=>by
 obtain ⟨x,_,rfl⟩:=List.mem_map.1 a
 exact .val _
@[go_sem] theorem ZiR (l:List (Bool)):(l.map avB).map AV.pub=l.map avB:=by
 rw [List.map_map]
 refine List.map_congr_left fun x _=>?_
 simp +decide only [Function.comp,go_sem]
def C0 (x:ByteArray):AV := .val (.string x)
@[go_sem] theorem Fq (x:ByteArray):C0 x = .val (.string x):=rfl
@[go_sem] theorem ZhG (l:List (ByteArray)):(∀ y∈l.map C0,y.cells.length=1)↔True:=iff_true_intro fun y a=>by
 obtain ⟨x,_,rfl⟩:=List.mem_map.1 a
 simp +decide only [go_sem]
@[go_sem] theorem Zjr (l:List (ByteArray)):(∀ y∈l.map C0,y.cells.length=1∧AX y=true)↔True:=iff_true_intro fun y a=>by
 obtain ⟨x,_,rfl⟩:=List.mem_map.1 a
 simp +decide only [go_sem]
@[go_sem] theorem Zak (nb nr nl:Nat) (l:List (ByteArray)):(∀ y∈l.map C0,Under nb nr nl y)↔True:=iff_true_intro fun y a=>by
 obtain ⟨x,_,rfl⟩:=List.mem_map.1 a
 exact .val _
@[go_sem] theorem Zer (l:List (ByteArray)):(l.map C0).map AV.pub=l.map C0:=by
 rw [List.map_map]
 refine List.map_congr_left fun x _=>?_
 simp +decide only [Function.comp,go_sem]
def CZ (x:Vl):AV := .agg x.cs
@[go_sem] theorem Eu (x:Vl):CZ x = .agg x.cs:=rfl
@[go_sem] theorem Zhf (l:List (Vl)):(∀ y∈l.map CZ,y.cells.length=6)↔True:=iff_true_intro fun y a=>by
 obtain ⟨x,_,rfl⟩:=List.mem_map.1 a
 simp +decide only [go_sem]
@[go_sem] theorem Zju (l:List (Vl)):(∀ y∈l.map CZ,y.cells.length=6∧AX y=true)↔True:=iff_true_intro fun y a=>by
 obtain ⟨x,_,rfl⟩:=List.mem_map.1 a
 simp +decide only [go_sem]
@[go_sem] theorem Zhl (nb nr nl:Nat) (l:List (Vl)):(∀ y∈l.map CZ,Under nb nr nl y)↔True:=iff_true_intro fun y a=>by
 obtain ⟨x,_,rfl⟩:=List.mem_map.1 a
 exact .agg (x.under _ _ _)
@[go_sem] theorem Zje (l:List (Vl)):(l.map CZ).map AV.pub=l.map CZ:=by
 rw [List.map_map]
 refine List.map_congr_left fun x _=>?_
 simp +decide only [Function.comp,go_sem]
def IX (x:Ty):AV := .agg x.cs
@[go_sem] theorem Eo (x:Ty):IX x = .agg x.cs:=rfl
@[go_sem] theorem Zha (l:List (Ty)):(∀ y∈l.map IX,y.cells.length=7)↔True:=iff_true_intro fun y a=>by
 obtain ⟨x,_,rfl⟩:=List.mem_map.1 a
 simp +decide only [go_sem]
@[go_sem] theorem ZjE (l:List (Ty)):(∀ y∈l.map IX,y.cells.length=7∧AX y=true)↔True:=iff_true_intro fun y a=>by
 obtain ⟨x,_,rfl⟩:=List.mem_map.1 a
 simp +decide only [go_sem]
@[go_sem] theorem Zhj (nb nr nl:Nat) (l:List (Ty)):(∀ y∈l.map IX,Under nb nr nl y)↔True:=iff_true_intro fun y a=>by
 obtain ⟨x,_,rfl⟩:=List.mem_map.1 a
 exact .agg (x.under _ _ _)
@[go_sem] theorem Zi1 (l:List (Ty)):(l.map IX).map AV.pub=l.map IX:=by
 rw [List.map_map]
 refine List.map_congr_left fun x _=>?_
 simp +decide only [Function.comp,go_sem]
def QY (x:ByteArray × Vl):AV := .agg (.val (.string x.1)::x.2.cs)
@[go_sem] theorem Ft (x:ByteArray × Vl):QY x = .agg (.val (.string x.1)::x.2.cs):=rfl
@[go_sem] theorem Zhg (l:List (ByteArray × Vl)):(∀ y∈l.map QY,y.cells.length=7)↔True:=iff_true_intro fun y a=>by
 obtain ⟨x,_,rfl⟩:=List.mem_map.1 a
 simp +decide only [go_sem]
@[go_sem] theorem Zjw (l:List (ByteArray × Vl)):(∀ y∈l.map QY,y.cells.length=7∧AX y=true)↔True:=iff_true_intro fun y a=>by
 obtain ⟨x,_,rfl⟩:=List.mem_map.1 a
 simp +decide only [go_sem]
@[go_sem] theorem Zg9 (nb nr nl:Nat) (l:List (ByteArray × Vl)):(∀ y∈l.map QY,Under nb nr nl y)↔True:=iff_true_intro fun y a=>by
 obtain ⟨x,_,rfl⟩:=List.mem_map.1 a
 exact KC nb nr nl [x] _ (by simp [Jt,QY])
@[go_sem] theorem Zi9 (l:List (ByteArray × Vl)):(l.map QY).map AV.pub=l.map QY:=by
 rw [List.map_map]
 refine List.map_congr_left fun x _=>?_
 simp +decide only [Function.comp,go_sem]
def BS (x:Int × ByteArray × Int × Ty × List Vl):AV := .agg (Am x.1 :: .val (.string x.2.1)::Am x.2.2.1::(x.2.2.2.1.cs++[.list (x.2.2.2.2.map CZ) .none]))
@[go_sem] theorem CO (x:Int × ByteArray × Int × Ty × List Vl):BS x = .agg (Am x.1 :: .val (.string x.2.1)::Am x.2.2.1::(x.2.2.2.1.cs++[.list (x.2.2.2.2.map CZ) .none])):=rfl
@[go_sem] theorem ZgG (l:List (Int × ByteArray × Int × Ty × List Vl)):(∀ y∈l.map BS,y.cells.length=11)↔True:=iff_true_intro fun y a=>by
 obtain ⟨x,_,rfl⟩:=List.mem_map.1 a
 simp +decide only [go_sem]
@[go_sem] theorem Zjg (l:List (Int × ByteArray × Int × Ty × List Vl)):(∀ y∈l.map BS,y.cells.length=11∧AX y=true)↔True:=iff_true_intro fun y a=>by
 obtain ⟨x,_,rfl⟩:=List.mem_map.1 a
 simp +decide only [go_sem]
@[go_sem] theorem Zm (nb nr nl:Nat) (l:List (Int × ByteArray × Int × Ty × List Vl)):(∀ y∈l.map BS,Under nb nr nl y)↔True:=iff_true_intro fun y a=>by
 obtain ⟨x,_,rfl⟩:=List.mem_map.1 a
 exact JC nb nr nl [x] _ (by simp [Ip,BS,EC];intros;rfl)
@[go_sem] theorem Zcl (l:List (Int × ByteArray × Int × Ty × List Vl)):(l.map BS).map AV.pub=l.map BS:=by
 rw [List.map_map]
 refine List.map_congr_left fun x _=>?_
 simp +decide only [Function.comp,go_sem]
def UO (x:Sch):AV := .agg (.val (.string x.name)::Am x.version::x.type.cs)
@[go_sem] theorem Ce (x:Sch):UO x = .agg (.val (.string x.name)::Am x.version::x.type.cs):=rfl
@[go_sem] theorem ZfZ (l:List (Sch)):(∀ y∈l.map UO,y.cells.length=9)↔True:=iff_true_intro fun y a=>by
 obtain ⟨x,_,rfl⟩:=List.mem_map.1 a
 simp +decide only [go_sem]
@[go_sem] theorem Zii (l:List (Sch)):(∀ y∈l.map UO,y.cells.length=9∧AX y=true)↔True:=iff_true_intro fun y a=>by
 obtain ⟨x,_,rfl⟩:=List.mem_map.1 a
 simp +decide only [go_sem]
@[go_sem] theorem ZfA (nb nr nl:Nat) (l:List (Sch)):(∀ y∈l.map UO,Under nb nr nl y)↔True:=iff_true_intro fun y a=>by
 obtain ⟨x,_,rfl⟩:=List.mem_map.1 a
 simp only [Ce,NX,List.mem_cons,forall_eq_or_imp,UJ,true_and];exact x.type.under _ _ _
@[go_sem] theorem Zhv (l:List (Sch)):(l.map UO).map AV.pub=l.map UO:=by
 rw [List.map_map]
 refine List.map_congr_left fun x _=>?_
 simp +decide only [Function.comp,go_sem]
def Va (x:Itm):AV := .agg (x.v.cs++[Am x.level])
@[go_sem] theorem Cd (x:Itm):Va x = .agg (x.v.cs++[Am x.level]):=rfl
@[go_sem] theorem Zft (l:List (Itm)):(∀ y∈l.map Va,y.cells.length=7)↔True:=iff_true_intro fun y a=>by
 obtain ⟨x,_,rfl⟩:=List.mem_map.1 a
 simp +decide only [go_sem]
@[go_sem] theorem ZhZ (l:List (Itm)):(∀ y∈l.map Va,y.cells.length=7∧AX y=true)↔True:=iff_true_intro fun y a=>by
 obtain ⟨x,_,rfl⟩:=List.mem_map.1 a
 simp +decide only [go_sem]
@[go_sem] theorem ZfE (nb nr nl:Nat) (l:List (Itm)):(∀ y∈l.map Va,Under nb nr nl y)↔True:=iff_true_intro fun y a=>by
 obtain ⟨x,_,rfl⟩:=List.mem_map.1 a
 simp only [Cd,NX,List.mem_append,List.mem_singleton];rintro z (hz | rfl);exact x.v.under _ _ _ z hz;exact .val _
@[go_sem] theorem Zhu (l:List (Itm)):(l.map Va).map AV.pub=l.map Va:=by
 rw [List.map_map]
 refine List.map_congr_left fun x _=>?_
 simp +decide only [Function.comp,go_sem]
def Vr (x:Lim):AV := .agg [.val (.string x.name),Am x.low,Am x.high,.val (.bool x.bounds),.val (.bool x.scale),.val (.bool x.text),.val (.bool x.list),.val (.bool x.fields)]
@[go_sem] theorem DG (x:Lim):Vr x = .agg [.val (.string x.name),Am x.low,Am x.high,.val (.bool x.bounds),.val (.bool x.scale),.val (.bool x.text),.val (.bool x.list),.val (.bool x.fields)]:=rfl
@[go_sem] theorem Zgv (l:List (Lim)):(∀ y∈l.map Vr,y.cells.length=8)↔True:=iff_true_intro fun y a=>by
 obtain ⟨x,_,rfl⟩:=List.mem_map.1 a
 simp +decide only [go_sem]
@[go_sem] theorem ZiY (l:List (Lim)):(∀ y∈l.map Vr,y.cells.length=8∧AX y=true)↔True:=iff_true_intro fun y a=>by
 obtain ⟨x,_,rfl⟩:=List.mem_map.1 a
 simp +decide only [go_sem]
@[go_sem] theorem ZgD (nb nr nl:Nat) (l:List (Lim)):(∀ y∈l.map Vr,Under nb nr nl y)↔True:=iff_true_intro fun y a=>by
 obtain ⟨x,_,rfl⟩:=List.mem_map.1 a
 simp +decide only [go_sem];try intro z b;simp_all [Vl.under,Ty.under]
@[go_sem] theorem Zh7 (l:List (Lim)):(l.map Vr).map AV.pub=l.map Vr:=by
 rw [List.map_map]
 refine List.map_congr_left fun x _=>?_
 simp +decide only [Function.comp,go_sem]
def Zac (x:ByteArray × Int):AV := .agg [.val (.string x.1),Am x.2]
@[go_sem] theorem DK (x:ByteArray × Int):Zac x = .agg [.val (.string x.1),Am x.2]:=rfl
@[go_sem] theorem Zgj (l:List (ByteArray × Int)):(∀ y∈l.map Zac,y.cells.length=2)↔True:=iff_true_intro fun y a=>by
 obtain ⟨x,_,rfl⟩:=List.mem_map.1 a
 simp +decide only [go_sem]
@[go_sem] theorem ZiM (l:List (ByteArray × Int)):(∀ y∈l.map Zac,y.cells.length=2∧AX y=true)↔True:=iff_true_intro fun y a=>by
 obtain ⟨x,_,rfl⟩:=List.mem_map.1 a
 simp +decide only [go_sem]
@[go_sem] theorem Zgg (nb nr nl:Nat) (l:List (ByteArray × Int)):(∀ y∈l.map Zac,Under nb nr nl y)↔True:=iff_true_intro fun y a=>by
 obtain ⟨x,_,rfl⟩:=List.mem_map.1 a
 simp +decide only [go_sem];try intro z b;simp_all [Vl.under,Ty.under]
@[go_sem] theorem ZhQ (l:List (ByteArray × Int)):(l.map Zac).map AV.pub=l.map Zac:=by
 rw [List.map_map]
 refine List.map_congr_left fun x _=>?_
 simp +decide only [Function.comp,go_sem]
def ZaA (x:Ty × Ty):AV := .agg (x.1.cs++x.2.cs)
@[go_sem] theorem DO (x:Ty × Ty):ZaA x = .agg (x.1.cs++x.2.cs):=rfl
@[go_sem] theorem Zgo (l:List (Ty × Ty)):(∀ y∈l.map ZaA,y.cells.length=14)↔True:=iff_true_intro fun y a=>by
 obtain ⟨x,_,rfl⟩:=List.mem_map.1 a
 simp +decide only [go_sem]
@[go_sem] theorem ZiE (l:List (Ty × Ty)):(∀ y∈l.map ZaA,y.cells.length=14∧AX y=true)↔True:=iff_true_intro fun y a=>by
 obtain ⟨x,_,rfl⟩:=List.mem_map.1 a
 simp +decide only [go_sem]
@[go_sem] theorem Zgr (nb nr nl:Nat) (l:List (Ty × Ty)):(∀ y∈l.map ZaA,Under nb nr nl y)↔True:=iff_true_intro fun y a=>by
 obtain ⟨x,_,rfl⟩:=List.mem_map.1 a
 exact .agg fun z b=>(List.mem_append.1 b).elim (x.1.under _ _ _ z) (x.2.under _ _ _ z)
@[go_sem] theorem Zid (l:List (Ty × Ty)):(l.map ZaA).map AV.pub=l.map ZaA:=by
 rw [List.map_map]
 refine List.map_congr_left fun x _=>?_
 simp +decide only [Function.comp,go_sem]
def AG (x:Part):AV := .agg [Am x.kind,Am x.index,.val (.string x.name)]
@[go_sem] theorem DN (x:Part):AG x = .agg [Am x.kind,Am x.index,.val (.string x.name)]:=rfl
@[go_sem] theorem Zf5 (l:List (Part)):(∀ y∈l.map AG,y.cells.length=3)↔True:=iff_true_intro fun y a=>by
 obtain ⟨x,_,rfl⟩:=List.mem_map.1 a
 simp +decide only [go_sem]
@[go_sem] theorem Zjb (l:List (Part)):(∀ y∈l.map AG,y.cells.length=3∧AX y=true)↔True:=iff_true_intro fun y a=>by
 obtain ⟨x,_,rfl⟩:=List.mem_map.1 a
 simp +decide only [go_sem]
@[go_sem] theorem Zge (nb nr nl:Nat) (l:List (Part)):(∀ y∈l.map AG,Under nb nr nl y)↔True:=iff_true_intro fun y a=>by
 obtain ⟨x,_,rfl⟩:=List.mem_map.1 a
 simp +decide only [go_sem];try intro z b;simp_all [Vl.under,Ty.under]
@[go_sem] theorem ZhY (l:List (Part)):(l.map AG).map AV.pub=l.map AG:=by
 rw [List.map_map]
 refine List.map_congr_left fun x _=>?_
 simp +decide only [Function.comp,go_sem]
def Rl (x:Ex):AV := .agg x.cs
@[go_sem] theorem Fg (x:Ex):Rl x = .agg x.cs:=rfl
@[go_sem] theorem ZhC (l:List (Ex)):(∀ y∈l.map Rl,y.cells.length=5)↔True:=iff_true_intro fun y a=>by
 obtain ⟨x,_,rfl⟩:=List.mem_map.1 a
 simp +decide only [go_sem]
@[go_sem] theorem ZjA (l:List (Ex)):(∀ y∈l.map Rl,y.cells.length=5∧AX y=true)↔True:=iff_true_intro fun y a=>by
 obtain ⟨x,_,rfl⟩:=List.mem_map.1 a
 simp +decide only [go_sem]
@[go_sem] theorem Zhq (nb nr nl:Nat) (l:List (Ex)):(∀ y∈l.map Rl,Under nb nr nl y)↔True:=iff_true_intro fun y a=>by
 obtain ⟨x,_,rfl⟩:=List.mem_map.1 a
 exact .agg (x.under _ _ _)
@[go_sem] theorem ZiX (l:List (Ex)):(l.map Rl).map AV.pub=l.map Rl:=by
 rw [List.map_map]
 refine List.map_congr_left fun x _=>?_
 simp +decide only [Function.comp,go_sem]
def Bd (x:ByteArray × Ex):AV := .agg (.val (.string x.1)::x.2.cs)
@[go_sem] theorem DL (x:ByteArray × Ex):Bd x = .agg (.val (.string x.1)::x.2.cs):=rfl
@[go_sem] theorem ZgV (l:List (ByteArray × Ex)):(∀ y∈l.map Bd,y.cells.length=6)↔True:=iff_true_intro fun y a=>by
 obtain ⟨x,_,rfl⟩:=List.mem_map.1 a
 simp +decide only [go_sem]
@[go_sem] theorem Zi5 (l:List (ByteArray × Ex)):(∀ y∈l.map Bd,y.cells.length=6∧AX y=true)↔True:=iff_true_intro fun y a=>by
 obtain ⟨x,_,rfl⟩:=List.mem_map.1 a
 simp +decide only [go_sem]
@[go_sem] theorem Zgz (nb nr nl:Nat) (l:List (ByteArray × Ex)):(∀ y∈l.map Bd,Under nb nr nl y)↔True:=iff_true_intro fun y a=>by
 obtain ⟨x,_,rfl⟩:=List.mem_map.1 a
 exact .agg fun z b=>(List.mem_cons.1 b).elim (fun e=>e ▸ .val _) (x.2.under _ _ _ z)
@[go_sem] theorem Zij (l:List (ByteArray × Ex)):(l.map Bd).map AV.pub=l.map Bd:=by
 rw [List.map_map]
 refine List.map_congr_left fun x _=>?_
 simp +decide only [Function.comp,go_sem]
def avM (x:List (ByteArray × Ex)):AV := .agg [.list (x.map Bd) .none]
@[go_sem] theorem Fo (x:List (ByteArray × Ex)):avM x = .agg [.list (x.map Bd) .none]:=rfl
@[go_sem] theorem Zhp (l:List (List (ByteArray × Ex))):(∀ y∈l.map avM,y.cells.length=1)↔True:=iff_true_intro fun y a=>by
 obtain ⟨x,_,rfl⟩:=List.mem_map.1 a
 simp +decide only [go_sem]
@[go_sem] theorem Zjx (l:List (List (ByteArray × Ex))):(∀ y∈l.map avM,y.cells.length=1∧AX y=true)↔True:=iff_true_intro fun y a=>by
 obtain ⟨x,_,rfl⟩:=List.mem_map.1 a
 simp +decide only [go_sem]
@[go_sem] theorem Zg8 (nb nr nl:Nat) (l:List (List (ByteArray × Ex))):(∀ y∈l.map avM,Under nb nr nl y)↔True:=iff_true_intro fun y a=>by
 obtain ⟨x,_,rfl⟩:=List.mem_map.1 a
 simp +decide only [go_sem]
@[go_sem] theorem ZiC (l:List (List (ByteArray × Ex))):(l.map avM).map AV.pub=l.map avM:=by
 rw [List.map_map]
 refine List.map_congr_left fun x _=>?_
 simp +decide only [Function.comp,go_sem]
theorem Zcp (x:ByteArray):(C0 x).pub=C0 x:=by
 have:=Zer [x]
 simpa using this
theorem SS (l:List (ByteArray)) (nb nr nl:Nat):∀ y∈l.flatMap fun x=>(C0 x).cells,Under nb nr nl y:=fun y b=>by
 obtain ⟨x,c,a⟩:=List.mem_flatMap.1 b
 have h:Under nb nr nl (C0 x):=(Zak nb nr nl [x]).2 trivial _ (List.mem_singleton.2 rfl)
 cases h with
 | val _=>rw [List.mem_singleton.1 a];exact .val _
theorem UV (x:Int × ByteArray × Int × Ty × List Vl):(BS x).pub=BS x:=by
 have:=Zcl [x]
 simpa using this
theorem V0 (l:List (Int × ByteArray × Int × Ty × List Vl)) (nb nr nl:Nat):∀ y∈l.flatMap fun x=>(BS x).cells,Under nb nr nl y:=fun y b=>by
 obtain ⟨x,c,a⟩:=List.mem_flatMap.1 b
 have h:Under nb nr nl (BS x):=(Zm nb nr nl [x]).2 trivial _ (List.mem_singleton.2 rfl)
 cases h with
 | agg h=>exact h y a
@[go_sem] theorem ZfX (l:List (List Part)):(∀ y∈l.map (I8 AG),y.cells.length=1)↔True:=iff_true_intro fun y a=>by
 obtain ⟨x,_,rfl⟩:=List.mem_map.1 a
 simp +decide only [go_sem]
@[go_sem] theorem ZhS (l:List (List Part)):(∀ y∈l.map (I8 AG),y.cells.length=1∧AX y=true)↔True:=iff_true_intro fun y a=>by
 obtain ⟨x,_,rfl⟩:=List.mem_map.1 a
 simp +decide only [go_sem]
@[go_sem] theorem ZfO (nb nr nl:Nat) (l:List (List Part)):(∀ y∈l.map (I8 AG),Under nb nr nl y)↔True:=iff_true_intro fun y a=>by
 obtain ⟨x,_,rfl⟩:=List.mem_map.1 a
 simp +decide only [go_sem]
@[go_sem] theorem ZgZ (l:List (List Part)):(l.map (I8 AG)).map AV.pub=l.map (I8 AG):=by
 rw [List.map_map]
 refine List.map_congr_left fun x _=>?_
 simp +decide only [Function.comp,go_sem]
@[go_sem] theorem Zgi (l:List (List ByteArray)):(∀ y∈l.map (I8 C0),y.cells.length=1)↔True:=iff_true_intro fun y a=>by
 obtain ⟨x,_,rfl⟩:=List.mem_map.1 a
 simp +decide only [go_sem]
@[go_sem] theorem ZiW (l:List (List ByteArray)):(∀ y∈l.map (I8 C0),y.cells.length=1∧AX y=true)↔True:=iff_true_intro fun y a=>by
 obtain ⟨x,_,rfl⟩:=List.mem_map.1 a
 simp +decide only [go_sem]
@[go_sem] theorem ZgJ (nb nr nl:Nat) (l:List (List ByteArray)):(∀ y∈l.map (I8 C0),Under nb nr nl y)↔True:=iff_true_intro fun y a=>by
 obtain ⟨x,_,rfl⟩:=List.mem_map.1 a
 simp +decide only [go_sem]
@[go_sem] theorem Zik (l:List (List ByteArray)):(l.map (I8 C0)).map AV.pub=l.map (I8 C0):=by
 rw [List.map_map]
 refine List.map_congr_left fun x _=>?_
 simp +decide only [Function.comp,go_sem]
@[go_sem] theorem ZgL (l:List (List Int)):(∀ y∈l.map (I8 Yi),y.cells.length=1)↔True:=iff_true_intro fun y a=>by
 obtain ⟨x,_,rfl⟩:=List.mem_map.1 a
 simp +decide only [go_sem]
@[go_sem] theorem Zjc (l:List (List Int)):(∀ y∈l.map (I8 Yi),y.cells.length=1∧AX y=true)↔True:=iff_true_intro fun y a=>by
 obtain ⟨x,_,rfl⟩:=List.mem_map.1 a
 simp +decide only [go_sem]
@[go_sem] theorem Zgm (nb nr nl:Nat) (l:List (List Int)):(∀ y∈l.map (I8 Yi),Under nb nr nl y)↔True:=iff_true_intro fun y a=>by
 obtain ⟨x,_,rfl⟩:=List.mem_map.1 a
 simp +decide only [go_sem]
@[go_sem] theorem ZhX (l:List (List Int)):(l.map (I8 Yi)).map AV.pub=l.map (I8 Yi):=by
 rw [List.map_map]
 refine List.map_congr_left fun x _=>?_
 simp +decide only [Function.comp,go_sem]
@[go_sem] theorem Zh8 (l:List Ex):Nc l=l.map Rl:=NT l
@[go_sem] theorem Ex.under_mem (nb nr nl:Nat) (v:Ex):(∀ x∈v.cs,Under nb nr nl x)↔True:=iff_true_intro (v.under nb nr nl)
theorem Ex.cs_eqs (v:Ex):v.cs=[Am v.op,Am v.int,.val (.string v.text),.list (v.value.map CZ) .none,.list (v.args.map Rl) .none]:=by
 cases v;rw [Ex.cs,EC,NT];rfl
@[go_sem] theorem Ex.cs_mks (o i:Int) (t:ByteArray) (v:List Vl) (a:List Ex):(Ex.mk o i t v a).cs=[Am o,Am i,.val (.string t),.list (v.map CZ) .none,.list (a.map Rl) .none]:=Ex.cs_eqs _
@[go_sem] theorem RS (l:List Vl):Ec l=l.map CZ:=EC l
@[go_sem] theorem Xm (l:List Ty):MK l=l.map IX:=P3 l
@[go_sem] theorem Xw (l:List (ByteArray × Vl)):Jt l=l.map QY:=NE l
@[go_sem] theorem Ux (l:List (Int × ByteArray × Int × Ty × List Vl)):Ip l=l.map BS:=by
 rw [OZ]
 refine List.map_congr_left fun x _=>?_
 rw [RS];rfl
@[go_sem] theorem Zb3 (l:List ByteArray):(l.map fun x=>AV.val (.string x))=l.map C0:=rfl
@[go_sem] theorem Vl.under_mem (nb nr nl:Nat) (v:Vl):(∀ x∈v.cs,Under nb nr nl x)↔True:=iff_true_intro (v.under nb nr nl)
@[go_sem] theorem Ty.under_mem (nb nr nl:Nat) (v:Ty):(∀ x∈v.cs,Under nb nr nl x)↔True:=iff_true_intro (v.under nb nr nl)
@[go_sem] theorem Zf1 {α:Type} (p:α→Prop) (l m:List α):(∀ x∈l++m,p x)↔(∀ x∈l,p x)∧∀ x∈m,p x:=List.forall_mem_append
theorem rt {α:Type} {x r:α} {F G C p:Prop} (h:some x=some r) (f:F) (hcalm:C) (hO:G) (k:some x=some r→F→C→G→p:=by
  intro h hs hcalm hO
  apply A0;simp +decide only [go_sem,Nat.reduceAdd,hs]
  have hgt:=Option.some.inj h;subst hgt
  first | refine Cb hcalm rfl hO.pre (by simp +decide only [go_sem,Nat.reduceAdd]) ⟨?_,?_⟩ | refine DT hcalm rfl hO.pre (by simp +decide only [go_sem,Nat.reduceAdd]) ⟨?_,?_⟩
  all_goals first | rfl | (simp +decide only [go_sem,Nat.reduceAdd,hs];done) | (simp +decide only [go_sem,Nat.reduceAdd,Vl.cs,Ty.cs,hs];done)):p:=k h f hcalm hO
theorem hv {p F:Prop} (f:F) (h:F→p:=by intro hs;first | rfl | (simp +decide only [go_sem,Nat.reduceAdd,hs];done) | (simp +decide only [go_sem,Nat.reduceAdd,Vl.cs,Ty.cs,hs];done)):p:=h f
theorem Ty.cs_eqs (t:Ty):t.cs=[Am t.kind,Am t.min,Am t.max,Am t.scale,.list (t.words.map C0) .none,.list (t.elem.map IX) .none,.list (t.fields.map BS) .none]:=by
 cases t;rw [Ty.cs,Xm,Ux];rfl
theorem Vl.cs_eqs (v:Vl):v.cs=[Am v.kind,Am v.int,Am v.scale,.val (.string v.text),.list (v.list.map CZ) .none,.list (v.fields.map QY) .none]:=by
 rw [v.cs_eq,RS,Xw]
theorem Yc (w0:World) (B:Ao) (Rw:Av) (L:As) (hT:Lib.Utf8Tabs 2 3 w0) (s:ByteArray) (hs:s.size≤maxLen) :
  ACalls Tryz.prog w0 222 [.val (.string s)] ⟨B,Rw,L⟩ fun v s'=>v = .val (.bool (Lib.validD s.data.toList))∧s'=⟨B,Rw,L⟩:=Z5 w0 _ hT s hs
attribute [go_sem] QL O1 J9 Nat.mul_one Nat.zero_add Nat.add_zero Option.isSome_some List.getElem?_cons_zero List.getElem?_cons_succ
abbrev ALp:Prop:=(∀ (α:Type) (l m:List α),List.append l m=l++m)∧(∀ (α:Type) (a:α) (l m:List α),(a::l)++m=a::(l++m))∧∀ (α:Type) (l:List α),[]++l=l
theorem al {F:Prop} (h:F):ALp∧F:=⟨⟨fun _ _ _=>rfl,fun _ _ _ _=>rfl,fun _ _=>rfl⟩,h⟩
theorem Vl.cs_mks (k i s:Int) (t:ByteArray) (l:List Vl) (f:List (ByteArray × Vl)):(Vl.mk k i s t l f).cs=[Am k,Am i,Am s,.val (.string t),.list (l.map CZ) .none,.list (f.map QY) .none]:=Vl.cs_eqs _
theorem Ty.cs_mks (a b c d:Int) (w:List ByteArray) (e:List Ty) (f:List (Int × ByteArray × Int × Ty × List Vl)):(Ty.mk a b c d w e f).cs=[Am a,Am b,Am c,Am d,.list (w.map C0) .none,.list (e.map IX) .none,.list (f.map BS) .none]:=Ty.cs_eqs _
theorem cm {F:Prop} (h:F):((∀ k i s t l f,(Vl.mk k i s t l f).cs=[Am k,Am i,Am s,.val (.string t),.list (l.map CZ) .none,.list (f.map QY) .none])∧∀ a b c d w e f,(Ty.mk a b c d w e f).cs=[Am a,Am b,Am c,Am d,.list (w.map C0) .none,.list (e.map IX) .none,.list (f.map BS) .none])∧F:=⟨⟨Vl.cs_mks,Ty.cs_mks⟩,h⟩
theorem Ew {p:Prop} (h:p:=by first | rfl | simp only [List.length_append,List.length_cons,List.length_nil,List.length_map,Nat.zero_add,Nat.add_zero]):p:=h
theorem X9 {p:Prop} (h:p:=by simp only [List.length_set]):p:=h
theorem kr {p:Prop} (h:p:=by kernel_rfl):p:=h
theorem px {p:Prop} (h:p:=by first | exact List.prefix_append _ _ | exact List.prefix_refl _):p:=h
theorem ap_ {p:Prop} (h:p:=by simp only [List.append_assoc,List.cons_append,List.nil_append]):p:=h
theorem nq {p:Prop} (h:p:=by first | assumption | omega | (simp only [List.length_set] at *; omega)):p:=h
theorem fn_ {p:Prop} (h:p:=by first | rfl | simp only [List.flatMap_nil]):p:=h
theorem vu {p V:Prop} (v:V) (h:V→p:=by intro v;simp only [List.mem_cons,List.not_mem_nil,or_false,forall_eq_or_imp,forall_eq];exact v _ _ _ _):p:=h v
theorem LI {p V:Prop} {Rw rows:List RowA} {l:List (Nat × Nat × Ev.Own)} {ho:Ev.Own} {v:List VE} (u:V) (hO:Owns Rw rows l ho v) (h:V→Rw.length≤rows.length→p:=by
  intro u hl
  (simp +decide only [go_sem,Nat.reduceAdd,IY])<;>(try (repeat' apply Ae))<;>first | omega | assumption | exact u _ _ _ (by omega) (by omega) (by omega)):p:=h u hO.len
theorem ln {p:Prop} {Rw rows Rw' rows':List RowA} {l l':List (Nat × Nat × Ev.Own)} {ho ho':Ev.Own} {v v':List VE} (h1:Owns Rw rows l ho v) (h2:Owns Rw' rows' l' ho' v') (h:Rw.length≤rows.length→Rw'.length≤rows'.length→p:=by intro _ _;first | exact Nat.le_refl _ | omega):p:=h h1.len h2.len
theorem dl {F p q:Prop} (m c1 c2:Nat) (L:List Nat) (f:F) {P:Program} (hm:P.follows .mixedOrders=true) {A K:Env→St→Prop} (hK:∀ e s,A e s→K e s) (k:q) (h:Tg (m,c1,c2,L)→F→P.follows .mixedOrders=true→(∀ e s,A e s→K e s)→q→p:=by
  intro tt hs hm hK hq
  refine Qn tt hm (by kernel_rfl) ?_
  rw [Ap];simp +decide only [go_sem,Nat.reduceAdd,hs]
  (repeat' with_reducible apply Ae)<;>first | (rw [Ap];simp +decide only [go_sem,Nat.reduceAdd,hs]) | (clear hq;exact cl)
  first | (refine hK _ _ ?_;exact hq) | ((repeat' apply Ae)<;>first | (refine hK _ _ ?_;exact hq) | (clear hq;exact cl))):p:=h tg f hm hK k
theorem dk {F p q:Prop} (m c1 c2:Nat) (L:List Nat) (f:F) {P:Program} (hm:P.follows .mixedOrders=true) (k:q) (h:Tg (m,c1,c2,L)→F→P.follows .mixedOrders=true→q→p:=by
  intro tt hs hm hq
  refine Qn tt hm (by kernel_rfl) ?_
  rw [Ap];simp +decide only [go_sem,Nat.reduceAdd,hs]
  first | (refine IZ ?_;exact hq) | ((repeat' apply Ae)<;>first | (refine IZ ?_;exact hq) | (clear hq;exact cl))):p:=h tg f hm k
theorem dn {F p q:Prop} (f:F) {A K:Env→St→Prop} (hK:∀ e s,A e s→K e s) (k:q) (h:F→(∀ e s,A e s→K e s)→q→p:=by
  intro hs hK hq
  rw [Ap];simp +decide only [go_sem,Nat.reduceAdd,hs]
  (repeat' with_reducible apply Ae)<;>first | (rw [Ap];simp +decide only [go_sem,Nat.reduceAdd,hs]) | (clear hq;exact cl)
  first | (refine hK _ _ ?_;exact hq) | ((repeat' apply Ae)<;>first | (refine hK _ _ ?_;exact hq) | (clear hq;exact cl))):p:=h f hK k
theorem rT {α:Type} {x r:α} {F G C p:Prop} (h:x=r) (f:F) (hcalm:C) (hO:G) (k:x=r→F→C→G→p:=by
  intro h hs hcalm hO
  apply A0;simp +decide only [go_sem,Nat.reduceAdd,hs]
  subst h
  first | refine Cb hcalm rfl hO.pre (by simp +decide only [go_sem,Nat.reduceAdd]) ⟨?_,rfl⟩ | refine DT hcalm rfl hO.pre (by simp +decide only [go_sem,Nat.reduceAdd]) ⟨?_,rfl⟩
  first | rfl | (simp +decide only [go_sem,Nat.reduceAdd,hs];done) | (simp +decide only [go_sem,Nat.reduceAdd,Vl.cs,Ty.cs,hs];done)):p:=k h f hcalm hO
end Go.Proofs.YtmcnjijeocmkgaaGreatDoor
namespace Go.Ev
open Go Go.RowKit Go.Shelf
section
variable {P:Program} {w0:World} {st:St}
theorem WT {M:Mem} {w w':World} {e:TypeId} {sz:Nat} {v':Value} {n:Nat} {us:Nat→Value} {xs:List AV} (hst:RelSt w0 M st w) (hb:Below w.heap.size w w') (ho:w'.ownsRow w.heap.size e sz v' n (flat us n)) (hn:xs.length=n)
  (hus:∀ i,i<n→(us i).cells.size=sz) (hR:∀ i (hi:i<xs.length),R w0 M w (us i) xs[i]):∃ M',Ext w0 M w M' w'∧RelSt w0 M' st w'∧R w0 M' w' v' (.list xs .none):=by
 subst hn
 obtain ⟨k,d⟩:=ho
 rcases d with ⟨rfl,h0⟩ | ⟨g,cap,cur,rfl,hg,hcur,hc1,hc2,hc3,hc4⟩
 ·obtain ⟨c,b⟩:=hst.later hb w.heap.size 0 (Nat.le_refl _) (.inr rfl)
  have:xs=[]:=List.length_eq_zero_iff.1 h0
  subst this
  exact ⟨_,b,c,.nil (fun id=>by simp)⟩
 ·obtain ⟨c,b⟩:=hst.later hb g (xs.length*sz) hg (.inl (Array.getElem?_eq_some_iff.1 hcur).1)
  refine ⟨_,b,c,.list sz us hc1 hc2 (fun i hi=>⟨hus i hi,fun j f=>?_⟩) (fun i hi=>(hR i hi).mono b) trivial⟩
  have a:i*sz+j<xs.length*sz:=by
   have:(i+1)*sz≤xs.length*sz:=Nat.mul_le_mul_right _ hi
   rw [Nat.succ_mul] at this;omega
  refine ⟨.inr (by simp only [Mem.newTop,if_true,Nat.zero_add];exact a),?_⟩
  have h:=HM hus i hi j f
  rw [←h,←hc4,List.getElem?_take_of_lt a,Array.getElem?_toList]
  simp [World.cell?,hcur]
theorem YD {ρ:Ren} (L:Go.Proofs.SlLaysE0.n41 P ρ) (i0:TypeInfo) (z:Value) (size bytes:Nat) (hi:P.info? (ρ.t 23)=some i0) (hz0:i0.zero=some z) (hz1:i0.size=size) (hz2:i0.bytes=bytes) (hzs:z.cells.size=size) (hsz:0<size)
  (z23:∀ w,(Go.sizeOf (ρ.t 23)).run P w = .ok size w) (a:Addr) (c:Nat) (w:World) :
  Calls P (ρ.f 41) #[.slice (some a) 0 c] w fun e w'=>∃ v',e = .returned v'∧w'.ownsRow w.heap.size (ρ.t 23) size v' 0 []∧Below w.heap.size w w':=by
 have mixed:=L.mixed;have t4:=L.t4;have a4:=L.a4;have z4:=L.z4;have v4:=L.v4;have t22:=L.t22;have a22:=L.a22;have z22:=L.z22;have v22:=L.v22
 have q22:∀ (w:World) (a:Option Addr) (n c n' c':Nat),(binOp .eql (ρ.t 22) (.slice a n c) (.slice none n' c')).run P w = .ok (.bool a.isNone) w:=fun w a n c n' c'=>Lib.run_eql_slice_nil w _ _ a n c n' c' L.t22
 have u22:∀ w,Sem.run P (underlying (ρ.t 22)) w = .ok (TypeDesc.slice (ρ.t 23)) w:=run_underlying t22
 obtain ⟨_,_,FG⟩:=L.f41
 go_enter FG,Go.Proofs.SlBodyN.n41_ntmps ρ
 go_wp2_with (at_builtin;refine wpList_append_own _ rfl _ _ (ρ.t 22) rfl w.heap.size (ρ.t 23) i0 z size bytes t22 hi hz0 hz1 hz2 hzs hsz _ _ _ rfl (World.ownsRow_made w #[] 0 (Nat.le_refl _) (Nat.zero_le _) (by simp)) a 0 c [] rfl (by simp) (by intro j u hj;simp at hj) (by intro u hu;cases hu) (by unfold maxLen;omega) (by omega) (by simp) ?_)
 intro v' w1 hown hgrow hnil
 go_wp2
 go_ret
 exact ⟨v',rfl,by simpa using hown,((Below.refl _ w).alloc (Nat.le_refl _) _).grown hgrow (by simp) (by intro k hk;simp [Value.ownBlock] at hk;omega)⟩
theorem Zc {ρ:Ren} (L:Go.Proofs.SlLaysE0.n41 P ρ) (hen:Jl P (ρ.f 41)) (i0:TypeInfo) (z:Value) (size bytes:Nat) (hi:P.info? (ρ.t 23)=some i0) (hz0:i0.zero=some z) (hz1:i0.size=size) (hz2:i0.bytes=bytes) (hzs:z.cells.size=size) (hsz:0<size)
  (z23:∀ w,(Go.sizeOf (ρ.t 23)).run P w = .ok size w) {xs:List AV} {o:Own} (hx:∀ y∈xs,y.cells.length=size) (h1:∀ y∈xs,AX y=true) (hbig:xs.length*bytes≤140737488355328) :
  ACalls P w0 (ρ.f 41) [.list xs o] st fun r s=>r = .list xs .none∧s=st:=by
 refine ⟨hen,fun M w p m h=>?_⟩
 obtain ⟨v,rfl⟩:∃ v,p = #[v]:=by
  have:=h.1
  simp only [List.length_cons,List.length_nil] at this
  exact Array.size_eq_one_iff.1 this
 have hv:R w0 M w v (.list xs o):=h.2 0 (by simp) (by simp)
 cases hv with
 | nil ho =>
  refine (Go.Proofs.AnyE.slices_Clone_nil L 0 0 w).mono ?_
  rintro en N ⟨rfl,rfl⟩
  exact ⟨_,M,_,st,rfl,⟨rfl,rfl⟩,.refl _ _ _,m,.nil (fun id=>by simp)⟩
 | @emp ad _ ho =>
  refine (YD L i0 z size bytes hi hz0 hz1 hz2 hzs hsz z23 ad 0 w).mono ?_
  rintro en N ⟨J,rfl,c,a⟩
  obtain ⟨M',E,K,C⟩:=WT (xs:=[]) (us:=fun _=>undef) m a c rfl (fun i hi=>absurd hi (by omega)) (fun i hi=>absurd hi (by simp))
  exact ⟨J,M',_,st,rfl,⟨rfl,rfl⟩,E,K,C⟩
 | @list b off cap _ _ sz us hc hm hcell hu ho =>
  have g:∀ i,i<xs.length→(us i).cells.size=size:=fun i hi=>by
   rw [((hu i hi).cells).1];exact hx _ (List.getElem_mem _)
  have d:∀ i,i<xs.length→∀ j,j<size→w.cell? ⟨b,off+i*size+j,none⟩=(us i).cells[j]? := fun i hi j F=>by
   have e:sz=size:=((hcell i hi).1).symm.trans (g i hi)
   subst e
   exact ((hcell i hi).2 j F).2
  refine (Go.Proofs.AnyE.slices_Clone L i0 z size bytes hi hz0 hz1 hz2 hzs hsz z23 b off xs.length cap (flat us xs.length) w (AP g) (Nat.le_trans hc hm) hbig (fun j u F=>?_) (fun u H=>?_)).mono ?_
  ·have:=E9 g hsz d j u F
   rwa [Eb] at this
  ·obtain ⟨i,G,D⟩:=List.mem_flatMap.1 H
   have l:i<xs.length:=by simpa using G
   obtain ⟨k,O,rfl⟩:=List.mem_iff_getElem.1 D
   have q:=(hu i l).cells
   have n:k<(us i).cells.size:=by simpa using O
   have:=q.2 k n (by rw [←q.1];exact n)
   rw [Array.getElem_toList]
   refine this.oneCell ((hu i l).cellsOne (fun vs x=>?_) _ (List.getElem_mem _))
   have:=h1 _ (List.getElem_mem l)
   rw [x] at this;cases this
  ·rintro en N ⟨J,rfl,c,_,a⟩
   obtain ⟨M',E,K,C⟩:=WT m a c rfl g hu
   exact ⟨J,M',_,st,rfl,⟨rfl,rfl⟩,E,K,C⟩
def ZK (P:Program) (t:TypeId) (size bytes:Nat):Bool :=
 match P.info? t with
 | some i=>(i.size == size)&&(i.bytes == bytes)&&(match i.zero with | some z=>z.cells.size == size | none=>false)
 | none=>false
theorem Rx {t:TypeId} {size bytes:Nat} (h:ZK P t size bytes=true):∃ i0 z,P.info? t=some i0∧i0.zero=some z∧i0.size=size∧i0.bytes=bytes∧z.cells.size=size:=by
 unfold ZK at h
 cases hi:P.info? t with
 | none=>simp [hi] at h
 | some i =>
  simp only [hi,Bool.and_eq_true,beq_iff_eq] at h
  cases hz:i.zero with
  | none=>simp [hz] at h
  | some z =>
   simp only [hz,beq_iff_eq] at h
   exact ⟨i,z,rfl,hz,h.1.1,h.1.2,h.2⟩
theorem Qz {ρ:Ren} (L:Go.Proofs.SlLaysE0.n41 P ρ) (hen:Jl P (ρ.f 41)) (size bytes:Nat) (hi:ZK P (ρ.t 23) size bytes=true) (hsz:0<size) (z23:∀ w,(Go.sizeOf (ρ.t 23)).run P w = .ok size w) {xs:List AV} {o:Own}
  (hx:∀ y∈xs,y.cells.length=size∧AX y=true) (hbig:xs.length*bytes≤140737488355328):ACalls P w0 (ρ.f 41) [.list xs o] st fun r s=>r = .list xs .none∧s=st:=by
 obtain ⟨b,z,a1,a2,a3,a4,a5⟩:=Rx hi
 exact Zc L hen b z size bytes a1 a2 a3 a4 a5 hsz z23 (fun y a=>(hx y a).1) (fun y a=>(hx y a).2) hbig
end
def Nu (n:Nat) (rows:Av):Own:=if n=0 then .full else .row rows.length
def P7 (n sz:Nat) (rows:Av):List RowA:=if n=0 then rows else rows++[.grow n sz]
theorem Owns.clone {Rw rows:List RowA} {l:List (Nat × Nat × Own)} {ho:Own} (h:Owns Rw rows l ho) (sz n:Nat):Owns Rw (P7 n sz rows) ((sz,n,Nu n rows)::l) ho:=by
 unfold P7 Nu
 by_cases q:n=0
 ·rw [Ai q,Ai q];exact h.full sz n
 ·rw [Aj q,Aj q];exact h.make sz n
theorem Owns.len1 {Rw rows:List RowA} {o ho:Own} {sz n m:Nat} (h:Owns Rw rows [(sz,n,o)] ho) (e:n=m):Owns Rw rows [(sz,m,o)] ho:=e▸h
theorem A7 {B:List (List AV)} {l i:Nat} {cs:List AV} (h:B[l]? = some cs) (hne:i≠l) :
  (∀ X R L o c,C7 ⟨B.set i c++X,R,L⟩ (.box l o)=true)∧(∀ R L o c,C7 ⟨B.set i c,R,L⟩ (.box l o)=true)∧(∀ X R L o c,A6 ⟨B.set i c++X,R,L⟩ (.box l o)=cs)∧(∀ R L o c,A6 ⟨B.set i c,R,L⟩ (.box l o)=cs) ∧
  (∀ X c,(B.set i c++X)[l]? = some cs)∧(∀ c,(B.set i c)[l]? = some cs)∧(∀ X c,(B.set i c++X).getD l []=cs)∧(∀ c,(B.set i c).getD l []=cs):=by
 have a:∀ c,(B.set i c)[l]? = some cs:=fun c=>by rw [List.getElem?_set_ne hne];exact h
 refine ⟨fun X R L o c=>(Aq (a c)).1 X R L o,fun R L o c=>(Aq (a c)).2.1 R L o,fun X R L o c=>(Aq (a c)).2.2.1 X R L o,fun R L o c=>(Aq (a c)).2.2.2.1 R L o,fun X c=>(Aq (a c)).2.2.2.2.1 X,a,
  fun X c=>(Aq (a c)).2.2.2.2.2.2.1 X,fun c=>(Aq (a c)).2.2.2.2.2.2.2.1⟩
section
variable {P:Program} {w0:World} {st:St} {M:Mem} {w:World}
theorem RelSt.adoptRow (h:RelSt w0 M st w) {w':World} (hb:Below w.heap.size w w') {g cap k sz:Nat} {cs:Array Value} {ty:TypeId} (hg:w.heap.size≤g) (hcs:w'.heap[g]? = some (.cells cs ty (0,0))) (hm:cap≤maxLen) (hk:k≤cap) (hs:cs.size=cap*sz) :
  RelSt w0 (M.addRow g cap k sz (k*sz)) { st with rows:=st.rows++[.grow k sz] } w'∧Ext w0 M w (M.addRow g cap k sz (k*sz)) w':=by
 have J:g<w'.heap.size:=(Array.getElem?_eq_some_iff.1 hcs).1
 have n:∀ b,b<w.heap.size→(M.addRow g cap k sz (k*sz)).top b=M.top b:=fun b hb=>by simp [Mem.addRow];omega
 have C:∀ x,x<w.heap.size→w'.heap[x]? = w.heap[x]? := hb.block
 have t:KeepsObj w w':=fun x o f _=>(C x (Array.getElem?_eq_some_iff.1 f).1).trans f
 have a:∀ i,i<M.NR→(M.addRow g cap k sz (k*sz)).fr i=M.fr i∧(M.addRow g cap k sz (k*sz)).blk i=M.blk i∧(M.addRow g cap k sz (k*sz)).cap i=M.cap i∧(M.addRow g cap k sz (k*sz)).rsz i=M.rsz i:=by
  intro i p
  have:¬ i=M.NR:=by omega
  simp [Mem.addRow,this]
 have z:Ext w0 M w (M.addRow g cap k sz (k*sz)) w' :=
  ⟨Nat.le_refl _,fun _ _=>rfl,Nat.le_succ _,fun i p=>by obtain ⟨a1,a2,a3,a4⟩:=a i p;exact ⟨by omega,fun _=>⟨a2,a3,a4⟩⟩,fun x V v p u=>by
   have d:=World.block_lt_of_cell? w _ u
   refine ⟨?_,p.imp id fun q=>by rw [n x d];exact q⟩
   unfold World.cell? at u ⊢
   simp only [C x d] at u ⊢
   exact u,hb.size,Nat.le_refl _,fun _ _=>rfl,fun _ f s=>absurd s (Nat.not_lt.2 f),fun x o f s _=>t x o f s⟩
 have F:∀ l,l<M.N→M.bx l≠g:=fun l D=>by have:=h.box_lt D;omega
 refine ⟨⟨h.below.trans (hb.mono h.base_le),h.N,by simp [Mem.addRow,h.NR],fun b Y=>?_,h.inj,fun l c D=>?_,fun id y hid=>?_,fun i j p Q e=>?_,h.loop.mono z rfl t⟩,z⟩
 ·have:=hb.size
  have:(M.addRow g cap k sz (k*sz)).top b=M.top b:=by simp [Mem.addRow];omega
  rw [this]
  exact h.top b (by omega)
 ·obtain ⟨a1,a2,U,E,a3,a4,a5,a6⟩:=h.box l c D
  have d:=(Array.getElem?_eq_some_iff.1 a3).1
  exact ⟨a1,by rw [show (M.addRow g cap k sz (k*sz)).bx l=M.bx l from rfl,n _ d];exact a2,U,E,by rw [show (M.addRow g cap k sz (k*sz)).bx l=M.bx l from rfl,C _ d];exact a3,a4,a5,fun i f s=>(a6 i f s).mono z⟩
 ·by_cases e1:id=M.NR
  ·subst e1
   simp only [h.NR,List.getElem?_concat_length,Option.some.injEq] at hid
   subst hid
   have q:(M.addRow g cap k sz (k*sz)).fr M.NR=k∧(M.addRow g cap k sz (k*sz)).blk M.NR=g∧(M.addRow g cap k sz (k*sz)).cap M.NR=cap∧(M.addRow g cap k sz (k*sz)).rsz M.NR=sz∧(M.addRow g cap k sz (k*sz)).top g=k*sz:=by simp [Mem.addRow]
   obtain ⟨q1,q2,q3,H,q5⟩:=q
   simp only [RowOk,q1,q2,q3,H,q5]
   have Z:=h.base_le
   exact ⟨trivial,trivial,by omega,trivial,F,hm,hk,cs,ty,hcs,hs⟩
  ·have m:id<M.NR:=by
    have:id<(st.rows++[RowA.grow k sz]).length:=(Ak.1 hid).1
    have G:=h.NR
    simp at this
    omega
   rw [List.getElem?_append_left (by rw [←h.NR];exact m)] at hid
   have hk:=h.row id y hid
   obtain ⟨o1,O,K,o4⟩:=a id m
   exact hk.keep z o1 o4 O K (n _ hk.lt) hk.ne (C _ hk.lt)
 ·have G:(M.addRow g cap k sz (k*sz)).NR=M.NR+1:=rfl
  rw [G] at p Q
  have r:(M.addRow g cap k sz (k*sz)).blk M.NR=g:=by simp [Mem.addRow]
  by_cases e1:i=M.NR
  ·by_cases e2:j=M.NR
   ·omega
   ·subst e1
    rw [r,(a j (by omega)).2.1] at e
    have:=h.row_lt (i:=j) (by omega)
    omega
  ·by_cases e2:j=M.NR
   ·subst e2
    rw [r,(a i (by omega)).2.1] at e
    have:=h.row_lt (i:=i) (by omega)
    omega
   ·rw [(a i (by omega)).2.1,(a j (by omega)).2.1] at e
    exact h.rowinj i j (by omega) (by omega) e
theorem Zfk {w':World} {e:TypeId} {sz:Nat} {v':Value} {n:Nat} {us:Nat→Value} {xs:List AV} (hst:RelSt w0 M st w) (hb:Below w.heap.size w w') (ho:w'.ownsRow w.heap.size e sz v' n (flat us n)) (hn:xs.length=n) (h0:n≠0)
  (hus:∀ i,i<n→(us i).cells.size=sz) (hR:∀ i (hi:i<xs.length),R w0 M w (us i) xs[i]):∃ M',Ext w0 M w M' w'∧RelSt w0 M' { st with rows:=st.rows++[.grow n sz] } w'∧R w0 M' w' v' (.list xs (.row st.rows.length)):=by
 subst hn
 obtain ⟨l,d⟩:=ho
 rcases d with ⟨rfl,h0'⟩ | ⟨g,cap,cur,rfl,hg,hcur,hc1,hc2,hc3,hc4⟩
 ·exact absurd h0' h0
 ·obtain ⟨k,c⟩:=hst.adoptRow hb hg hcur hc2 hc1 hc3
  have b:=hst.NR
  refine ⟨_,c,k,.list sz us hc1 hc2 (fun i hi=>⟨hus i hi,fun j f=>?_⟩) (fun i hi=>(hR i hi).mono c) ⟨by simp [Mem.addRow,b],by simp [Mem.addRow,b],fun _=>by simp [Mem.addRow,b]⟩⟩
  have a:i*sz+j<xs.length*sz:=by
   have:(i+1)*sz≤xs.length*sz:=Nat.mul_le_mul_right _ hi
   rw [Nat.succ_mul] at this;omega
  refine ⟨.inr (by simp only [Mem.addRow,if_true,Nat.zero_add];exact a),?_⟩
  have h:=HM hus i hi j f
  rw [←h,←hc4,List.getElem?_take_of_lt a,Array.getElem?_toList]
  simp [World.cell?,hcur]
theorem Zd {ρ:Ren} (L:Go.Proofs.SlLaysE0.n41 P ρ) (i0:TypeInfo) (size:Nat) (hi:P.info? (ρ.t 23)=some i0) (hz1:i0.size=size) (z23:∀ w,(Go.sizeOf (ρ.t 23)).run P w = .ok size w) (a:Addr) (c:Nat) (w:World) :
  Calls P (ρ.f 41) #[.slice (some a) 0 c] w fun e w'=>∃ b,e = .returned (.slice (some b) 0 0)∧Below w.heap.size w w':=by
 have mixed:=L.mixed;have t4:=L.t4;have a4:=L.a4;have z4:=L.z4;have v4:=L.v4;have t22:=L.t22;have a22:=L.a22;have z22:=L.z22;have v22:=L.v22
 have q22:∀ (w:World) (a:Option Addr) (n c n' c':Nat),(binOp .eql (ρ.t 22) (.slice a n c) (.slice none n' c')).run P w = .ok (.bool a.isNone) w:=fun w a n c n' c'=>Lib.run_eql_slice_nil w _ _ a n c n' c' L.t22
 have u22:∀ w,Sem.run P (underlying (ρ.t 22)) w = .ok (TypeDesc.slice (ρ.t 23)) w:=run_underlying t22
 have hgo:∀ (w:World) (ty:TypeId) (ad:Addr),(Builtin.append_ #[ρ.t 22,ρ.t 22] ty #[.slice (some ad) 0 0,.slice (some a) 0 c]).run P w = .ok (.slice (some ad) 0 0) w:=fun w ty ad=>by
  simp [Builtin.append_,run_underlying t22,sizeOf,typeInfo,hi,hz1,storeCells,Builtin.lenOf,Builtin.firstCells,loadCells,loadCellsFrom]
 obtain ⟨_,_,FG⟩:=L.f41
 go_enter FG,Go.Proofs.SlBodyN.n41_ntmps ρ
 go_wp2_with (at_builtin;refine Lib.wpList_append_run _ rfl _ _ (ρ.t 22) (ρ.t 22) rfl _ _ rfl rfl _ _ (hgo _ _ _) ?_)
 go_wp2
 go_ret
 exact ⟨_,rfl,(Below.refl _ w).alloc (Nat.le_refl _) _⟩
theorem Z2 {ρ:Ren} (L:Go.Proofs.SlLaysE0.n41 P ρ) (hen:Jl P (ρ.f 41)) (size bytes:Nat) (hinf:ZK P (ρ.t 23) size bytes=true) (hsz:0<size) (z23:∀ w,(Go.sizeOf (ρ.t 23)).run P w = .ok size w) {xs:List AV} {o:Own}
  (hx:∀ y∈xs,y.cells.length=size∧AX y=true) (hbig:xs.length*bytes≤140737488355328) :
  ACalls P w0 (ρ.f 41) [.list xs o] st fun r s=>r = .list xs (Nu xs.length st.rows)∧s={ st with rows:=P7 xs.length size st.rows }:=by
 obtain ⟨i0,z,l,Z,G,Y,V⟩:=Rx hinf
 refine ⟨hen,fun M w F C m=>?_⟩
 obtain ⟨v,rfl⟩:∃ v,F = #[v]:=by
  have:=m.1
  simp only [List.length_cons,List.length_nil] at this
  exact Array.size_eq_one_iff.1 this
 have hv:R w0 M w v (.list xs o):=m.2 0 (by simp) (by simp)
 have n:∀ (a:Addr) (c:Nat),xs=[]→Calls P (ρ.f 41) #[.slice (some a) 0 c] w fun en D=>∃ v M' r st',en = .returned v∧(r = .list xs (Nu xs.length st.rows)∧st'={ st with rows:=P7 xs.length size st.rows })∧Ext w0 M w M' D∧RelSt w0 M' st' D∧R w0 M' D v r:=fun a c hxs=>by
  subst hxs
  refine (Zd L i0 size l G z23 a c w).mono ?_
  rintro en D ⟨b,rfl,d⟩
  obtain ⟨r1,r2⟩:=C.later d w.heap.size 0 (Nat.le_refl _) (.inr rfl)
  exact ⟨_,_,_,st,rfl,⟨rfl,rfl⟩,r2,r1,.emp (fun id=>by simp [Nu])⟩
 cases hv with
 | nil ho =>
  refine (Go.Proofs.AnyE.slices_Clone_nil L 0 0 w).mono ?_
  rintro en D ⟨rfl,rfl⟩
  exact ⟨_,M,_,st,rfl,⟨rfl,rfl⟩,.refl _ _ _,C,.nil (fun id=>by simp [Nu])⟩
 | @emp ad _ ho=>exact n ad 0 rfl
 | @list b off cap _ _ sz us hc hm hcell hu ho =>
  by_cases h0:xs=[]
  ·have:=n ⟨b,off,none⟩ cap h0
   rw [h0]
   rw [h0] at this
   exact this
  have x:xs.length≠0:=fun q=>h0 (List.length_eq_zero_iff.1 q)
  have h:∀ i,i<xs.length→(us i).cells.size=size:=fun i l=>by
   rw [((hu i l).cells).1];exact (hx _ (List.getElem_mem _)).1
  have g:∀ i,i<xs.length→∀ j,j<size→w.cell? ⟨b,off+i*size+j,none⟩=(us i).cells[j]? := fun i l j O=>by
   have e:sz=size:=((hcell i l).1).symm.trans (h i l)
   subst e
   exact ((hcell i l).2 j O).2
  refine (Go.Proofs.AnyE.slices_Clone L i0 z size bytes l Z G Y V hsz z23 b off xs.length cap (flat us xs.length) w (AP h) (Nat.le_trans hc hm) hbig (fun j u O=>?_) (fun u U=>?_)).mono ?_
  ·have:=E9 h hsz g j u O
   rwa [Eb] at this
  ·obtain ⟨i,Q,N⟩:=List.mem_flatMap.1 U
   have p:i<xs.length:=by simpa using Q
   obtain ⟨k,hk,rfl⟩:=List.mem_iff_getElem.1 N
   have J:=(hu i p).cells
   have E:k<(us i).cells.size:=by simpa using hk
   have:=J.2 k E (by rw [←J.1];exact E)
   rw [Array.getElem_toList]
   refine this.oneCell ((hu i p).cellsOne (fun vs K=>?_) _ (List.getElem_mem _))
   have:=(hx _ (List.getElem_mem p)).2
   rw [K] at this;cases this
  ·rintro en D ⟨v',rfl,H,_,d⟩
   obtain ⟨M',x1,x2,x3⟩:=Zfk C d H rfl x h hu
   refine ⟨v',M',_,_,rfl,⟨rfl,rfl⟩,x1,?_,?_⟩
   ·rw [P7,Aj x];exact x2
   ·rw [Nu,Aj x];exact x3
end
theorem Lx {P:Program} {w0:World} {f:FuncId} {args args' cs:List AV} {st s':St} {v:AV} (h:ACalls P w0 f args' st fun r s=>r=v∧s=s') (he:(args++cs).map AV.pubA=args'):L6 P w0 (.clo f cs) args st fun r t=>r=v∧t=s':=h.pub he
end Go.Ev
namespace Go.Proofs.YtmcnjijeocmkgaaGreatDoor
open Go Go.RowKit Go.Ev
def Hy:Go.Shelf.Ren:=⟨fun | 41=>94 | n=>n,fun | 22=>113 | 23=>146 | 4=>4 | n=>n,fun | n=>n⟩
theorem JU:Go.Proofs.SlLaysE0.n41 Tryz.prog Hy:={
 mixed:=by kernel_rfl
 f41:=⟨Tryz.f94.name,by decide,Tryz.func94.trans (congrArg some (by kernel_rfl))⟩
 t4:=Tryz.underlying4
 a4:=Tryz.isAgg4
 z4:=Tryz.sizeOf4
 v4:=Tryz.zeroValue4
 t22:=Tryz.underlying113
 a22:=Tryz.isAgg113
 z22:=Tryz.sizeOf113
 v22:=Tryz.zeroValue113 }
theorem Qc (w0:World) (B:Ao) (Rw:Av) (L:As) (l:List Part) (h:l.length*32≤140737488355328) :
  ACalls Tryz.prog w0 94 [.list (l.map AG) .none] ⟨B,Rw,L⟩ fun r s=>r = .list (l.map AG) .none∧s=⟨B,Rw,L⟩ :=
 Qz (ρ:=Hy) JU (AY Tryz.func94 rfl (by decide)) 3 32 (by kernel_rfl) (by decide) Tryz.sizeOf146 (by simp +decide only [go_sem]) (by rw [List.length_map];exact h)
theorem HT (w0:World) (B:Ao) (Rw:Av) (L:As) (l:List Part) (h:l.length*32≤140737488355328) :
  ACalls Tryz.prog w0 94 [.list (l.map AG) .none] ⟨B,Rw,L⟩ fun r s=>r = .list (l.map AG) (Nu l.length Rw)∧s=⟨B,P7 l.length 3 Rw,L⟩:=by
 have:=Z2 (P:=Tryz.prog) (w0:=w0) (st:=⟨B,Rw,L⟩) (o := .none) (xs:=l.map AG) (ρ:=Hy) JU (AY Tryz.func94 rfl (by decide)) 3 32 (by kernel_rfl) (by decide) Tryz.sizeOf146 (by simp +decide only [go_sem]) (by rw [List.length_map];exact h)
 rw [List.length_map] at this
 exact this
def Jr:Go.Shelf.Ren:=⟨fun | 41=>356 | n=>n,fun | 22=>22 | 23=>9 | 4=>4 | n=>n,fun | n=>n⟩
theorem NC:Go.Proofs.SlLaysE0.n41 Tryz.prog Jr:={
 mixed:=by kernel_rfl
 f41:=⟨Tryz.f356.name,by decide,Tryz.func356.trans (congrArg some (by kernel_rfl))⟩
 t4:=Tryz.underlying4
 a4:=Tryz.isAgg4
 z4:=Tryz.sizeOf4
 v4:=Tryz.zeroValue4
 t22:=Tryz.underlying22
 a22:=Tryz.isAgg22
 z22:=Tryz.sizeOf22
 v22:=Tryz.zeroValue22 }
theorem OK (w0:World) (B:Ao) (Rw:Av) (L:As) (l:List ByteArray) (h:l.length*16≤140737488355328) :
  ACalls Tryz.prog w0 356 [.list (l.map C0) .none] ⟨B,Rw,L⟩ fun r s=>r = .list (l.map C0) .none∧s=⟨B,Rw,L⟩ :=
 Qz (ρ:=Jr) NC (AY Tryz.func356 rfl (by decide)) 1 16 (by kernel_rfl) (by decide) Tryz.sizeOf9 (by simp +decide only [go_sem]) (by rw [List.length_map];exact h)
end Go.Proofs.YtmcnjijeocmkgaaGreatDoor
namespace Go.Ev
open Go Go.RowKit Go.Shelf Go.Sort Go.Proofs
theorem Zw {α β:Type} {f:α→List β} {sz:Nat}:∀ {xs:List α},(∀ x∈xs,(f x).length=sz)→(xs.flatMap f).length=xs.length*sz
 | [],_=>by simp
 | x::xs,h=>by
  rw [List.flatMap_cons,List.length_append,h x (List.mem_cons_self ..),Zw (fun y a=>h y (List.mem_cons_of_mem _ a)),List.length_cons,Nat.succ_mul,Nat.add_comm]
abbrev WI:List UInt8→List UInt8→Int:=Lib.compareBytes
theorem ZX:∀ a,WI a a=0
 | []=>rfl
 | x::a=>by simp only [WI,Lib.compareBytes,UInt8.lt_irrefl,if_false];exact ZX a
theorem Rm:∀ a b,WI b a = - WI a b
 | [],[]=>rfl
 | [],_::_=>rfl
 | _::_,[]=>rfl
 | x::a,y::b=>by
  have ih:=Rm a b
  simp only [WI,Lib.compareBytes] at *
  by_cases h1:x<y
  ·have c:¬ y<x:=fun h=>by rw [UInt8.lt_iff_toNat_lt] at *; omega
   simp [h1,c]
  ·by_cases c:y<x
   ·simp [h1,c]
   ·simp only [h1,c,if_false];exact ih
theorem SJ:∀ a b c,WI a b≤0→WI b c≤0→WI a c≤0∧(WI a b<0∨WI b c<0→WI a c<0)
 | [],[],c,_,h=>⟨h,fun q=>q.elim (fun q=>absurd q (by decide)) id⟩
 | [],_::_,[],_,h=>absurd (show (1:Int)≤0 from h) (by decide)
 | [],_::_,_::_,_,_=>⟨show (-1:Int)≤0 by decide,fun _=>show (-1:Int)<0 by decide⟩
 | _::_,[],c,h,_=>absurd (show (1:Int)≤0 from h) (by decide)
 | _::_,_::_,[],_,h=>absurd (show (1:Int)≤0 from h) (by decide)
 | x::a,y::b,z::c,h1,h2=>by
  have ih:=SJ a b c
  simp only [WI,Lib.compareBytes,UInt8.lt_iff_toNat_lt] at *
  by_cases p1:x.toNat<y.toNat
  ·by_cases p2:y.toNat<z.toNat
   ·have:x.toNat<z.toNat:=by omega
    simp [this]
   ·by_cases p3:z.toNat<y.toNat
    ·simp [p2,p3] at h2
    ·have:x.toNat<z.toNat:=by omega
     simp [this]
  ·by_cases p4:y.toNat<x.toNat
   ·simp [p1,p4] at h1
   ·simp only [p1,p4,if_false] at h1
    by_cases p2:y.toNat<z.toNat
    ·have:x.toNat<z.toNat:=by omega
     simp [this]
    ·by_cases p3:z.toNat<y.toNat
     ·simp [p2,p3] at h2
     ·simp only [p2,p3,if_false] at h2
      have e:¬ x.toNat<z.toNat:=by omega
      have d:¬ z.toNat<x.toNat:=by omega
      simp only [p1,p4,p2,p3,e,d,if_false]
      exact ih h1 h2
theorem Zf6 {α:Type} (nm:α→ByteArray):SWO (ltOf fun x y:α=>Lib.compareBytes (nm x).data.toList (nm y).data.toList) where
 irrefl x:=by simp only [ltOf,decide_eq_false_iff_not];have:=ZX (nm x).data.toList;simp only [WI] at this;omega
 trans x y z h1 h2:=by
  simp only [ltOf,decide_eq_true_eq] at *
  exact (SJ (nm x).data.toList (nm y).data.toList (nm z).data.toList (by simp only [WI];omega) (by simp only [WI];omega)).2 (.inl h1)
 ntrans x y z h1 h2:=by
  simp only [ltOf,decide_eq_false_iff_not] at *
  have a:=Rm (nm x).data.toList (nm y).data.toList
  have b:=Rm (nm y).data.toList (nm z).data.toList
  have c:=Rm (nm x).data.toList (nm z).data.toList
  have:=(SJ (nm z).data.toList (nm y).data.toList (nm x).data.toList (by simp only [WI] at *; omega) (by simp only [WI] at *; omega)).1
  simp only [WI] at *
  omega
def J2 (nm:Nat→ByteArray) (n:Nat):List Nat:=(pdq (ltOf fun i j:Nat=>Lib.compareBytes (nm i).data.toList (nm j).data.toList) (Array.range n) 0 n (Lib.bitLen n) true true).toList
theorem Yx (nm:Nat→ByteArray) (n:Nat):(J2 nm n).Perm (List.range n)∧∀ i j,i<j→j<n→¬ Lib.compareBytes (nm ((J2 nm n)[j]!)).data.toList (nm ((J2 nm n)[i]!)).data.toList<0:=by
 have h:=pdq_sorts (ltOf fun i j:Nat=>Lib.compareBytes (nm i).data.toList (nm j).data.toList) (Zf6 nm) (Array.range n) 0 n (Lib.bitLen n) true true (Nat.zero_le _) (by simp) (Or.inl rfl)
 obtain ⟨⟨f,p,d⟩,m⟩:=h
 have a:(pdq (ltOf fun i j:Nat=>Lib.compareBytes (nm i).data.toList (nm j).data.toList) (Array.range n) 0 n (Lib.bitLen n) true true).size=n:=by simpa using f
 refine ⟨?_,fun i j e b=>?_⟩
 ·have l:((pdq (ltOf fun i j:Nat=>Lib.compareBytes (nm i).data.toList (nm j).data.toList) (Array.range n) 0 n (Lib.bitLen n) true true).extract 0 n).toList=J2 nm n:=by
   unfold J2
   rw [Array.toList_extract]
   simp only [List.extract,Nat.sub_zero,List.drop_zero]
   exact List.take_of_length_le (by rw [Array.length_toList,a];exact Nat.le_refl _)
  rw [l] at d
  have o:((Array.range n).extract 0 n).toList=List.range n:=by simp [List.extract,Array.toList_range]
  rwa [o] at d
 ·have:=m i j (Nat.zero_le _) e b
  unfold ltOf at this
  have:=of_decide_eq_false this
  unfold J2
  have g:∀ k,k<n→((pdq (ltOf fun i j:Nat=>Lib.compareBytes (nm i).data.toList (nm j).data.toList) (Array.range n) 0 n (Lib.bitLen n) true true).toList)[k]! = (pdq (ltOf fun i j:Nat=>Lib.compareBytes (nm i).data.toList (nm j).data.toList) (Array.range n) 0 n (Lib.bitLen n) true true)[k]! := fun k c=>by
   rw [getElem!_pos _ k (by rw [Array.length_toList,a];exact c),getElem!_pos _ k (by rw [a];exact c),Array.getElem_toList]
  rw [g i (by omega),g j b]
  exact this
theorem LU (nm:Nat→ByteArray) (n:Nat):(J2 nm n).length=n:=by simpa using (Yx nm n).1.length_eq
section
variable {P:Program} {w0:World} {st:St} {M:Mem} {w:World}
theorem RelSt.setVec (h:RelSt w0 M st w) {id ver sz:Nat} {cs cs':List AV} {w':World} (hid:st.rows[id]? = some (.vec ver sz cs)) (hb:Below w0.heap.size w w') (hoth:∀ b,b<w.heap.size→b≠M.blk id→w'.heap[b]? = w.heap[b]?)
  {c':Array Value} {ty:TypeId} (hc:w'.heap[M.blk id]? = some (.cells c' ty (0,0))) (hsz:c'.size=M.cap id*sz) (hle:cs'.length≤c'.size) (hone:∀ x∈cs',x.one=true) (hR:∀ i (h1:i<c'.size) (h2:i<cs'.length),R w0 M w c'[i] cs'[i]) :
  Ext w0 M w M w'∧RelSt w0 M { st with rows:=st.rows.set id (.vec ver sz cs') } w':=by
 have a:id<st.rows.length:=(Ak.1 hid).1
 have j:id<M.NR:=by rw [h.NR];exact a
 obtain ⟨C,U,J,y,z,K,H,c,G,f8,V,F,O,Q⟩:=h.row id _ hid
 have g:KeepsObj w w':=fun b o h1 h2=>by
  have d:=(Array.getElem?_eq_some_iff.1 h1).1
  by_cases q:b=M.blk id
  ·subst q;rw [f8] at h1;cases h1;cases h2
  ·exact (hoth b d q).trans h1
 have f:Ext w0 M w M w' :=
  ⟨Nat.le_refl _,fun _ _=>rfl,Nat.le_refl _,fun _ _=>⟨Nat.le_refl _,fun _=>⟨rfl,rfl,rfl⟩⟩,fun b E v hi hv=>by
   have d:=World.block_lt_of_cell? w _ hv
   refine ⟨?_,hi⟩
   have q:b≠M.blk id:=by
    rintro rfl
    rcases hi with hi | hi
    ·omega
    ·rw [y] at hi;omega
   unfold World.cell? at hv ⊢
   simp only [hoth b d q] at hv ⊢
   exact hv,hb.size,Nat.le_refl _,fun _ _=>rfl,fun _ h1 h2=>absurd h2 (Nat.not_lt.2 h1),fun b o h1 h2 _=>g b o h1 h2⟩
 refine ⟨f,h.below.trans hb,h.N,by simp [h.NR],fun b n=>h.top b (Nat.le_trans hb.size n),h.inj,fun l s u=>?_,fun i x hi=>?_,h.rowinj,h.loop.mono f rfl g⟩
 ·obtain ⟨a1,a2,D,r,a3,a4,a5,a6⟩:=h.box l s u
  have t:l<M.N:=by rw [h.N];exact (Ak.1 u).1
  exact ⟨a1,a2,D,r,by rw [hoth _ (Array.getElem?_eq_some_iff.1 a3).1 (z l t)];exact a3,a4,a5,fun i h1 h2=>(a6 i h1 h2).mono f⟩
 ·by_cases q:i=id
  ·subst q
   rw [List.getElem?_set_self a] at hi
   cases hi
   exact ⟨C,U,J,y,z,K,H,c',ty,hc,hsz,hle,hone,fun i h1 h2=>(hR i h1 h2).mono f⟩
  ·rw [List.getElem?_set_ne (Ne.symm q)] at hi
   have m:i<M.NR:=by rw [h.NR];exact (Ak.1 hi).1
   have k:=h.row i x hi
   have p:M.blk i≠M.blk id:=fun e=>q (h.rowinj i id m j e)
   exact k.keep f rfl rfl rfl rfl rfl k.ne (hoth _ k.lt p)
end
structure VOne (Rw rows:Av) (sz:Nat) (xs:List AV) (x:AV):Prop where
 pre:Rw <+: rows
 calm:∀ r∈rows.drop Rw.length,∀ y∈r.cells,∀ a b c,Under a b c y
 at_:(xs=[]∧x = .list [] .seed)∨∃ id ver,x = .vec id ver 0 xs.length∧0<xs.length∧Rw.length≤id∧rows[id]? = some (.vec ver sz (xs.flatMap AV.cells))
theorem VOne.none (Rw:Av) (sz:Nat):VOne Rw Rw sz [] (.list [] .seed):=⟨List.prefix_refl _,by simp,.inl ⟨rfl,rfl⟩⟩
theorem VOne.of_eq {Rw rows:List RowA} {sz:Nat} {xs ys:List AV} {x:AV} (h:VOne Rw rows sz xs x) (he:xs=ys):VOne Rw rows sz ys x:=he▸h
theorem VOne.len {Rw rows:List RowA} {sz:Nat} {xs:List AV} {x:AV} (h:VOne Rw rows sz xs x):Rw.length≤rows.length:=h.pre.length_le
theorem VOne.under {Rw rows:List RowA} {sz:Nat} {xs:List AV} {x:AV} (h:VOne Rw rows sz xs x) (nb nl:Nat):Under nb rows.length nl x:=by
 rcases h.at_ with ⟨_,rfl⟩ | ⟨id,ver,rfl,_,_,h3⟩
 ·exact .list (by simp) trivial
 ·exact .vec (Ak.1 h3).1
theorem VOne.cell {Rw rows:List RowA} {sz:Nat} {xs:List AV} {x:AV} (h:VOne Rw rows sz xs x):x.cells=[x]∧AX x=true∧x.pubCell.pubCell=x.pubCell:=by
 rcases h.at_ with ⟨_,rfl⟩ | ⟨id,ver,rfl,_,_,h3⟩<;>exact ⟨rfl,rfl,rfl⟩
theorem VOne.append {P:Program} {t el:TypeId} {sz by8:Nat} {ag:Bool} {Rw rows:List RowA} {xs:List AV} {x y:AV} (h:VOne Rw rows sz xs x) (he:KA P t=some (el,sz,ag,by8)) (hz:(BA P el).isSome=true) (hs:0<sz)
  (hb:(xs.length+1)*by8≤140737488355328) (hb2:xs.length+1≤4611686018427387904) (hy:y.cells.length=sz∧AX y=true) (hp:y.pub=y) (hu:∀ c∈y.cells,∀ a b d,Under a b d c) (hxs:∀ z∈xs,z.cells.length=sz) :
  ∃ x' rows',VOne Rw rows' sz (xs++[y]) x'∧∀ (B:Ao) (L:As) (o2:Own),BD P ⟨B,rows,L⟩ t x (.list [y] o2)=(True,x',⟨B,rows',L⟩):=by
 have g:=h.len
 have i:CC P el sz by8 xs.length [y]=True:=by
  simp only [CC,hs,hz,List.length_singleton,hb,hb2,true_and,List.mem_singleton,forall_eq,hy,and_self]
 rcases h.at_ with ⟨rfl,rfl⟩ | ⟨id,ver,rfl,h1,h2,h3⟩
 ·refine ⟨.vec rows.length 0 0 1,rows++[.vec 0 sz y.cells],⟨h.pre.trans (List.prefix_append _ _),fun r hr z hz' a b c=>?_,.inr ⟨rows.length,0,rfl,by simp,g,by simp⟩⟩,fun B L o2=>?_⟩
  ·rw [List.drop_append_of_le_length g] at hr
   rcases List.mem_append.1 hr with hr | hr
   ·exact h.calm r hr z hz' a b c
   ·simp only [List.mem_singleton] at hr;subst hr;exact hu z hz' a b c
  ·simp only [BD,he,AM,Bv,List.length_singleton,List.length_nil,List.flatMap_cons,List.flatMap_nil,List.append_nil,hp]
   rw [show CC P el sz by8 0 [y]=True from i]
   simp
 ·have f:=(Ak.1 h3).1
  have e:(xs.flatMap AV.cells).length=xs.length*sz:=Zw hxs
  refine ⟨.vec id (ver+1) 0 (xs.length+1),rows.set id (.vec (ver+1) sz (xs.flatMap AV.cells++y.cells)),⟨WH h.pre h2 _,fun r hr z hz' a b c=>?_,.inr ⟨id,ver+1,by rw [List.length_append];rfl,by simp,h2,by simp [f,List.flatMap_append]⟩⟩,fun B L o2=>?_⟩
  ·rw [List.drop_set,Aa] at hr
   rcases List.mem_or_eq_of_mem_set hr with hr | rfl
   ·exact h.calm r hr z hz' a b c
   ·rcases List.mem_append.1 hz' with q | q
    ·exact h.calm (.vec ver sz (xs.flatMap AV.cells)) (by
      rw [List.mem_iff_getElem?]
      exact ⟨id-Rw.length,by rw [List.getElem?_drop,Nat.add_sub_cancel' h2];exact h3⟩) z q a b c
    ·exact hu z q a b c
  ·simp only [BD,he,AM,Bv,List.length_singleton,List.flatMap_cons,List.flatMap_nil,List.append_nil,hp,Ey,h3,if_true]
   rw [i]
   simp only [e,true_and,Nat.le_refl,and_self,Prod.mk.injEq,true_and,List.take_of_length_le (Nat.le_of_eq e)]
end Go.Ev
namespace Go.Proofs.YtmcnjijeocmkgaaGreatDoor
open Go Go.RowKit Go.Ev Go.Shelf Go.Sort Go.Lib
def N3:String:=(Rows.evolveWitnessRow.laid.map (·.1)).getD 2 default
abbrev Pow10 (w:World):Prop:=Lib.TabIs Tryz.prog w N3 .u64 Lib.pow10Tab
theorem Pow10.below {w0 w:World} (h:Pow10 w0) (hb:Below w0.heap.size w0 w):Pow10 w:=by
 unfold Pow10 Lib.TabIs World.var? at *
 cases hg:Tryz.prog.globalNamed N3 with
 | none=>rw [hg] at h;cases h
 | some g =>
  rw [hg] at h
  simp only [Af] at h ⊢
  cases hx:w0.heap[g]? with
  | none=>rw [hx] at h;cases h
  | some o =>
   rw [hb.block g (Array.getElem?_eq_some_iff.1 hx).1]
   exact h
theorem R7 (u:Nat):Lib.nDigits u≤u / 10+1:=by
 induction u using Nat.strongRecOn with
 | _ u ih =>
  by_cases h:u<10
  ·rw [Lib.nDigits_small h];omega
  ·rw [Lib.nDigits_big h]
   have:=ih (u / 10) (by omega)
   omega
theorem ZaI (n:Int) (h : -9223372036854775808≤n∧n≤9223372036854775807):(Lib.itoa n).length≤maxLen:=by
 unfold Lib.itoa maxLen
 split
 ·rw [List.length_cons,Lib.decDigits_length];have:=R7 n.natAbs;omega
 ·rw [Lib.decDigits_length];have:=R7 n.toNat;omega
theorem XG (w0:World) (B:Ao) (Rw:Av) (L:As) (hP:Pow10 w0) (n:Int) (hn : -9223372036854775808≤n∧n≤9223372036854775807) :
  ACalls Tryz.prog w0 134 [Am n] ⟨B,Rw,L⟩ fun v s'=>v = .val (.string ⟨(Lib.itoa n).toArray⟩)∧s'=⟨B,Rw,L⟩ :=
 Jw (AY Tryz.func134 rfl (by decide)) (by
  show decide ((Lib.itoa n).toArray.size≤maxLen)=true
  rw [List.size_toArray]
  exact Ah (ZaI n hn)) fun M w c d a=>by
  have:=Lj (us:=[.int .i64 n]) a
  subst this
  refine (Any.strconv_Itoa Tryz.laysM171 n hn.1 hn.2 w (hP.below d)).mono ?_
  rintro e g ⟨rfl,k,b,rfl⟩
  refine ⟨rfl,rfl,rfl,rfl,by simp [grow],fun i f=>?_⟩
  show (grow (w.drewN k) b).heap[i]? = w.heap[i]?
  rw [heap_grow_old (w.drewN k) b f]
  rfl
end Go.Proofs.YtmcnjijeocmkgaaGreatDoor
namespace Go.Proofs.YtmcnjijeocmkgaaGreatDoor
open Go Go.RowKit Go.Ev
theorem tgh {α β:Type} {a:α} {b:β} (h:Tg (a,b)):Tg a:=trivial
theorem tgt {α β:Type} {a:α} {b:β} (h:Tg (a,b)):Tg b:=trivial
theorem bI2 {α β:Type} {o:Option α} {x:α} {f:α→Option β} {r:β} {p:Prop} (hx:o=some x) (k:f x=some r→p):o.bind f=some r→p:=fun h=>by
 rw [hx] at h
 exact k h
theorem bI {α β:Type} {o:Option α} {f:α→Option β} {r:β} {p:Prop} (k:∀ y,o=some y→f y=some r→p):o.bind f=some r→p:=fun h=>by
 obtain ⟨y,a,b⟩:=bind_some h
 exact k y a b
theorem gI {β:Type} {c:Prop} [Decidable c] {x:Option β} {r:β} {p:Prop} (k:c→x=some r→p):(if c then x else none)=some r→p:=fun h=>by
 obtain ⟨a,b⟩:=Aw h
 exact k a b
theorem xI {α β:Type} {l:List α} {i:Int} {F:α→Option β} {r:β} {A p:Prop} (a:A) (k:∀ x,0≤i→i<l.length→((∀ g:α→AV,(l.map g).getD i.toNat .junk=g x)∧(∀ (g:α→AV) (j:Nat),i=(j:Int)→(l.map g).getD j .junk=g x)∧A)→F x=some r→p):(Cj l i).bind F=some r→p:=fun h=>by
 obtain ⟨x,d,h⟩:=bind_some h
 obtain ⟨a1,b,c⟩:=Bl d
 exact k x a1 b ⟨fun g=>Bn c,fun g j e=>by rw [show j=i.toNat by omega];exact Bn c,a⟩ h
section
variable {P:Program} {w0:World} {n:Nat} {M0:Mem} {W0:World} {ro:Option Nat} {e:Env} {st:St} {Q:AQ}
theorem cI {α β' β:Type} {ta:α} {tb:β'} {F:Prop} {b:Bool} {X Y r:β} (f:F) {c:Operand} {x y:Code} (ht:Tg ta→(b=true∧F)→X=r→DF P w0 n M0 W0 ro x Q e st) (hf:Tg tb→(b=false∧F)→Y=r→DF P w0 n M0 W0 ro y Q e st)
  (hc:AH e true c) (hb:Az e c = .val (.bool b)):(if b=true then X else Y)=r→Tg (ta,tb)→DF P w0 n M0 W0 ro (.cond c x y) Q e st :=
 fun h _=>B6 h f (ht trivial) (hf trivial) hc (fun _=>hb)
theorem cT {c:Operand} {x y:Code} (c1:AH e true c) (c2:Az e c = .val (.bool true)) (c3:DF P w0 n M0 W0 ro x Q e st):DF P w0 n M0 W0 ro (.cond c x y) Q e st:=A4 true c1 c2 (fun _=>c3) (fun q=>Bool.noConfusion q)
theorem cF {c:Operand} {x y:Code} (c1:AH e true c) (c2:Az e c = .val (.bool false)) (c3:DF P w0 n M0 W0 ro y Q e st):DF P w0 n M0 W0 ro (.cond c x y) Q e st:=A4 false c1 c2 (fun q=>Bool.noConfusion q) (fun _=>c3)
theorem callG {f:FuncId} {c d:Bool} {cs args args':List AV} {k:AV→St→Prop} {v:AV}
  (hA:ACalls P w0 f args' st fun r s=>r=v∧s=st) (hE:(args++cs).map AV.pubA=args') (hk:k v st):Jp P w0 c d (.clo f cs) args st k:=Ax v hA hE hk
theorem evI {c:Nat} {d:Bool} {all os:List Oper} {K:Env→St→Prop} (h:ZH P w0 n d all (Q9 P w0 n d all K c) K os e st):Q9 P w0 n d all K (c+1) os e st:=h
theorem Zim {m:Nat} {L:List Nat} (t:Tg (m::L)) (hm:P.follows .mixedOrders=true) {id:Nat} {l:List Oper}
  (hev:Q9 P w0 n true l (fun e1 s1=>Q9 P w0 n false l (fun e2 s2=>Q .normal (Du L e2) s2) 9 (l.drop m) e1 s1) 9 (l.take m) e st) (hB:Vi l m=true:=by kernel_rfl):DF P w0 n M0 W0 ro (.region id l.toArray true) Q e st:=SD hm m 9 9 L hB hev
theorem te {B0 B bs X:List (List AV)} {Rw rows:List RowA} {L:List LoopA} {l:List (Nat × Nat × Ev.Own)} {c:Code} (hq:M0.N=B0.length∧M0.NR=Rw.length∧M0.NL=L.length∧Ev.Calm B0.length Rw.length L.length ⟨B,Rw,L⟩) (ho:Owns Rw rows l)
  (hB:B.length=B0.length) (hbs:(∀ x∈l,x.2.2.under rows.length)→∀ cs∈bs,∀ x∈cs,Under (B0.length+bs.length) rows.length L.length x)
  (he:(∀ x∈l,x.2.2.under rows.length)→IY (B0.length+bs.length) rows.length L.length e) (h:DF P w0 n M0 W0 ro c Q e ⟨B++bs,rows,L⟩):DF P w0 n M0 W0 ro c Q e ⟨B++(bs++X),rows,L⟩ :=
 A1 hq.1 hq.2.1 hq.2.2.1 hB hq.2.2.2 ho (hbs ho.unders) (he ho.unders) h
theorem fI {α β' β:Type} {ta:α} {tb:β'} {F:Prop} {b:Bool} {X Y r:β} {p:Prop} (f:F) (ht:Tg ta→(b=true∧F)→X=r→p) (hf:Tg tb→(b=false∧F)→Y=r→p):(if b=true then X else Y)=r→Tg (ta,tb)→p:=fun h _=>by
 cases b with
 | true=>exact ht trivial ⟨rfl,f⟩ h
 | false=>exact hf trivial ⟨rfl,f⟩ h
theorem ckA {a b c d:Prop} (cc:d) (co:c) (ce:a) (cs:b):a∧b∧c∧d:=⟨ce,cs,co,cc⟩
def preL:List (List AV)→List (List AV)→Prop
 | [],_=>True
 | _::_,[]=>False
 | b::bs,c::cs=>c=b∧preL bs cs
attribute [go_sem] preL.eq_1 preL.eq_2 preL.eq_3
theorem Zp:∀ {bs cs:List (List AV)},preL bs cs→cs=bs++cs.drop bs.length
 | [],_,_=>rfl
 | _::_,[],h=>h.elim
 | b::bs,c::cs,h=>by rw [h.1,List.length_cons,List.drop_succ_cons,List.cons_append,←Zp h.2]
theorem ckI {B bs cs:List (List AV)} {rows:List RowA} {L:List LoopA} (h:preL bs cs):(⟨B++cs,rows,L⟩:St)=⟨B++(bs++cs.drop bs.length),rows,L⟩:=by rw [←Zp h]
theorem ckB {B:List (List AV)} {rows:List RowA} {L:List LoopA}:(⟨B,rows,L⟩:St)=⟨B++([]++[]),rows,L⟩:=by simp
theorem Owns.n1 {Rw rows:List RowA} {sz n m:Nat} {o:Ev.Own} (h:Owns Rw rows [(sz,n,o)]) (e:n=m):Owns Rw rows [(sz,m,o)]:=e▸h
theorem Owns.n2 {Rw rows:List RowA} {sz n m sz' n' m':Nat} {o o':Ev.Own} (h:Owns Rw rows [(sz,n,o),(sz',n',o')]) (e:n=m) (e':n'=m'):Owns Rw rows [(sz,m,o),(sz',m',o')]:=e▸e'▸h
structure AE (P:Program) (t el:TypeId) (sz:Nat) (ag:Bool) (by8:Nat):Prop where
 he:KA P t=some (el,sz,ag,by8)
 hz:(BA P el).isSome=true
 hs:0<sz
theorem ae {P:Program} {t el:TypeId} {sz by8:Nat} {ag:Bool} {z:List AV} (he:KA P t=some (el,sz,ag,by8)) (hz:BA P el=some z) (hs:0<sz:=by decide):AE P t el sz ag by8:=⟨he,by rw [hz];rfl,hs⟩
theorem aI {P:Program} {t el:TypeId} {sz by8 n:Nat} {ag:Bool} {Rw rows:List RowA} {l:List (Nat × Nat × Ev.Own)} {o:Ev.Own} {β:Type} {x:Option β} {r:β} {A p:Prop} (a:AE P t el sz ag by8) (hO:Owns Rw rows ((sz,n,o)::l)) (f:A)
  (k:∀ o' rows',Owns Rw rows' ((sz,n+1,o')::l)→((n+1)*by8≤140737488355328∧n+1≤4611686018427387904) →
   ((∀ (xs:List AV) (y:AV) (B:Ao) (L:As) (o2:Ev.Own),xs.length=n→(∀ z∈xs,z.cells.length=sz)→BD P ⟨B,rows,L⟩ t (.list xs o) (.list [y] o2)=((y.cells.length=sz∧AX y=true),.list (xs++[y.pub]) o',⟨B,rows',L⟩))∧A)→x=some r→p) :
  (if (n+1)*by8≤140737488355328∧n+1≤4611686018427387904 then x else none)=some r→p:=fun h=>by
 obtain ⟨b,h⟩:=Aw h
 obtain ⟨o',rows',c,q⟩:=hO.append (P:=P) a.he a.hz a.hs 1 b.1 b.2
 refine k o' rows' c b ⟨fun xs y B L o2 d e=>?_,f⟩ h
 have:=q xs [y] B L o2 d rfl e
 simpa only [List.mem_singleton,forall_eq,List.map_cons,List.map_nil] using this
theorem q1 {a:Prop} (x:a):a∧True:=⟨x,trivial⟩
theorem q2 {a b:Prop} (x:a) (y:b):a∧b∧True:=⟨x,y,trivial⟩
theorem q3 {a b c:Prop} (x:a) (y:b) (z:c):a∧b∧c∧True:=⟨x,y,z,trivial⟩
theorem skI {d:Bool} {fv:AV} {args:List AV} {k:AV→St→Prop} (h:k .junk st):Jp P w0 false d fv args st k:=G4 h
theorem Zjk {B:List (List AV)} {l:Nat} {c:List AV} (h:B[l]? = some c):B[l]? = some c:=h
theorem ZfL {f:FuncId} {c d:Bool} {cs args args':List AV} {k:AV→St→Prop} {v:AV}
  (hA:ACalls P w0 f args' st fun r s=>r=v∧s=st) (hE:args++cs=args') (hk:k v st):Jp P w0 c d (.clo f cs) args st k:=ZeE v hA hE hk
end
theorem go {T F C1 C2 C3 C G H HC HK p:Prop} (tL:T) (h:H) (hs:F) (hN:C1) (hNR:C2) (hNL:C3) (hcalm:C) (hO:G) (hc:HC) (hk:HK) (k:T→H→F→C1→C2→C3→C→G→HC→HK→p:=by
    intro tL h hs hN hNR hNL hcalm hO hc hk
    try
      ((with_reducible apply te ⟨hN,hNR,hNL,hcalm⟩ hO)
       case' hB=>first | rfl | simp only [List.length_set]
       case' hbs=>(intro hU;(try simp only [List.mem_cons,List.not_mem_nil,or_false,forall_eq_or_imp,forall_eq] at hU);(first | simp +decide only [go_sem,Nat.reduceAdd,IY,hU] | simp +decide only [go_sem,Nat.reduceAdd,IY])<;>(try (repeat' apply Ae))<;>first | omega | assumption | exact hU.1 | exact hU.2 | exact hU.2.1 | exact hU.2.2)
       case' he=>(intro hU;(try simp only [List.mem_cons,List.not_mem_nil,or_false,forall_eq_or_imp,forall_eq] at hU);(first | simp +decide only [go_sem,Nat.reduceAdd,IY,hU] | simp +decide only [go_sem,Nat.reduceAdd,IY])<;>(try (repeat' apply Ae))<;>first | omega | assumption | exact hU.1 | exact hU.2 | exact hU.2.1 | exact hU.2.2))
    repeat' first
      | (revert h;(with_reducible refine xI hs ?_);intro x hxa hxb hs h)
      | (revert h;(with_reducible refine bI2 (by assumption) ?_);intro h)
      | (revert h;(with_reducible refine bI ?_);intro y hy h)
      | (revert h;(first | (with_reducible refine aI hc.1 hO hs ?_) | (with_reducible refine aI hc.2.1 hO hs ?_) | (with_reducible refine aI hc.2.2.1 hO hs ?_) | (with_reducible refine aI hc.2.2.2.1 hO hs ?_) | (with_reducible refine aI hc.2.2.2.2.1 hO hs ?_));intro o rows hO hg hs h)
      | (revert h;(first | (with_reducible refine aI hc.1 (hO.full _ 0) hs ?_) | (with_reducible refine aI hc.2.1 (hO.full _ 0) hs ?_) | (with_reducible refine aI hc.2.2.1 (hO.full _ 0) hs ?_) | (with_reducible refine aI hc.2.2.2.1 (hO.full _ 0) hs ?_) | (with_reducible refine aI hc.2.2.2.2.1 (hO.full _ 0) hs ?_));intro o rows hO hg hs h)
      | (revert h;(first | (with_reducible refine aI hc.1 (hO.swap (List.Perm.swap _ _ _)) hs ?_) | (with_reducible refine aI hc.2.1 (hO.swap (List.Perm.swap _ _ _)) hs ?_) | (with_reducible refine aI hc.2.2.1 (hO.swap (List.Perm.swap _ _ _)) hs ?_) | (with_reducible refine aI hc.2.2.2.1 (hO.swap (List.Perm.swap _ _ _)) hs ?_) | (with_reducible refine aI hc.2.2.2.2.1 (hO.swap (List.Perm.swap _ _ _)) hs ?_));intro o rows hO hg hs h)
      | (revert h;(first | (with_reducible refine aI hc.1 ((hO.full _ 0).swap (List.Perm.swap _ _ _)) hs ?_) | (with_reducible refine aI hc.2.1 ((hO.full _ 0).swap (List.Perm.swap _ _ _)) hs ?_) | (with_reducible refine aI hc.2.2.1 ((hO.full _ 0).swap (List.Perm.swap _ _ _)) hs ?_) | (with_reducible refine aI hc.2.2.2.1 ((hO.full _ 0).swap (List.Perm.swap _ _ _)) hs ?_) | (with_reducible refine aI hc.2.2.2.2.1 ((hO.full _ 0).swap (List.Perm.swap _ _ _)) hs ?_));intro o rows hO hg hs h)
      | (revert h;(with_reducible refine gI ?_);intro hg h)
      | (with_reducible apply Ae)
      | ((with_reducible refine hK _ _ ?_);clear hK)
      | (with_reducible refine hk.1 _ _ ?_)
      | (with_reducible refine hk.2.1 _ _ ?_)
      | (with_reducible refine hk.2.2.1 _ _ ?_)
      | (with_reducible exact hk.2.1 _ _ h)
      | (clear hK;(with_reducible refine hK _ _ ?_);clear hK)
      | (clear hK;clear hK;(with_reducible refine hK _ _ ?_);clear hK)
      | ((with_reducible refine evI ?_);simp +decide only [go_sem,Nat.reduceAdd,hs])
      | (with_reducible refine skI ?_)
      | ((with_reducible apply callG)
         case' hA=>first | apply hc.1 | apply hc.2.1 | apply hc.2.2.1 | apply hc.2.2.2.1 | apply hc.2.2.2.2.1 | apply hc.2.2.2.2.2.1 | apply hc.2.2.2.2.2.2.1 | apply hc.2.2.2.2.2.2.2.1
         case' hE=>rfl
         try (any_goals assumption))
      | ((with_reducible apply callG)
         case' hA=>first | apply hc.1 | apply hc.2.1 | apply hc.2.2.1 | apply hc.2.2.2.1 | apply hc.2.2.2.2.1 | apply hc.2.2.2.2.2.1 | apply hc.2.2.2.2.2.2.1 | apply hc.2.2.2.2.2.2.2.1
         any_goals (show _=some _;assumption)
         case' hE=>first | rfl | (simp +decide only [go_sem,Nat.reduceAdd,hs];done) | (simp +decide only [go_sem,Nat.reduceAdd,Vl.cs,Ty.cs,hs];done)
         try (any_goals assumption))
      | ((with_reducible apply ZfL)
         case' hA=>first | apply hc.1 | apply hc.2.1 | apply hc.2.2.1 | apply hc.2.2.2.1 | apply hc.2.2.2.2.1 | apply hc.2.2.2.2.2.1 | apply hc.2.2.2.2.2.2.1 | apply hc.2.2.2.2.2.2.2.1
         case' hE=>rfl
         try (any_goals first | assumption | exact List.prefix_append _ _ | exact List.prefix_refl _ | exact hO.pre))
      | ((with_reducible apply ZfL)
         case' hA=>first | apply hc.1 | apply hc.2.1 | apply hc.2.2.1 | apply hc.2.2.2.1 | apply hc.2.2.2.2.1 | apply hc.2.2.2.2.2.1 | apply hc.2.2.2.2.2.2.1 | apply hc.2.2.2.2.2.2.2.1
         any_goals (show _=some _;assumption)
         case' hE=>first | rfl | (simp +decide only [go_sem,Nat.reduceAdd,hs];done) | (simp +decide only [go_sem,Nat.reduceAdd,Vl.cs,Ty.cs,hs];done)
         try (any_goals first | assumption | exact List.prefix_append _ _ | exact List.prefix_refl _ | exact hO.pre))
      | ((with_reducible refine Zjk ?_);first | rfl | (simp +decide only [go_sem,Nat.reduceAdd,hs];done))
      | ((with_reducible apply An);intro K hK)
      | ((with_reducible refine IP (c:=9) tg (tgh tL) ?_);replace tL:=tgt tL)
      | (with_reducible apply Ar)
      | (revert tL;revert h;(with_reducible apply cI hs)
         case' hc=>simp +decide only [go_sem,Nat.reduceAdd]
         case' hb=>first | (simp +decide only [go_sem,Nat.reduceAdd,hs];done) | (simp +decide only [go_sem,Nat.reduceAdd,hs];rfl)
         case' ht=>intro tL hs h
         case' hf=>intro tL hs h)
      | ((with_reducible refine A0 ?_)
         simp +decide only [go_sem,Nat.reduceAdd,hs]
         first | (have hgt:=Option.some.inj h;subst hgt) | subst h
         first | refine Cb hcalm rfl hO.pre ?_ ⟨?_,?_⟩ | refine DT hcalm rfl hO.pre ?_ ⟨?_,?_⟩ | refine Cb (CH hcalm ?_) (List.length_set ..) hO.pre ?_ ⟨?_,?_⟩ | refine DT (CH hcalm ?_) (List.length_set ..) hO.pre ?_ ⟨?_,?_⟩ | exact hk.1 _ _ rfl _
         all_goals first | rfl | (simp +decide only [go_sem,Nat.reduceAdd,hs];done) | (simp +decide only [go_sem,Nat.reduceAdd,Vl.cs,Ty.cs,hs];done) | (simp_all;done))
      | ((with_reducible refine Rt (tgh tL) ?_);replace tL:=tgt tL;first | (with_reducible refine EH ?_) | (with_reducible refine I4 ?_)
         simp +decide only [go_sem,Nat.reduceAdd])
      | ((with_reducible refine Zim (tgh tL) PS ?_);replace tL:=tgt tL)
      | ((with_reducible apply cT)
         case' c1=>simp +decide only [go_sem,Nat.reduceAdd]
         case' c2=>first | rfl | (simp +decide only [go_sem,Nat.reduceAdd,hs];done))
      | ((with_reducible apply cF)
         case' c1=>simp +decide only [go_sem,Nat.reduceAdd]
         case' c2=>first | rfl | (simp +decide only [go_sem,Nat.reduceAdd,hs];done))
      | (revert tL;revert h;(with_reducible refine fI hs ?_ ?_)<;>(intro tL hs h;(try have hs:=Ae (of_decide_eq_true hs.1) hs);(try have hs:=Ae (of_decide_eq_false hs.1) hs);try simp +decide only [go_sem,Nat.reduceAdd,hs]))
      | ((with_reducible apply Exists.intro)
         repeat (with_reducible apply Exists.intro)
         (with_reducible apply ckA)
         case' cc=>exact h
         case' co=>first | exact hO | (refine Owns.n1 hO ?_;first | rfl | simp only [List.length_append,List.length_cons,List.length_nil,List.length_map,Nat.zero_add,Nat.add_zero]) | (refine Owns.n2 (hO.swap (List.Perm.swap _ _ _)) ?_ ?_<;>(first | rfl | simp only [List.length_append,List.length_cons,List.length_nil,List.length_map,Nat.zero_add,Nat.add_zero])) | (refine Owns.n2 hO ?_ ?_<;>(first | rfl | simp only [List.length_append,List.length_cons,List.length_nil,List.length_map,Nat.zero_add,Nat.add_zero]))
         case' cs=>first | exact ckB | (refine ckI ?_;first | rfl | (simp +decide only [go_sem,Nat.reduceAdd,hs];done))
         case' ce=>first | rfl | (simp +decide only [go_sem,Nat.reduceAdd,hs];done))
      | exact cl):p:=k tL h hs hN hNR hNL hcalm hO hc hk
def KE (rec:Vl→Option Vl) (n:Nat) (b:Vl) (b2_k22_4:List Vl) (b2_k22_5:List (ByteArray × Vl)):Option Vl :=
 some (Vl.mk b.kind b.int b.scale b.text b2_k22_4 b2_k22_5)
def FO (rec:Vl→Option Vl) (n:Nat) (h:Vl):Nat→Int→(List Vl)→(List (ByteArray × Vl))→Option Vl
 | 0,_,_,_=>none
 | m+1,b,b2_l25_4,b2_l25_5 =>
  if decide (b<(h.fields.length:Int)) then
   (Cj h.fields b).bind fun g =>
   (rec g.2).bind fun q =>
   if (b2_l25_5.length+1)*104≤140737488355328∧b2_l25_5.length+1≤4611686018427387904 then
    if Bg (b+1) then
     (FO rec n h m) (b+1) b2_l25_4 (b2_l25_5++([(g.1,q)]))
    else none
   else none
  else
   KE rec n h b2_l25_4 b2_l25_5
def MC (rec:Vl→Option Vl) (n:Nat) (b:Vl) (b2_k5_4:List Vl):Option Vl :=
 FO rec n b n 0 b2_k5_4 ([])
def G1 (rec:Vl→Option Vl) (n:Nat) (g:Vl):Nat→Int→(List Vl)→Option Vl
 | 0,_,_=>none
 | m+1,b,b2_l8_4 =>
  if decide (b<(g.list.length:Int)) then
   (Cj g.list b).bind fun q =>
   (rec q).bind fun h =>
   if (b2_l8_4.length+1)*88≤140737488355328∧b2_l8_4.length+1≤4611686018427387904 then
    if Bg (b+1) then
     (G1 rec n g m) (b+1) (b2_l8_4++([h]))
    else none
   else none
  else
   MC rec n g b2_l8_4
def N5 (rec:Vl→Option Vl) (n:Nat) (b:Vl):Option Vl :=
 G1 rec n b n 0 ([])
def C5:Nat→Vl→Option Vl
 | 0,_=>none
 | n+1,b=>N5 (C5 n) n b
def Qr (w0:World) (F:Vl→Option Vl):Prop:=∀ (B:Ao) (Rw:Av) (L:As) (b:Vl) (r:Vl),F b=some r→ACalls Tryz.prog w0 56 [.agg (b.cs)] ⟨B,Rw,L⟩ fun x st=>x = .agg (r.cs)∧st=⟨B,Rw,L⟩
theorem VT (w0:World) (rec:Vl→Option Vl) (ih:Qr w0 rec) (n:Nat):Qr w0 (N5 rec n):=by
 intro B Rw L a0 r h
 rw [N5] at h
 refine hd [.cell 2 34] Tryz.func56 Tryz.ntmps56 fun M0 W0 C y x u J w hs=>?_
 simp only [AA]
 refine rg [1,2] hs ?_
 refine rg [1,2,3] hs ?_
 have hs:=Ae (Vl.cs_eqs a0) hs
 refine rg [1,2,3] hs ?_
 refine AB (fun e st=>∃ (g:List Vl) (k:Ev.Own),Ck e st B Rw L [(1,true,.box B.length 0),(2,true,.box (B.length+1) 0),(3,true,.box (B.length+2) 0)] [a0.cs,KO,[Am a0.kind,Am a0.int,Am a0.scale,.val (.string a0.text),.list (g.map CZ) k,.list ([]) .full]] [(6,g.length,k)] (MC rec n a0 g=some r)) ?_ ?_
 ·intro K6 F
  refine rg [1,2,3,12,13,14] hs ?_
  apply Ar
  refine AC (fun m e st=>∃ (v:Int) (p:List Vl) (q:Ev.Own),Ck e st B Rw L [(1,true,.box B.length 0),(2,true,.box (B.length+1) 0),(3,true,.box (B.length+2) 0),(12,true,.list (a0.list.map CZ) .none),(13,true,Am (a0.list.length:Int)),(14,true,Am v)] [a0.cs,KO,[Am a0.kind,Am a0.int,Am a0.scale,.val (.string a0.text),.list (p.map CZ) q,.list ([]) .full]] [(6,p.length,q)] (G1 rec n a0 m v p=some r)) n ⟨0,([]),.full,([]),Rw,ef hs,ef hs,Owns.of_eq ((w).full 6 0) Ew,h⟩ ?_
  rintro ml8 e st ⟨v,p,q,Xl8,Rl8,rfl,rfl,w,h⟩ Ul8 Vl8
  cases ml8 with
  | zero=>cases h
  | succ ml8 =>
  rw [G1] at h
  exact go (tg (a:=([1,2,3,12,13,14,15],([1,2,3,12,13,14],[1,2,3,5,12,13,14],[5,1,2,3,12,13,14],[1,2,3,12,13,14],()),[1,2,3],()))) h hs C y x u w (q2 (ae LZ H2) ih) (q2 F (fun e s=>Vl8 ml8 e s (Nat.lt_succ_self _)))
 ·clear h;rintro e st ⟨g,k,Xk5,Rk5,rfl,rfl,w,h⟩
  rw [MC] at h
  have E:=w.unders
  simp only [List.mem_cons,List.not_mem_nil,or_false,forall_eq_or_imp,forall_eq] at E
  refine td C y x u w ?_
  refine AB (fun e st=>∃ (j:List Vl) (i:List (ByteArray × Vl)) (o:Ev.Own) (l:Ev.Own),Ck e st B Rw L [(2,true,.box (B.length+1) 0),(3,true,.box (B.length+2) 0)] [a0.cs,KO,[Am a0.kind,Am a0.int,Am a0.scale,.val (.string a0.text),.list (j.map CZ) o,.list (i.map QY) l]] [(6,j.length,o),(7,i.length,l)] (KE rec n a0 j i=some r)) ?_ ?_
  ·intro K23 z
   refine rg [2,3,27,28,29] hs ?_
   apply Ar
   refine AC (fun m e st=>∃ (t:Int) (b:List Vl) (c:List (ByteArray × Vl)) (f:Ev.Own) (d:Ev.Own),Ck e st B Rw L [(2,true,.box (B.length+1) 0),(3,true,.box (B.length+2) 0),(27,true,.list (a0.fields.map QY) .none),(28,true,Am (a0.fields.length:Int)),(29,true,Am t)] [a0.cs,KO,[Am a0.kind,Am a0.int,Am a0.scale,.val (.string a0.text),.list (b.map CZ) f,.list (c.map QY) d]] [(6,b.length,f),(7,c.length,d)] (FO rec n a0 m t b c=some r)) n ⟨0,g,([]),k,.full,([]),Rk5,ef hs,ef hs,Owns.of_eq (((w).full 7 0).swap (List.Perm.swap _ _ _)) Ew,h⟩ ?_
   rintro ml25 e st ⟨t,b,c,f,d,Xl25,Rl25,rfl,rfl,w,h⟩ Ul25 Vl25
   cases ml25 with
   | zero=>cases h
   | succ ml25 =>
   rw [FO] at h
   have E:=w.unders
   simp only [List.mem_cons,List.not_mem_nil,or_false,forall_eq_or_imp,forall_eq] at E
   obtain ⟨G,H⟩:=E
   refine td C y x u w ?_
   refine rg [2,3,27,28,29,30] hs ?_
   apply An;intro K27 D
   refine B6 h hs ?_ ?_<;>intro hs h
   rotate_left
   ·refine sx [2,3] hs z ?_
    exact ⟨b,c,f,d,([]),Rl25,ef hs,ef hs,Owns.of_eq (((w).swap (List.Perm.swap _ _ _)).swap (List.Perm.swap _ _ _)) Ew,h⟩
   exact go (tg (a:=([2,3,27,28,29],[2,3,7,27,28,29],[9,2,3,27,28,29],[2,3,27,28,29],()))) h hs C y x u w (q2 (ae Zbl XP) ih) (q2 D (fun e s=>Vl25 ml25 e s (Nat.lt_succ_self _)))
  ·clear h;rintro e st ⟨j,i,o,l,Xk22,Rk22,rfl,rfl,w,h⟩
   rw [KE] at h
   exact go (tg (a:=([2],()))) h hs C y x u w trivial trivial
theorem Iy (w0:World):∀ n:Nat,Qr w0 (C5 n)
 | 0=>fun _ _ _ _ _ h=>(nomatch h)
 | n+1=>VT w0 (C5 n) (Iy w0 n) n
end Go.Proofs.YtmcnjijeocmkgaaGreatDoor
