/-
  Part 3 of the proof: rules and walks that the claim's last text uses.
-/
import Derived.Ground.Names2Prog
import Derived.Ground.NamesProg
import Derived.Ground.SlgfProg
import Derived.Ground.SlgnProg
import Derived.Ground.SlsfProg
import Derived.Lib.AppendZeros
import Derived.Lib.Bytealg
import Derived.Shelf.LaysC
import Derived.Shelf.LaysM
import Derived.Shelf.SlSortCmp.NoneTotal
import Derived.Shelf.SlSortCmp.WholeK
import Derived.Shelf.SlicesE.Clone
import Derived.Shelf.Small.Bits
import Derived.Shelf.Small.Strs
import Derived.Shelf.Small.Utf8
import Derived.Shelf.Sort.Plain
import Derived.Shelf.Strconv.Atoi
import Derived.Shelf.Strconv.AtoiAll
import Derived.Shelf.Strconv.AtoiErrFast
import Derived.Shelf.Strconv.AtoiFail
import Derived.Shelf.Strconv.AtoiInnerAll
import Derived.Shelf.Strconv.AtoiLong
import Derived.Shelf.Strconv.Clone
import Derived.Shelf.Strconv.Itoa0
import Derived.Shelf.Strconv.Itoa1
import Derived.Shelf.Strconv.Itoa2
import Derived.Shelf.Strconv.Itoa3
import Derived.Shelf.Strconv.Lower
import Derived.Shelf.Strconv.ParseInt10
import Derived.Shelf.Strconv.ParseIntEmpty
import Derived.Shelf.Strconv.ParseUint10
import Derived.Shelf.Strconv.ParseUint10Any
import Derived.Shelf.Strconv.ParseUint10Empty
import Derived.Shelf.Strconv.RangeError
import Derived.Shelf.Strconv.SyntaxError
import Derived.Shelf.Strconv.ToError
import Derived.Shelf.Strconv.ToErrorRange
import Derived.Shelf.Strings.AsciiSet
import Derived.Shelf.Strings.Cut
import Derived.Shelf.Strings.IndexAny
import Derived.Shelf.Strings.IndexAnyAll
import Derived.Shelf.Strings.Repeat
import Derived.Shelf.Strings.Runes
import Derived.Shelf.Strings.Search1
import Derived.Shelf.Strings.Search2
import Derived.Shelf.Strings.Shaped
import Derived.Shelf.Unicode.DecodeSlow
import Derived.Shelf.Unicode.ValidAny
import Derived.Sort.Lot0
import Derived.Test.YtmcnjijeocmkgaaGreatDoorProg
import Derived.Test.YtmcnjijeocmkgaaGreatDoorRows
import Derived.Test.YtmcnjijeocmkgaaGreatDoorLo2
set_option linter.unusedSimpArgs false
set_option linter.unusedVariables false
set_option maxRecDepth 100000
set_option maxHeartbeats 4000000
namespace Go.Ev
open Go Go.RowKit
def Uc (acc:List Nat) (o:Oper):Nat:=o.after.toList.foldl (fun m e=>if Region.binds .any e then m ||| 2 ^ e.on ||| acc.getD e.on 0 else m) 0
def He:List Oper→List Nat→List Nat
 | [],acc=>acc
 | o::os,acc=>He os (acc++[Uc acc o])
def NW (ms:List Nat) (i j:Nat):Bool:=(ms.getD i 0).testBit j
theorem YY (acc:List Nat) (j:Nat):∀ (es:List Edge) (m:Nat),(es.foldl (fun m e=>if Region.binds .any e then m ||| 2 ^ e.on ||| acc.getD e.on 0 else m) m).testBit j=true→m.testBit j=true∨∃ e∈es,Region.binds .any e=true∧(e.on=j∨NW acc e.on j=true)
 | [],m,h => .inl h
 | e::es,m,h=>by
  simp only [List.foldl_cons] at h
  rcases YY acc j es _ h with h | ⟨e',h1,h2⟩
  ·by_cases c:Region.binds .any e=true
   ·rw [Ai c] at h
    simp only [Nat.testBit_or,Bool.or_eq_true,Nat.testBit_two_pow,decide_eq_true_eq] at h
    rcases h with (h | h) | h
    ·exact .inl h
    ·exact .inr ⟨e,List.mem_cons_self .., c,.inl h⟩
    ·exact .inr ⟨e,List.mem_cons_self .., c,.inr h⟩
   ·rw [Aj c] at h;exact .inl h
  ·exact .inr ⟨e',List.mem_cons_of_mem _ h1,h2⟩
theorem SO (acc acc':List Nat):∀ (es:List Edge) (m:Nat),(∀ e∈es,Region.binds .any e=true→acc.getD e.on 0=acc'.getD e.on 0) →
  es.foldl (fun m e=>if Region.binds .any e then m ||| 2 ^ e.on ||| acc.getD e.on 0 else m) m=es.foldl (fun m e=>if Region.binds .any e then m ||| 2 ^ e.on ||| acc'.getD e.on 0 else m) m
 | [],_,_=>rfl
 | e::es,m,h=>by
  simp only [List.foldl_cons]
  have:(if Region.binds .any e=true then m ||| 2 ^ e.on ||| acc.getD e.on 0 else m)=if Region.binds .any e=true then m ||| 2 ^ e.on ||| acc'.getD e.on 0 else m:=by
   by_cases c:Region.binds .any e=true
   ·rw [Ai c,Ai c,h e (List.mem_cons_self ..) c]
   ·rw [Aj c,Aj c]
  rw [this]
  exact SO acc acc' es _ fun a b=>h a (List.mem_cons_of_mem _ b)
theorem QH:∀ (os:List Oper) (acc:List Nat) (i:Nat),i<acc.length→(He os acc).getD i 0=acc.getD i 0
 | [],_,_,_=>rfl
 | o::os,acc,i,h=>by
  rw [He,QH os _ i (by simp;omega),List.getD_eq_getElem?_getD,List.getElem?_append_left h,List.getD_eq_getElem?_getD]
theorem Yi:∀ (os:List Oper) (acc:List Nat) (k:Nat) (o:Oper),os[k]? = some o→(∀ (k:Nat) (o:Oper),os[k]? = some o→∀ e∈o.after,Region.binds .any e=true→e.on<acc.length+k)→(He os acc).getD (acc.length+k) 0=Uc (He os acc) o
 | [],_,_,_,h,_=>by simp at h
 | o'::os,acc,0,o,h,hb=>by
  simp only [List.getElem?_cons_zero,Option.some.injEq] at h
  subst h
  rw [He,QH os _ _ (by simp)]
  have c:(acc++[Uc acc o']).getD (acc.length+0) 0=Uc acc o':=by simp [List.getD_eq_getElem?_getD]
  rw [c]
  refine SO _ _ _ _ fun e b a=>?_
  have:=hb 0 o' rfl e (by simpa using b) a
  rw [QH os _ _ (by simp;omega),List.getD_eq_getElem?_getD,List.getD_eq_getElem?_getD,List.getElem?_append_left (by omega)]
 | o'::os,acc,k+1,o,h,hb=>by
  rw [He]
  have:=Yi os (acc++[Uc acc o']) k o (by simpa using h) (fun k o h e b a=>by
   have:=hb (k+1) o (by simpa using h) e b a
   simp;omega)
  rw [List.length_append,List.length_singleton,Nat.add_assoc,Nat.add_comm 1 k] at this
  exact this
def Oa (ef:List Nat) (ms:List Nat) (i j:Nat):Bool :=
 if ef.contains i then ef.contains j||NW ms i j else if ef.contains j then NW ms j i else decide (j<i)&&NW ms i j
def Sm (ef:List Nat) (ms:List Nat) (i j:Nat):Bool :=
 if ef.contains i then ef.contains j||NW ms i j else ef.contains j&&NW ms j i
def LN (l:List Oper) (ef:List Nat):Bool:=(ef.all fun i=>decide (i<l.length)) &&
 (List.range l.length).all fun i=>match l[i]? with
  | some o=>(o.after.toList.all fun e => !Region.binds .any e||decide (e.on<i))&&(List.range l.length).all fun j=>match l[j]? with
   | some p=>match p.dst with
    | some s=>(decide (i=j)||o.dst != some s||Sm ef (He l []) i j)&&(!(looks l o).contains s||Oa ef (He l []) i j)
    | none=>true
   | none=>true
  | none=>true
theorem Ej {l:List Oper} {ef:List Nat} (hB:LN l ef=true) {i:Nat} {o:Oper} (ho:l[i]? = some o) :
  (∀ e∈o.after,Region.binds .any e=true→e.on<i)∧∀ j p s,l[j]? = some p→p.dst=some s→(o.dst=some s→i=j∨Sm ef (He l []) i j=true)∧(s∈looks l o→Oa ef (He l []) i j=true):=by
 have b:=List.all_eq_true.1 (Bool.and_eq_true_iff.1 hB).2 i (List.mem_range.2 (Ak.1 ho).1)
 simp only [ho,Bool.and_eq_true] at b
 refine ⟨fun e f d=>?_,fun j p s c hs=>?_⟩
 ·have:=List.all_eq_true.1 b.1 e (by simpa using f)
  simpa [d] using this
 ·have a:=List.all_eq_true.1 b.2 j (List.mem_range.2 (Ak.1 c).1)
  simp only [c,hs,Bool.and_eq_true,Bool.or_eq_true,decide_eq_true_eq,bne_iff_ne,Bool.not_eq_true'] at a
  refine ⟨fun hd=>?_,fun g=>?_⟩
  ·rcases a.1 with (h | h) | h
   ·exact .inl h
   ·exact absurd hd h
   ·exact .inr h
  ·rcases a.2 with h3 | h3
   ·have:(looks l o).contains s=true:=by simpa using g
    rw [h3] at this;cases this
   ·exact h3
theorem Ub {l:List Oper} {ef:List Nat} (hB:LN l ef=true) {listed:Array Bool} (closed:∀ (j:Nat) (oj:Oper),l[j]? = some oj→listed.getD j false=true→∀ e∈oj.after,Region.binds .any e=true→listed.getD e.on false=true) (j:Nat) :
  ∀ (i:Nat) (o:Oper),l[i]? = some o→(∀ e∈o.after,Region.binds .any e=true→listed.getD e.on false=true)→NW (He l []) i j=true→listed.getD j false=true:=by
 intro i
 induction i using Nat.strongRecOn with
 | _ i ih =>
  intro o ho m a
  have f:=Yi l [] i o ho (fun k o h e c g=>by have:=(Ej hB h).1 e c g;simpa using this)
  simp only [List.length_nil,Nat.zero_add] at f
  unfold NW at a
  rw [f] at a
  rcases YY _ _ _ _ a with h | ⟨e,h1,h2,h3⟩
  ·simp at h
  ·have c:e∈o.after:=by simpa using h1
   have b:=m e c h2
   have d:=(Ej hB ho).1 e c h2
   rcases h3 with rfl | h3
   ·exact b
   ·have n:=(Ak.1 ho).1
    exact ih e.on d _ (List.getElem?_eq_getElem (by omega)) (closed e.on _ (List.getElem?_eq_getElem (by omega)) b) h3
def Dk (ef:List Nat):Nat→List Oper→List Oper
 | _,[]=>[]
 | i,o::os=>(if ef.contains i then { o with dst:=none,op := .move (.const (.bool true)),guard:=none } else o)::Dk ef (i+1) os
theorem Q5 (ef:List Nat):∀ (l:List Oper) (k i:Nat),(Dk ef k l)[i]? = (l[i]?).map fun o=>if ef.contains (k+i) then { o with dst:=none,op := .move (.const (.bool true)),guard:=none } else o
 | [],_,_=>by simp [Dk]
 | o::os,k,0=>by simp [Dk]
 | o::os,k,i+1=>by simp only [Dk,List.getElem?_cons_succ];rw [Q5 ef os (k+1) i,Nat.add_assoc,Nat.add_comm 1 i]
theorem Ie (ef:List Nat):∀ (l:List Oper) (k:Nat),(Dk ef k l).length=l.length
 | [],_=>rfl
 | o::os,k=>by simp [Dk,Ie ef os]
section
variable {P:Program} {w0:World} {n:Nat}
def E7 (P:Program) (w0:World) (ev:Env) (s:St) (o:Oper) (v:AV) (s':St):Prop :=
 match o.op with
 | .call ⟨.value f,args,_⟩=>AM ev true f∧(∀ x∈args.toList,AM ev true x)∧NZ P w0 (Az ev f) (args.toList.map fun x=>argP ev (Az ev x)) s fun r t=>r=v∧t=s'
 | op=>(A0 P ev true s op).1∧(A0 P ev true s op).2.1=v∧(A0 P ev true s op).2.2=s'
theorem Xl {ev:Env} {s s':St} {o:Oper} {v:AV} (hc:¬ Ll o.op=true):E7 P w0 ev s o v s'=((A0 P ev true s o.op).1∧(A0 P ev true s o.op).2.1=v∧(A0 P ev true s o.op).2.2=s'):=by
 obtain ⟨d,op,c,e,a,b⟩:=o
 cases op with
 | call cc =>
  obtain ⟨callee,args,g⟩:=cc
  cases callee with
  | value f=>exact absurd rfl hc
  | _=>rfl
 | _=>rfl
def Vn (P:Program) (w0:World) (ev:Env) (s:St) (o:Oper) (Post:AV→St→Prop):Prop :=
 (Ll o.op=true∧match o.op with
  | .call ⟨.value f,args,_⟩=>AM ev true f∧(∀ x∈args.toList,AM ev true x)∧NZ P w0 (Az ev f) (args.toList.map fun x=>argP ev (Az ev x)) s Post
  | _=>False)∨∃ v s',E7 P w0 ev s o v s'∧∀ r t,r=v∧t=s'→Post r t
theorem Xx {M:Mem} {ev:Env} {s s':St} {a:Act} {w:World} (h:Rel w0 n M ev s a w) (ro:Option Nat) (m:Nat) {o:Oper} {v:AV} (hv:E7 P w0 ev s o v s')
  (Q:Exit→Act→World→Prop) (K:Act→World→Prop) (hK:∀ u w' M',Ext w0 M w M' w'→RelSt w0 M' s' w'→R w0 M' w' u v→K (a.put o.dst u) w'):o.wpIn (FW ro) m P a w K Q:=by
 by_cases hc:Ll o.op=true
 ·obtain ⟨dst,op,l,p,e,g⟩:=o
  cases op<;>try cases hc
  rename_i cc
  obtain ⟨callee,args,x⟩:=cc
  cases callee<;>try cases hc
  rename_i f
  obtain ⟨d,j,i⟩:=hv
  refine KD h ro m d j i Q _ (fun r t q u w' M' k b c=>?_)
  obtain ⟨rfl,rfl⟩:=q
  exact hK u w' M' k b c
 ·rw [Xl hc] at hv
  obtain ⟨d,j,i⟩:=hv
  refine QE h ro m o d Q _ (fun u w' M' k b c=>?_)
  rw [i] at b
  rw [j] at c
  exact hK u w' M' k b c
theorem YU {M:Mem} {ev:Env} {s:St} {a:Act} {w:World} (h:Rel w0 n M ev s a w) (ro:Option Nat) (m:Nat) {o:Oper} {Post:AV→St→Prop} (hv:Vn P w0 ev s o Post)
  (Q:Exit→Act→World→Prop) (K:Act→World→Prop) (hK:∀ v s' u w' M',Post v s'→Ext w0 M w M' w'→RelSt w0 M' s' w'→R w0 M' w' u v→K (a.put o.dst u) w'):o.wpIn (FW ro) m P a w K Q:=by
 rcases hv with ⟨hc,hv⟩ | ⟨v,s',hv,g⟩
 ·obtain ⟨dst,op,j,q,c,d⟩:=o
  cases op<;>try cases hc
  rename_i cc
  obtain ⟨callee,args,x⟩:=cc
  cases callee<;>try cases hc
  rename_i f
  obtain ⟨k,p,l⟩:=hv
  exact KD h ro m k p l Q _ (fun r t g u w' M' e b i=>hK r t u w' M' g e b i)
 ·exact Xx h ro m hv Q K fun u w' M' e b i=>hK v s' u w' M' (g _ _ ⟨rfl,rfl⟩) e b i
def Good (P:Program) (w0:World) (n:Nat) (l:List Oper) (ef:List Nat) (F:St→Prop) (T:Env→St→Prop):Nat→List Nat→Env→St→Prop
 | 0,_,_,_=>False
 | k+1,dn,ev,s=>F s∧((ef.all fun i=>dn.contains i)=true→T ev s)∧∀ i∈ef,dn.contains i=false→(ef.all fun j => !NW (He l []) i j||dn.contains j)=true →
   ∃ o,l[i]? = some o∧o.guard=none∧JW n o.dst∧∃ Post:AV→St→Prop,Vn P w0 (BU true l o ev) s o Post∧∀ v s',Post v s'→Good P w0 n l ef F T k (i::dn) (J3 ev o.dst true v) s'
structure AInv (w0:World) (n:Nat) (l:List Oper) (ef:List Nat) (s0:St) (e e1:Env) (M1:Mem) (w1:World) (ds:List Deferred) (dn:List Nat) (ev:Env) (s:St) (listed:Array Bool) (a:Act) (w:World) (M:Mem):Prop where
 size:listed.size=l.length
 ini:dn=[]→s=s0
 closed:∀ (j:Nat) (oj:Oper),l[j]? = some oj→listed.getD j false=true→∀ e∈oj.after,Region.binds .any e=true→listed.getD e.on false=true
 eff:∀ i∈ef,(listed.getD i false=true↔i∈dn)
 sub:∀ i∈dn,i∈ef
 rel:RelSt w0 M s w
 tmps:a.tmps.size=n
 defers:a.defers=ds
 ext:Ext w0 M1 w1 M w
 evn:∀ t,(∀ j∈dn,∀ o,l[j]? = some o→o.dst≠some t)→look ev t=look e1 t
 done:∀ t x,(∃ j∈dn,∃ o,l[j]? = some o∧o.dst=some t)→look ev t=some x→entryOk w0 M w (a.tmps.getD t undef) x
 new:∀ t x,(∀ j∈dn,∀ o,l[j]? = some o→o.dst≠some t)→(∃ i o,i ∉ ef∧l[i]? = some o∧o.dst=some t∧listed.getD i false=true)→look e1 t=some x→entryOk w0 M w (a.tmps.getD t undef) x
 old:∀ t x,(∀ i o,l[i]? = some o→o.dst=some t→listed.getD i false=false)→look e t=some x→entryOk w0 M w (a.tmps.getD t undef) x
def Ws (l:List Oper) (ef el:List Nat):Bool:=ef.all fun i=>el.all fun j=>NW (He l []) i j
def Zf8 (P:Program) (w0:World) (n:Nat) (l:List Oper) (e1:Env) (s:St) (o:Oper):Prop :=
 ∃ (Ei:Env) (v:AV),J4 l (BU true l o Ei) o.guard∧JW n o.dst∧XQ P w0 (BU true l o Ei) (BM l (BU true l o Ei) o.guard) s o v∧(∀ t∈looks l o,look Ei t=look e1 t)∧∀ t,o.dst=some t→look e1 t=some (BM l (BU true l o Ei) o.guard,v)
theorem LX {l:List Oper} {ef:List Nat} {i:Nat} {o:Oper} (hi:i ∉ ef) (ho:l[i]? = some o):(Dk ef 0 l)[i]? = some o:=by
 rw [Q5,ho]
 simp [hi]
theorem Oe {l:List Oper} {ef:List Nat} {i:Nat} {o:Oper} {t:Nat} (hi:(Dk ef 0 l)[i]? = some o) (hd:o.dst=some t):i ∉ ef∧l[i]? = some o:=by
 rw [Q5] at hi
 cases hl:l[i]? with
 | none=>simp [hl] at hi
 | some p =>
  rw [hl] at hi
  simp only [Option.map_some,Nat.zero_add,Option.some.injEq] at hi
  by_cases c:i∈ef
  ·simp [c] at hi
   subst hi
   cases hd
  ·simp [c] at hi
   subst hi
   exact ⟨c,rfl⟩
theorem Vz {l:List Oper} {ef ef':List Nat} (hB:LN l ef=true) (hs:∀ i∈ef,i∈ef'):∀ (i j:Nat) (o p:Oper) (t:Nat),(Dk ef' 0 l)[i]? = some o→(Dk ef' 0 l)[j]? = some p→o.dst=some t→p.dst=some t→i=j:=by
 intro i j o p t c g b a
 obtain ⟨a1,a2⟩:=Oe c b
 obtain ⟨d,e⟩:=Oe g a
 have a3:i ∉ ef:=fun h=>a1 (hs i h)
 have f:j ∉ ef:=fun h=>d (hs j h)
 rcases ((Ej hB a2).2 j p t e a).1 b with h | h
 ·exact h
 ·simp [Sm,a3,f] at h
theorem Xf {l:List Oper} {ef:List Nat} {e e1:Env} {s:St} (hB:LN l ef=true) (h:∃ c,Su P w0 n true l (fun e' s'=>e'=e1∧s'=s) c (Dk ef 0 l) e s) :
  (∀ t,(∀ i o,i ∉ ef→l[i]? = some o→o.dst≠some t)→look e1 t=look e t)∧∀ i o,i ∉ ef→l[i]? = some o→Zf8 P w0 n l e1 s o:=by
 obtain ⟨c,J⟩:=h
 obtain ⟨E,C,V,T',r,_⟩:=Qo c _ _ J
 rw [Ie] at r
 have k:∀ t j,j≤l.length→_:=fun t j v=>MM T' (Vz hB fun _ h=>h) t j (by rw [Ie];exact v)
 have g:∀ t,(∀ i o,i ∉ ef→l[i]? = some o→o.dst≠some t)→look e1 t=look e t:=by
  intro t z
  have:=(k t l.length (Nat.le_refl _)).1 fun i o _ x hd=>by
   obtain ⟨a1,a2⟩:=Oe x hd
   exact z i o a1 a2 hd
  rwa [r] at this
 refine ⟨g,fun i o d a=>?_⟩
 have b:i<l.length:=(Ak.1 a).1
 obtain ⟨_,F,G,w,D⟩:=T'.step i o (LX d a)
 refine ⟨E i,V i,F,G,by rw [w];exact D,fun t H=>?_,fun t hd=>?_⟩
 ·by_cases Bf:∃ i o,i ∉ ef∧l[i]? = some o∧o.dst=some t
  ·obtain ⟨j,p,m,q,f⟩:=Bf
   have y:=((Ej hB a).2 j p t q f).2 H
   have u:j<i∧NW (He l []) i j=true:=by simpa [Oa,d,m] using y
   rw [(k t i (Nat.le_of_lt b)).2 j p u.1 (LX m q) f,←r,(k t l.length (Nat.le_refl _)).2 j p (by omega) (LX m q) f]
  ·rw [g t fun i o m q f=>Bf ⟨i,o,m,q,f⟩]
   exact (k t i (Nat.le_of_lt b)).1 fun j p _ v hd=>by
    obtain ⟨a1,a2⟩:=Oe v hd
    exact Bf ⟨j,p,a1,a2,hd⟩
 ·rw [w,←r]
  exact (k t l.length (Nat.le_refl _)).2 i o b (LX d a) hd
inductive PreOk (e1:Env):Env→Prop where
 | nil:PreOk e1 e1
 | cons {k:Nat} {v:Bool × AV} {r:Env} (h:look e1 k=some v) (h':PreOk e1 r):PreOk e1 ((k,v)::r)
theorem PreOk.look {e1 e':Env} (h:PreOk e1 e') (t:Nat):Go.Ev.look e' t=Go.Ev.look e1 t:=by
 induction h with
 | nil=>rfl
 | @cons k v r h _ ih =>
  show (if k=t then some v else Go.Ev.look r t)=_
  split
  ·rename_i q
   rw [←q,h]
  ·exact ih
theorem ZfH {l:List Oper} {ef el:List Nat} {e1:Env} {s:St} (hB:LN l ef=true) (h:∃ c,Su P w0 n true l (fun e' s'=>s'=s∧PreOk e1 e') c (Dk (ef++el) 0 l) e1 s) (i:Nat) (o:Oper) (hie:i ∉ ef) (hil:i ∉ el) (ho':l[i]? = some o):Zf8 P w0 n l e1 s o:=by
 obtain ⟨c,w⟩:=h
 obtain ⟨E,C,V,T',_,m⟩:=Qo c _ _ w
 rw [Ie] at m
 have b:∀ t j,j≤l.length→_:=fun t j e=>MM T' (Vz hB fun _ h=>List.mem_append_left _ h) t j (by rw [Ie];exact e)
 have d:i<l.length:=(Ak.1 ho').1
 have a:i ∉ ef++el:=fun h=>(List.mem_append.1 h).elim hie hil
 have fin:∀ t,look (E l.length) t=look e1 t:=m.look
 obtain ⟨_,v,x,g,u⟩:=T'.step i o (LX a ho')
 refine ⟨E i,V i,v,x,by rw [g];exact u,fun t _=>?_,fun t hd=>?_⟩
 ·by_cases Bf:∃ j p,j<i∧(Dk (ef++el) 0 l)[j]? = some p∧p.dst=some t
  ·obtain ⟨j,p,q,f,k⟩:=Bf
   rw [(b t i (Nat.le_of_lt d)).2 j p q f k,←fin t,(b t l.length (Nat.le_refl _)).2 j p (by omega) f k]
  ·exact (b t i (Nat.le_of_lt d)).1 fun j p e r hd=>Bf ⟨j,p,e,r,hd⟩
 ·rw [g,←fin t]
  exact (b t l.length (Nat.le_refl _)).2 i o d (LX a ho') hd
theorem Zbt {l:List Oper} {ef el:List Nat} {s0:St} {e e1:Env} {F:St→Prop} {T:Env→St→Prop} {M1:Mem} {w1:World} {ds:List Deferred} {ro:Option Nat} {m:Nat} {Q:Exit→Act→World→Prop} (hB:LN l ef=true) (hel:Ws l ef el=true)
  (noE1:∀ t,(∀ i o,i ∉ ef→l[i]? = some o→o.dst≠some t)→look e1 t=look e t)
  (hF:∀ s,F s→∀ i o,i ∉ ef→(i∈el→s=s0)→l[i]? = some o→Zf8 P w0 n l e1 s o)
  (hT:∀ ev s M a w,T ev s→Rel w0 n M ev s a w→Ext w0 M1 w1 M w→a.defers=ds→Q .normal a w) :
  ∀ fuel listed a w M k dn ev s,fuel=listed.toList.count false→Good P w0 n l ef F T k dn ev s→AInv w0 n l ef s0 e e1 M1 w1 ds dn ev s listed a w M→wpAnyIn (FW ro) m P .any l.toArray Q fuel listed a w:=by
 intro fuel
 induction fuel with
 | zero =>
  intro listed a w M k dn ev s hf hg inv
  have g:∀ j,j<l.length→listed.getD j false=true:=by
   intro j hj
   cases hq:listed.getD j false with
   | true=>rfl
   | false =>
    exfalso
    have ai:j<listed.size:=by rw [inv.size];omega
    have:false∈listed.toList:=by
     have e1:listed[j]=false:=by simpa [ai] using hq
     rw [←e1];simp
    have:=List.count_pos_iff.2 this
    omega
  cases k with
  | zero=>exact hg.elim
  | succ k =>
  obtain ⟨g1,g2,_⟩:=hg
  have hdn:(ef.all fun i=>dn.contains i)=true:=by
   refine List.all_eq_true.2 fun i D=>?_
   have c:i<l.length:=by simpa using List.all_eq_true.1 (Bool.and_eq_true_iff.1 hB).1 i D
   simpa using (inv.eff i D).1 (g i c)
  refine ⟨?_,hT ev s M a w (g2 hdn) ⟨inv.rel,inv.tmps,fun t x hx=>?_⟩ inv.ext inv.defers⟩
  ·refine List.eq_nil_iff_forall_not_mem.2 fun i D=>?_
   obtain ⟨J,o,ho,_⟩:=mem_ready.1 D
   have ho':l[i]? = some o:=by simpa using ho
   have:=g i (Ak.1 ho').1
   obtain ⟨q1,q2⟩:=Zn J
   obtain ⟨q3,q4⟩:=Zbb this
   rw [q2] at q4;cases q4
  ·by_cases A:∃ j∈dn,∃ o,l[j]? = some o∧o.dst=some t
   ·exact inv.done t x A hx
   ·have E:∀ j∈dn,∀ o,l[j]? = some o→o.dst≠some t:=fun j hj o ho hd=>A ⟨j,hj,o,ho,hd⟩
    rw [inv.evn t E] at hx
    by_cases Bf:∃ i o,i ∉ ef∧l[i]? = some o∧o.dst=some t
    ·obtain ⟨i,o,b1,b2,b3⟩:=Bf
     exact inv.new t x E ⟨i,o,b1,b2,b3,g i (Ak.1 b2).1⟩ hx
    ·rw [noE1 t fun i o b1 b2 b3=>Bf ⟨i,o,b1,b2,b3⟩] at hx
     refine inv.old t x (fun i o ho hd=>?_) hx
     by_cases c:i∈ef
     ·exact absurd hd (E i ((inv.eff i c).1 (g i (Ak.1 ho).1)) o ho)
     ·exact absurd ⟨i,o,c,ho,hd⟩ Bf
 | succ fuel ih =>
  intro listed a w M k dn ev s hf hg inv
  cases k with
  | zero=>exact hg.elim
  | succ k =>
  obtain ⟨g1,g2,g3⟩:=hg
  have U:∃ j,j<l.length∧listed.getD j false=false∧∀ i,i<j→listed.getD i false=true:=by
   refine Q8 fun g=>?_
   have:0<listed.toList.count false:=by omega
   have Z:=List.count_pos_iff.1 this
   obtain ⟨i,D,he⟩:=List.mem_iff_getElem.1 Z
   have b:i<listed.size:=by simpa using D
   have:=g i (by rw [←inv.size];exact b)
   simp only [Array.getD_eq_getD_getElem?,Array.getElem?_eq_getElem b,Option.getD_some] at this
   rw [Array.getElem_toList] at he
   rw [he] at this;cases this
  obtain ⟨k0,ak,aq,am⟩:=U
  have ae:k0<listed.size:=by rw [inv.size];omega
  have af:l[k0]? = some l[k0]:=List.getElem?_eq_getElem ak
  have H:k0∈Region.ready .any l.toArray listed :=
   mem_ready.2 ⟨by simpa [ae] using aq,l[k0],by simp,fun ed he hb=>am _ ((Ej hB af).1 ed he hb)⟩
  refine ⟨fun h0=>absurd H (by rw [h0];simp),fun i D=>?_⟩
  obtain ⟨J,o,ho,O⟩:=mem_ready.1 D
  have ho':l[i]? = some o:=by simpa using ho
  have au:i<l.length:=(Ak.1 ho').1
  have b:i<listed.size:=by rw [inv.size];omega
  have K:listed.getD i false=false:=by simpa [b] using J
  have z:∀ j,NW (He l []) i j=true→listed.getD j false=true:=fun j hj=>Ub hB inv.closed j i o ho' O hj
  have N:fuel=(listed.setIfInBounds i true).toList.count false:=by
   have ab:listed[i]=false:=by simpa [b] using J
   have ar:0<listed.toList.count false:=List.count_pos_iff.2 (by rw [←ab];simp)
   rw [Array.toList_setIfInBounds,List.count_set (by simpa using b)]
   simp only [Array.getElem_toList,ab]
   rw [Ai (show (false == false)=true from rfl),Aj (show ¬ (true == false)=true by decide)]
   omega
  have hclosed:∀ (j:Nat) (oj:Oper),l[j]? = some oj→(listed.setIfInBounds i true).getD j false=true→∀ ed∈oj.after,Region.binds .any ed=true→(listed.setIfInBounds i true).getD ed.on false=true:=by
   intro j oj hj G ed he hb
   rw [Eb b] at G ⊢
   split
   ·rfl
   ·by_cases c:i=j
    ·subst c
     rw [ho'] at hj;cases hj
     exact O ed he hb
    ·rw [Aj c] at G
     exact inv.closed j oj hj G ed he hb
  unfold wpOpIn
  simp only [ho]
  by_cases hie:i∈ef
  ·-- an effect
   have ah:dn.contains i=false:=by
    cases hq:dn.contains i with
    | false=>rfl
    | true=>have:=(inv.eff i hie).2 (by simpa using hq);rw [K] at this;cases this
   obtain ⟨o2,q1,q2,q3,Post,q4,ag⟩:=g3 i hie ah (by
    refine List.all_eq_true.2 fun j hj=>?_
    cases hq:NW (He l []) i j with
    | false=>rfl
    | true=>simpa using (inv.eff j hj).1 (z j hq))
   rw [ho'] at q1;cases q1
   have C:Rel w0 n M (BU true l o ev) s a w:=by
    refine ⟨inv.rel,inv.tmps,fun t x hs=>?_⟩
    simp only [BU,if_true] at hs
    have Z:=L0 _ _ _ _ hs
    have hx:=II _ _ _ _ hs
    by_cases A:∃ j∈dn,∃ o,l[j]? = some o∧o.dst=some t
    ·exact inv.done t x A hx
    ·have E:∀ j∈dn,∀ o,l[j]? = some o→o.dst≠some t:=fun j hj o ho hd=>A ⟨j,hj,o,ho,hd⟩
     rw [inv.evn t E] at hx
     by_cases Bf:∃ i o,i ∉ ef∧l[i]? = some o∧o.dst=some t
     ·obtain ⟨j,p,b1,b2,b3⟩:=Bf
      have G:=((Ej hB ho').2 j p t b2 b3).2 Z
      have:NW (He l []) i j=true:=by simpa [Oa,hie,b1] using G
      exact inv.new t x E ⟨j,p,b1,b2,b3,z j this⟩ hx
     ·rw [noE1 t fun i o b1 b2 b3=>Bf ⟨i,o,b1,b2,b3⟩] at hx
      refine inv.old t x (fun j p hp hd=>?_) hx
      by_cases c:j∈ef
      ·cases hq:listed.getD j false with
       | false=>rfl
       | true=>exact absurd hd (E j ((inv.eff j c).1 hq) p hp)
      ·exact absurd ⟨j,p,c,hp,hd⟩ Bf
   have hw:Region.wanted o (yielded l.toArray a.tmps)=true:=by simp [Region.wanted,q2]
   rw [hw,Ai rfl]
   refine YU C ro m q4 Q _ fun v s' u w' M' aa hx hst hu=>?_
   have q5:=ag v s' aa
   have keep:∀ t x,o.dst≠some t→entryOk w0 M w (a.tmps.getD t undef) x→entryOk w0 M' w' ((a.put o.dst u).tmps.getD t undef) x:=by
    intro t x f h1
    rw [Ku a o.dst u t (by rw [inv.tmps];exact q3),Aj f]
    exact h1.mono hx
   refine ih _ _ _ M' k (i::dn) _ s' N q5 ⟨by simp [inv.size],fun q=>(by cases q),hclosed,fun j hj=>?_,fun j hj=>?_,hst,by rw [Qc];exact inv.tmps,by rw [Hw];exact inv.defers,inv.ext.trans hx,fun t ht=>?_,fun t x hA hx'=>?_,fun t x hA hN hx'=>?_,fun t x hO hx'=>?_⟩
   ·rw [Eb b]
    by_cases c:i=j
    ·subst c;simp
    ·rw [Aj c,inv.eff j hj];simp [Ne.symm c]
   ·rcases List.mem_cons.1 hj with rfl | hj
    ·exact hie
    ·exact inv.sub j hj
   ·have f:=ht i (List.mem_cons_self ..) o ho'
    have:look (J3 ev o.dst true v) t=look ev t:=by
     cases hd:o.dst with
     | none=>rfl
     | some d=>rw [hd] at f;simp only [J3,look];rw [Aj (fun h=>f (by rw [h]))]
    rw [this]
    exact inv.evn t fun j hj=>ht j (List.mem_cons_of_mem _ hj)
   ·by_cases c:o.dst=some t
    ·rw [c] at hx'
     simp only [J3,look,if_true,Option.some.injEq] at hx'
     subst hx'
     rw [Ku a o.dst u t (by rw [inv.tmps];exact q3),Ai c]
     simpa only [entryOk,if_true] using hu
    ·have:look (J3 ev o.dst true v) t=look ev t:=by
      cases hd:o.dst with
      | none=>rfl
      | some d=>rw [hd] at c;simp only [J3,look];rw [Aj (fun h=>c (by rw [h]))]
     rw [this] at hx'
     refine keep t x c (inv.done t x ?_ hx')
     obtain ⟨j,hj,p,hp,hd⟩:=hA
     rcases List.mem_cons.1 hj with rfl | hj
     ·rw [ho'] at hp;cases hp;exact absurd hd c
     ·exact ⟨j,hj,p,hp,hd⟩
   ·have f:=hA i (List.mem_cons_self ..) o ho'
    refine keep t x f (inv.new t x (fun j hj=>hA j (List.mem_cons_of_mem _ hj)) ?_ hx')
    obtain ⟨j,p,b1,b2,b3,V⟩:=hN
    rw [Eb b] at V
    by_cases c:i=j
    ·subst c;exact absurd hie b1
    ·rw [Aj c] at V;exact ⟨j,p,b1,b2,b3,V⟩
   ·have f:o.dst≠some t:=fun hd=>by
     have:=hO i o ho' hd
     rw [Eb b,Ai rfl] at this;cases this
    refine keep t x f (inv.old t x (fun j p hp hd=>?_) hx')
    have:=hO j p hp hd
    rw [Eb b] at this
    by_cases c:i=j
    ·rw [Ai c] at this;cases this
    ·rwa [Aj c] at this
  ·-- one of the others
   have y:∀ j∈dn,∀ p,l[j]? = some p→NW (He l []) j i=true→False:=by
    intro j hj p hp aj
    have ap:=(inv.eff j (inv.sub j hj)).2 hj
    have:=Ub hB inv.closed i j p hp (inv.closed j p hp ap) aj
    rw [K] at this;cases this
   obtain ⟨Ei,v,t2,t3,t5,t6,t7⟩:=hF s g1 i o hie (fun D=>by
    cases hdn:dn with
    | nil=>exact inv.ini hdn
    | cons j r =>
     have hj:j∈dn:=by rw [hdn];exact List.mem_cons_self ..
     have hje:=inv.sub j hj
     have c:j<l.length:=by simpa using List.all_eq_true.1 (Bool.and_eq_true_iff.1 hB).1 j hje
     exact (y j hj _ (List.getElem?_eq_getElem c) (List.all_eq_true.1 (List.all_eq_true.1 hel j hje) i D)).elim) ho'
   have C:Rel w0 n M (BU true l o Ei) s a w:=by
    refine ⟨inv.rel,inv.tmps,fun t x hs=>?_⟩
    simp only [BU,if_true] at hs
    have Z:=L0 _ _ _ _ hs
    have hx:=II _ _ _ _ hs
    have E:∀ j∈dn,∀ p,l[j]? = some p→p.dst≠some t:=by
     intro j hj p hp hd
     have G:=((Ej hB ho').2 j p t hp hd).2 Z
     have hje:=inv.sub j hj
     exact y j hj p hp (by simpa [Oa,hie,hje] using G)
    rw [t6 t Z] at hx
    by_cases Bf:∃ i o,i ∉ ef∧l[i]? = some o∧o.dst=some t
    ·obtain ⟨j,p,b1,b2,b3⟩:=Bf
     have G:=((Ej hB ho').2 j p t b2 b3).2 Z
     have ad:j<i∧NW (He l []) i j=true:=by simpa [Oa,hie,b1] using G
     exact inv.new t x E ⟨j,p,b1,b2,b3,z j ad.2⟩ hx
    ·rw [noE1 t fun i o b1 b2 b3=>Bf ⟨i,o,b1,b2,b3⟩] at hx
     refine inv.old t x (fun j p hp hd=>?_) hx
     by_cases c:j∈ef
     ·cases hq:listed.getD j false with
      | false=>rfl
      | true=>exact absurd hd (E j ((inv.eff j c).1 hq) p hp)
     ·exact absurd ⟨j,p,c,hp,hd⟩ Bf
   refine Rt C ro m t2 t5 Q _ fun u w' M' hx hst hu=>?_
   have keep:∀ t x,o.dst≠some t→entryOk w0 M w (a.tmps.getD t undef) x→entryOk w0 M' w' ((a.put o.dst u).tmps.getD t undef) x:=by
    intro t x f h1
    rw [Ku a o.dst u t (by rw [inv.tmps];exact t3),Aj f]
    exact h1.mono hx
   have ao:∀ t,o.dst=some t→∀ j∈dn,∀ p,l[j]? = some p→p.dst≠some t:=by
    intro t hd j hj p hp Y
    have hje:=inv.sub j hj
    rcases ((Ej hB ho').2 j p t hp Y).1 hd with h | h
    ·subst h;exact hie hje
    ·exact y j hj p hp (by simpa [Sm,hie,hje] using h)
   refine ih _ _ _ M' (k+1) dn ev s N ⟨g1,g2,g3⟩ ⟨by simp [inv.size],inv.ini,hclosed,fun j hj=>?_,inv.sub,hst,by rw [Qc];exact inv.tmps,by rw [Hw];exact inv.defers,inv.ext.trans hx,inv.evn,fun t x hA hx'=>?_,fun t x hA hN hx'=>?_,fun t x hO hx'=>?_⟩
   ·rw [Eb b,Aj (fun (h:i=j)=>hie (h▸hj))]
    exact inv.eff j hj
   ·refine keep t x (fun hd=>?_) (inv.done t x hA hx')
    obtain ⟨j,hj,p,hp,Y⟩:=hA
    exact ao t hd j hj p hp Y
   ·by_cases c:o.dst=some t
    ·rw [Ku a o.dst u t (by rw [inv.tmps];exact t3),Ai c]
     have e3:=t7 t c
     rw [hx'] at e3
     cases e3
     exact hu
    ·refine keep t x c (inv.new t x hA ?_ hx')
     obtain ⟨j,p,b1,b2,b3,V⟩:=hN
     rw [Eb b] at V
     by_cases c':i=j
     ·subst c';rw [ho'] at b2;cases b2;exact absurd b3 c
     ·rw [Aj c'] at V;exact ⟨j,p,b1,b2,b3,V⟩
   ·have f:o.dst≠some t:=fun hd=>by
     have:=hO i o ho' hd
     rw [Eb b,Ai rfl] at this;cases this
    refine keep t x f (inv.old t x (fun j p hp hd=>?_) hx')
    have:=hO j p hp hd
    rw [Eb b] at this
    by_cases c:i=j
    ·rw [Ai c] at this;cases this
    ·rwa [Aj c] at this
def Conv (w0:World) (n nb:Nat) (e:Env) (s:St) (e':Env) (s':St):Prop:=∀ M a w,Rel w0 n M e s a w→∃ M',(∀ Ms ws,Ms.N=nb→Ext w0 Ms ws M w→Ext w0 Ms ws M' w)∧Rel w0 n M' e' s' a w
theorem Good.imp {l:List Oper} {ef:List Nat} {F:St→Prop} {T T':Env→St→Prop} (hT:∀ ev s,T ev s→T' ev s):∀ k dn ev s,Good P w0 n l ef F T k dn ev s→Good P w0 n l ef F T' k dn ev s
 | 0,_,_,_,h=>h
 | k+1,_,_,_,h=>⟨h.1,fun q=>hT _ _ (h.2.1 q),fun i a b c=>by
  obtain ⟨o,g,f,e,Post,m,d⟩:=h.2.2 i a b c
  exact ⟨o,g,f,e,Post,m,fun v j q=>Good.imp hT k _ _ _ (d v j q)⟩⟩
section
variable {M0:Mem} {W0:World} {ro:Option Nat} {Q:AQ} {e:Env} {st:St}
theorem XE (hm:P.follows .mixedOrders=true) (ef el L:List Nat) {id:Nat} {l:List Oper} (hB:LN l ef=true) (hel:Ws l ef el=true) (F:St→Prop) (k nb:Nat) {e1:Env} (hnb:st.boxes.length=nb)
  (hN:∀ t,(∀ i o,i ∉ ef→l[i]? = some o→o.dst≠some t)→look e1 t=look e t) (hF:∀ s,F s→∀ i o,i ∉ ef→(i∈el→s=st)→l[i]? = some o→Zf8 P w0 n l e1 s o)
  (hG:Good P w0 n l ef F (fun ev s=>∃ e2 s2,Conv w0 n nb ev s e2 s2∧Q .normal (ED L e2) s2) k [] e1 st):D4 P w0 n M0 W0 ro (.region id l.toArray true) Q e st:=by
 intro m M a w hr
 obtain ⟨d1,d2⟩:=hr.rel.st.drew
 refine wpIn_region_any hm (Zbt (s0:=st) (e:=e) (e1:=e1) (M1:=M) (w1:=w) (ds:=a.defers) hB hel hN hF (fun ev s r g v d b q hd=>?_) _ _ a _ M k [] e1 st ?_ hG ?_)
 ·obtain ⟨e2,s2,d,y⟩:=d
  obtain ⟨M2,p,u⟩:=d r g v b
  have f:=p M w (hr.rel.st.N.trans hnb) q
  refine ⟨M2,_,_,⟨u.sub (FM L _),hr.ext.trans f,?_⟩,y⟩
  rw [hd]
  exact hr.marks.later f hr.rel.st
 ·simp
 ·have hnl:∀ j,(Array.replicate l.toArray.size false).getD j false=false:=fun j=>by
   by_cases c:j<l.length
   ·simp [Array.getD_eq_getD_getElem?,c]
   ·simp [Array.getD_eq_getD_getElem?,c]
  exact ⟨by simp,fun _=>rfl,fun j _ _ hl=>(by rw [hnl] at hl;cases hl),fun i _=>(by rw [hnl];simp),fun _ h=>(nomatch h),d1,hr.rel.size,rfl,d2,fun _ _=>rfl,fun _ _ ⟨_,h,_⟩=>(nomatch h),
   fun _ _ _ ⟨i,_,_,_,_,h⟩=>(by rw [hnl] at h;cases h),fun t x _ hs=>(hr.rel.env t x hs).mono d2⟩
theorem YE (hm:P.follows .mixedOrders=true) (ef L:List Nat) {id:Nat} {l:List Oper} (hB:LN l ef=true) (F:St→Prop) (k nb:Nat) {e1:Env} (hnb:st.boxes.length=nb)
  (hF:∀ s,F s→∃ c,Su P w0 n true l (fun e' s'=>e'=e1∧s'=s) c (Dk ef 0 l) e s) (hG:Good P w0 n l ef F (fun ev s=>∃ e2 s2,Conv w0 n nb ev s e2 s2∧Q .normal (ED L e2) s2) k [] e1 st):D4 P w0 n M0 W0 ro (.region id l.toArray true) Q e st :=
 have a:F st:=by
  cases k with
  | zero=>exact hG.elim
  | succ k=>exact hG.1
 XE hm ef [] L hB (by simp [Ws]) F k nb hnb (Xf hB (hF st a)).1 (fun s h i o b _ d=>(Xf hB (hF s h)).2 i o b d) hG
theorem J2 (hm:P.follows .mixedOrders=true) (ef L:List Nat) {id:Nat} {l:List Oper} (hB:LN l ef=true) (F:St→Prop) (k nb:Nat) {e1 e2:Env} {s2:St} (hnb:st.boxes.length=nb)
  (hF:∀ s,F s→∃ c,Su P w0 n true l (fun e' s'=>e'=e1∧s'=s) c (Dk ef 0 l) e s) (hG:Good P w0 n l ef F (fun ev s=>Conv w0 n nb ev s e2 s2) k [] e1 st) (hQ:Q .normal (ED L e2) s2):D4 P w0 n M0 W0 ro (.region id l.toArray true) Q e st :=
 YE hm ef L hB F k nb hnb hF (hG.imp (fun _ _ h=>⟨e2,s2,h,hQ⟩))
theorem TJ (hm:P.follows .mixedOrders=true) (ef el L:List Nat) {id:Nat} {l:List Oper} (hB:(LN l ef&&Ws l ef el)=true) (F:St→Prop) (k nb:Nat) {e1 e2:Env} {s2:St} (hnb:st.boxes.length=nb)
  (h0:∃ c,Su P w0 n true l (fun e' s'=>e'=e1∧s'=st) c (Dk ef 0 l) e st)
  (hF:∀ s,F s→∃ c,Su P w0 n true l (fun e' s'=>s'=s∧PreOk e1 e') c (Dk (ef++el) 0 l) e1 s) (hG:Good P w0 n l ef F (fun ev s=>Conv w0 n nb ev s e2 s2) k [] e1 st) (hQ:Q .normal (ED L e2) s2):D4 P w0 n M0 W0 ro (.region id l.toArray true) Q e st :=
 have a:=Bool.and_eq_true_iff.1 hB
 XE hm ef el L a.1 a.2 F k nb hnb (Xf a.1 h0).1 (fun s h i o b f d=>by
  by_cases c:i∈el
  ·rw [f c];exact (Xf a.1 h0).2 i o b d
  ·exact ZfH a.1 (hF s h) i o b c d) (hG.imp (fun _ _ h=>⟨e2,s2,h,hQ⟩))
end
theorem QF (L:List Nat) {nb:Nat} {e e':Env} {s:St} (h:ED L e=e'):Conv w0 n nb e s e' s:=fun M _ w a=>⟨M,fun _ _ _ h=>h,by rw [←h];exact a.sub (FM L e)⟩
def ZE (l:List Oper) (ef dn:List Nat):List Nat:=ef.filter fun i => !dn.contains i&&ef.all fun j => !NW (He l []) i j||dn.contains j
theorem Good.mk {l:List Oper} {ef dn:List Nat} {F:St→Prop} {T:Env→St→Prop} {k:Nat} {ev:Env} {s:St} (rs:List Nat) (hr:ZE l ef dn=rs) (hF:F s) (hT:(ef.all fun i=>dn.contains i)=true→T ev s)
  (h:∀ i∈rs,∃ o,l[i]? = some o∧o.guard=none∧JW n o.dst∧∃ Post:AV→St→Prop,Vn P w0 (BU true l o ev) s o Post∧∀ v s',Post v s'→Good P w0 n l ef F T k (i::dn) (J3 ev o.dst true v) s'):Good P w0 n l ef F T (k+1) dn ev s :=
 ⟨hF,hT,fun i a hd b=>h i (by rw [←hr];exact List.mem_filter.2 ⟨a,by rw [hd,b];rfl⟩)⟩
theorem Ec {l:List Oper} {ef dn:List Nat} {F:St→Prop} {T:Env→St→Prop} {k i:Nat} {ev:Env} {s:St} {o:Oper} {v:AV} {s':St} (ho:l[i]? = some o) (hg:o.guard=none) (hd:JW n o.dst) (hs:E7 P w0 (BU true l o ev) s o v s')
  (hk:Good P w0 n l ef F T k (i::dn) (J3 ev o.dst true v) s'):∃ o,l[i]? = some o∧o.guard=none∧JW n o.dst∧∃ Post:AV→St→Prop,Vn P w0 (BU true l o ev) s o Post∧∀ v s',Post v s'→Good P w0 n l ef F T k (i::dn) (J3 ev o.dst true v) s' :=
 ⟨o,ho,hg,hd,fun r t=>r=v∧t=s',.inr ⟨v,s',hs,fun _ _ h=>h⟩,by rintro _ _ ⟨rfl,rfl⟩;exact hk⟩
theorem Zs {l:List Oper} {ef dn:List Nat} {F:St→Prop} {T:Env→St→Prop} {k i:Nat} {ev:Env} {s:St} {o:Oper} {f:Operand} {args:Array Operand} {ts:Array TypeId} {Post:AV→St→Prop} (ho:l[i]? = some o) (hg:o.guard=none) (hd:JW n o.dst) (hop:o.op = .call ⟨.value f,args,ts⟩)
  (h1:AM (BU true l o ev) true f) (h2:∀ x∈args.toList,AM (BU true l o ev) true x) (h3:NZ P w0 (Az (BU true l o ev) f) (args.toList.map fun x=>argP (BU true l o ev) (Az (BU true l o ev) x)) s Post)
  (hk:∀ v s',Post v s'→Good P w0 n l ef F T k (i::dn) (J3 ev o.dst true v) s'):∃ o,l[i]? = some o∧o.guard=none∧JW n o.dst∧∃ Post:AV→St→Prop,Vn P w0 (BU true l o ev) s o Post∧∀ v s',Post v s'→Good P w0 n l ef F T k (i::dn) (J3 ev o.dst true v) s' :=
 ⟨o,ho,hg,hd,Post,.inl ⟨by rw [hop];rfl,by rw [hop];exact ⟨h1,h2,h3⟩⟩,hk⟩
end
def Tg {α:Type} (_:α):Prop:=True
theorem tg {α:Type} {a:α}:Tg a:=trivial
theorem cl {p:Prop} (h:p:=by first | (intros;omega) | (intros;simp_all;done) | (intros;simp only [Bool.or_eq_false_iff,Bool.or_eq_true,Bool.and_eq_true,Bool.and_eq_false_iff,decide_eq_true_eq,decide_eq_false_iff_not,bne_iff_ne] at *; omega)):p:=h
theorem pf {p:Prop} (h:p:=by first | exact List.prefix_append _ _ | exact List.prefix_refl _ | (rw [List.append_assoc];exact List.prefix_append _ _)):p:=h
theorem ev {p:Prop} (h:p:=by simp +decide only [go_sem,Nat.reduceAdd]):p:=h
theorem ef {p F:Prop} (f:F) (h:F→p:=by intro hs;first | rfl | (simp +decide only [go_sem,Nat.reduceAdd,hs];done)):p:=h f
theorem en {p F:Prop} (f:F) (h:F→p:=by intro hs;first | (simp +decide only [go_sem,Nat.reduceAdd,hs];done) | (simp +decide only [go_sem,Nat.reduceAdd,hs];rfl)):p:=h f
theorem ow {p:Prop} (h:p:=by (simp +decide only [go_sem,Nat.reduceAdd,Jt])<;>(try (repeat' apply Ae))<;>first | omega | assumption):p:=h
theorem ZcH:(0:Nat)=0:=rfl
section
variable {P:Program} {w0:World} {n:Nat} {M0:Mem} {W0:World} {ro:Option Nat} {e:Env} {st:St} {Q:AQ}
theorem Jp {c:Nat} {L:List Nat} (tc:Tg c) (tL:Tg L) {id:Nat} {l:List Oper} (h:Su P w0 n false l (fun e' st'=>Q .normal (ED L e') st') c l e st):D4 P w0 n M0 W0 ro (.region id l.toArray false) Q e st:=Ax c L h
theorem TS {L:List Nat} (t:Tg L) {c:Code} (h:D4 P w0 n M0 W0 ro c Q (ED L e) st):D4 P w0 n M0 W0 ro c Q e st:=P4 _ h (FM _ _)
theorem QZ {h c1 c2:Nat} {L:List Nat} (tt:Tg (h,c1,c2,L)) (hm:P.follows .mixedOrders=true) {id:Nat} {l:List Oper} (hB:Vo l h=true)
  (hev:Su P w0 n true l (fun e1 s1=>Su P w0 n false l (fun e2 s2=>Q .normal (ED L e2) s2) c2 (l.drop h) e1 s1) c1 (l.take h) e st):D4 P w0 n M0 W0 ro (.region id l.toArray true) Q e st:=S1 hm h c1 c2 L hB hev
theorem Jv {c d:Bool} {fv:AV} {args:List AV} {k:AV→St→Prop} (h:JV P w0 c d fv args st k):JV P w0 c d fv args st k:=h
theorem BQ {β:Type} {F:Prop} {b:Bool} {X Y r:β} (h:(if b=true then X else Y)=r) (f:F) {c:Operand} {x y:Code} (ht:(b=true∧F)→X=r→D4 P w0 n M0 W0 ro x Q e st) (hf:(b=false∧F)→Y=r→D4 P w0 n M0 W0 ro y Q e st)
  (hc:AM e true c:=by simp +decide only [go_sem,Nat.reduceAdd]) (hb:F→Az e c = .val (.bool b):=by intro hs;first | (simp +decide only [go_sem,Nat.reduceAdd,hs];done) | (simp +decide only [go_sem,Nat.reduceAdd,hs];rfl)):D4 P w0 n M0 W0 ro (.cond c x y) Q e st :=
 A4 b hc (hb f) (fun q=>ht ⟨q,f⟩ (A7 h q)) (fun q=>hf ⟨q,f⟩ (A8 h q))
theorem td {B0 B bs X:List (List AV)} {Rw rows:List RowA} {L:List LoopA} {l:List (Nat × Nat × Own)} {c:Code} (hN:M0.N=B0.length) (hNR:M0.NR=Rw.length) (hNL:M0.NL=L.length) (hc:Calm B0.length Rw.length L.length ⟨B,Rw,L⟩) (ho:Owns Rw rows l)
  (h:D4 P w0 n M0 W0 ro c Q e ⟨B++bs,rows,L⟩) (hB:B.length=B0.length:=by first | rfl | simp only [List.length_set])
  (hbs:∀ cs∈bs,∀ x∈cs,Under (B0.length+bs.length) rows.length L.length x:=by (simp +decide only [go_sem,Nat.reduceAdd])<;>(try (repeat' apply Ae))<;>first | omega | assumption)
  (he:Jt (B0.length+bs.length) rows.length L.length e:=by (simp +decide only [go_sem,Nat.reduceAdd,Jt])<;>(try (repeat' apply Ae))<;>first | omega | assumption):D4 P w0 n M0 W0 ro c Q e ⟨B++(bs++X),rows,L⟩ :=
 A9 hN hNR hNL hB hc ho hbs he h
end
section
variable {P:Program} {w0:World} {n:Nat} {M0:Mem} {W0:World} {ro:Option Nat} {e:Env} {st:St} {Q:AQ}
theorem ZcG (g:Nat) (x:AV) (hn:n≤1000000) {c:Code} (h:D4 P w0 n M0 W0 ro c Q ((2000000+g,false,x)::e) st):D4 P w0 n M0 W0 ro c Q e st :=
 H3 _ _ (fun M a w b=>⟨M,.refl _ _ _,b.st,b.size,fun s y hs=>by
  simp only [look] at hs
  by_cases q:2000000+g=s
  ·rw [Ai q] at hs
   cases hs
   have d:1000000≤s:=by rw [←q];omega
   simp only [entryOk,Bool.false_eq_true,if_false]
   rw [Array.getD_eq_getD_getElem?,Array.getElem?_eq_none (by rw [b.size];omega)]
   rfl
  ·rw [Aj q] at hs
   exact b.env s y hs⟩) h
theorem P8 (t:TypeId) (hn:n≤1000000) {c:Code} (h:D4 P w0 n M0 W0 ro c Q ((1000000+t,false,.junk)::e) st):D4 P w0 n M0 W0 ro c Q e st :=
 H3 _ _ (fun M a w b=>⟨M,.refl _ _ _,b.st,b.size,fun s x hs=>by
  simp only [look] at hs
  by_cases q:1000000+t=s
  ·rw [Ai q] at hs
   cases hs
   have d:1000000≤s:=by rw [←q];exact Nat.le_add_right _ _
   simp only [entryOk,Bool.false_eq_true,if_false]
   rw [Array.getD_eq_getD_getElem?,Array.getElem?_eq_none (by rw [b.size];omega)]
   rfl
  ·rw [Aj q] at hs
   exact b.env s x hs⟩) h
end
theorem rg {F p q:Prop} (L:List Nat) (f:F) (k:q) (h:Tg L→F→q→p:=by
  intro tL hs hq
  apply An;intro K hK
  refine Jp (c:=1) tg tL ?_
  rw [Ap];simp +decide only [go_sem,Nat.reduceAdd,hs]
  first | (refine hK _ _ ?_;exact hq) | ((repeat' apply Ae)<;>first | (refine hK _ _ ?_;exact hq) | (clear hq;exact cl))):p:=h tg f k
theorem rc {F p q:Prop} (c:Nat) (L:List Nat) (f:F) (k:q) (h:Tg c→Tg L→F→q→p:=by
  intro tc tL hs hq
  apply An;intro K hK
  refine Jp tc tL ?_
  rw [Ap];simp +decide only [go_sem,Nat.reduceAdd,hs]
  first | (refine Jv ?_;revert K;exact hq) | ((repeat' apply Ae)<;>first | (refine Jv ?_;revert K;exact hq) | (clear hq;exact cl))):p:=h tg tg f k
theorem nc {F p q:Prop} (f:F) (k:q) (h:F→q→p:=by
  intro hs hq
  rw [Ap];simp +decide only [go_sem,Nat.reduceAdd,hs]
  first | (refine Jv ?_;exact hq) | ((repeat' apply Ae)<;>first | (refine Jv ?_;exact hq) | (clear hq;exact cl))):p:=h f k
theorem ne {F p q:Prop} (f:F) {K:Env→St→Prop} {A:Env→St→Prop} (hK:∀ e s,A e s→K e s) (k:q) (h:F→(∀ e s,A e s→K e s)→q→p:=by
  intro hs hK hq
  rw [Ap];simp +decide only [go_sem,Nat.reduceAdd,hs]
  first | (refine hK _ _ ?_;exact hq) | ((repeat' apply Ae)<;>first | (refine hK _ _ ?_;exact hq) | (clear hq;exact cl))):p:=h f hK k
theorem dg {F p q:Prop} (m c1 c2:Nat) (L:List Nat) (f:F) {P:Program} (hm:P.follows .mixedOrders=true) (k:q) (h:Tg (m,c1,c2,L)→F→P.follows .mixedOrders=true→q→p:=by
  intro tt hs hm hq
  apply An;intro K hK
  refine QZ tt hm (by kernel_rfl) ?_
  rw [Ap];simp +decide only [go_sem,Nat.reduceAdd,hs]
  (repeat' with_reducible apply Ae)<;>first | (rw [Ap];simp +decide only [go_sem,Nat.reduceAdd,hs]) | (clear hq;exact cl)
  first | (refine hK _ _ ?_;exact hq) | ((repeat' apply Ae)<;>first | (refine hK _ _ ?_;exact hq) | (clear hq;exact cl))):p:=h tg f hm k
theorem sk {F p q:Prop} (L:List Nat) (f:F) {A K:Env→St→Prop} (hK:∀ e s,A e s→K e s) (k:q) (h:Tg L→F→(∀ e s,A e s→K e s)→q→p:=by
  intro tL hs hK hq
  refine TS tL ?_
  apply Fv;simp +decide only [go_sem,Nat.reduceAdd]
  first | (refine hK _ _ ?_;exact hq) | ((repeat' apply Ae)<;>first | (refine hK _ _ ?_;exact hq) | (clear hq;exact cl))):p:=h tg f hK k
theorem sx {F p q:Prop} (L:List Nat) (f:F) {A K:Env→St→Prop} (hK:∀ e s,A e s→K e s) (k:q) (h:Tg L→F→(∀ e s,A e s→K e s)→q→p:=by
  intro tL hs hK hq
  refine TS tL ?_
  apply Ks;simp +decide only [go_sem,Nat.reduceAdd]
  first | (refine hK _ _ ?_;exact hq) | ((repeat' apply Ae)<;>first | (refine hK _ _ ?_;exact hq) | (clear hq;exact cl))):p:=h tg f hK k
theorem rl {F p q:Prop} (L:List Nat) (f:F) {A K:Env→St→Prop} (hK:∀ e s,A e s→K e s) (k:q) (h:Tg L→F→(∀ e s,A e s→K e s)→q→p:=by
  intro tL hs hK hq
  refine Jp (c:=1) tg tL ?_
  rw [Ap];simp +decide only [go_sem,Nat.reduceAdd,hs]
  first | (refine hK _ _ ?_;exact hq) | ((repeat' apply Ae)<;>first | (refine hK _ _ ?_;exact hq) | (clear hq;exact cl))):p:=h tg f hK k
theorem rk {F p q:Prop} (c:Nat) (L:List Nat) (f:F) (k:q) (h:Tg c→Tg L→F→q→p:=by
  intro tc tL hs hq
  refine Jp tc tL ?_
  rw [Ap];simp +decide only [go_sem,Nat.reduceAdd,hs]
  first | (refine Jv ?_;exact hq) | ((repeat' apply Ae)<;>first | (refine Jv ?_;exact hq) | (clear hq;exact cl))):p:=h tg tg f k
theorem hd {P:Program} {w0:World} {f:FuncId} {fn:Func} {c:Code} {n:Nat} {args:List AV} {B:List (List AV)} {Rw:List RowA} {L:List LoopA} {Post:AV→St→Prop} (rs:List ResultVar) (hf:P.funcs[f]? = some fn) (hn:fn.ntmps=n)
  (k:∀ (M0:Mem) (W0:World),M0.N=B.length→M0.NR=Rw.length→M0.NL=L.length→Calm B.length Rw.length L.length ⟨B,Rw,L⟩→(∀ x∈args,Under B.length Rw.length L.length x)→Owns Rw Rw []→(0:Nat)=0 →
   D4 P w0 n M0 W0 none c (Zdg P rs (finP ⟨B,Rw,L⟩ Post)) (AA 0 args) ⟨B,Rw,L⟩)
  (hb:fn.body=some c:=by rfl) (hrs:fn.results=rs.toArray:=by rfl) (hm:fn.name ≠ "runtime.NumGoroutine" := by decide) (ha:args.length≤n:=by exact Nat.le_of_ble_eq_true rfl):ACalls P w0 f args ⟨B,Rw,L⟩ Post :=
 ACalls.finP (FN (rs:=rs) hf hb hrs hn (AZ hf (by rw [hb];rfl) hm) ha fun M0 W0 g b e a d=>k M0 W0 g b e a d (Owns.none Rw) rfl)
theorem ix {α β:Type} {l:List α} {i:Int} {F:α→Option β} {r:β} (g:α→AV) (h:(Cb l i).bind F=some r):∃ x,0≤i∧i<l.length∧(l.map g).getD i.toNat .junk=g x∧F x=some r:=by
 obtain ⟨x,d,h⟩:=bind_some h
 obtain ⟨a,b,c⟩:=Bi d
 exact ⟨x,a,b,Bj c,h⟩
abbrev Ck (e:Env) (st:St) (B:Ao) (Rw:Av) (L:As) (e0:Env) (bs:Ao) (ow:List (Nat × Nat × Own)) (c:Prop):Prop :=
 ∃ (X:Ao) (rows:Av),e=e0∧st=⟨B++(bs++X),rows,L⟩∧Owns Rw rows ow∧c
end Go.Ev
namespace Go.Proofs
open Go.Shelf
def Tryz.laysM171_ren:Go.Shelf.Ren:=⟨fun | 171=>134 | 243=>206 | 246=>272 | 283=>315 | 284=>316 | 285=>317 | 286=>318 | 129=>299 | 317=>344 | 318=>345 | 319=>346 | 320=>347 | 337=>364 | 338=>365 | n=>n,fun | 3=>3 | 9=>9 | 2=>2 | 4=>4 | 171=>315 | 0=>0 | 53=>301 | 37=>167 | 5=>5 | 173=>317 | 212=>339 | 51=>299 | 20=>20 | 213=>340 | 46=>231 | 232=>360 | 233=>361 | n=>n,fun | 17=>4 | 18=>7 | 19=>8 | n=>n⟩
theorem Tryz.laysM171:Go.Proofs.LaysM.n171 Tryz.prog Tryz.laysM171_ren:={
 mixed:=by kernel_rfl
 f129:=Tryz.func299.trans (congrArg some (by kernel_rfl))
 f171:=Tryz.func134.trans (congrArg some (by kernel_rfl))
 f243:=Tryz.func206.trans (congrArg some (by kernel_rfl))
 f246:=Tryz.func272.trans (congrArg some (by kernel_rfl))
 f283:=Tryz.func315.trans (congrArg some (by kernel_rfl))
 f284:=Tryz.func316.trans (congrArg some (by kernel_rfl))
 f285:=Tryz.func317.trans (congrArg some (by kernel_rfl))
 f286:=Tryz.func318.trans (congrArg some (by kernel_rfl))
 f317:=Tryz.func344.trans (congrArg some (by kernel_rfl))
 f318:=Tryz.func345.trans (congrArg some (by kernel_rfl))
 f319:=Tryz.func346.trans (congrArg some (by kernel_rfl))
 f320:=Tryz.func347.trans (congrArg some (by kernel_rfl))
 f337:=Tryz.func364.trans (congrArg some (by kernel_rfl))
 f338:=Tryz.func365.trans (congrArg some (by kernel_rfl))
 t0:=Tryz.underlying0
 a0:=Tryz.isAgg0
 z0:=Tryz.sizeOf0
 v0:=Tryz.zeroValue0
 t2:=Tryz.underlying2
 a2:=Tryz.isAgg2
 z2:=Tryz.sizeOf2
 v2:=Tryz.zeroValue2
 t3:=Tryz.underlying3
 a3:=Tryz.isAgg3
 z3:=Tryz.sizeOf3
 v3:=Tryz.zeroValue3
 t4:=Tryz.underlying4
 a4:=Tryz.isAgg4
 z4:=Tryz.sizeOf4
 v4:=Tryz.zeroValue4
 t5:=Tryz.underlying5
 a5:=Tryz.isAgg5
 z5:=Tryz.sizeOf5
 v5:=Tryz.zeroValue5
 t9:=Tryz.underlying9
 a9:=Tryz.isAgg9
 z9:=Tryz.sizeOf9
 v9:=Tryz.zeroValue9
 t20:=Tryz.underlying20
 a20:=Tryz.isAgg20
 z20:=Tryz.sizeOf20
 v20:=Tryz.zeroValue20
 t37:=Tryz.underlying167
 a37:=Tryz.isAgg167
 z37:=Tryz.sizeOf167
 v37:=Tryz.zeroValue167
 t46:=Tryz.underlying231
 a46:=Tryz.isAgg231
 z46:=Tryz.sizeOf231
 v46:=Tryz.zeroValue231
 t51:=Tryz.underlying299
 a51:=Tryz.isAgg299
 z51:=Tryz.sizeOf299
 v51:=Tryz.zeroValue299
 t53:=Tryz.underlying301
 a53:=Tryz.isAgg301
 z53:=Tryz.sizeOf301
 v53:=Tryz.zeroValue301
 t171:=Tryz.underlying315
 a171:=Tryz.isAgg315
 z171:=Tryz.sizeOf315
 v171:=Tryz.zeroValue315
 t173:=Tryz.underlying317
 a173:=Tryz.isAgg317
 z173:=Tryz.sizeOf317
 v173:=Tryz.zeroValue317
 t212:=Tryz.underlying339
 a212:=Tryz.isAgg339
 z212:=Tryz.sizeOf339
 v212:=Tryz.zeroValue339
 t213:=Tryz.underlying340
 a213:=Tryz.isAgg340
 z213:=Tryz.sizeOf340
 t232:=Tryz.underlying360
 a232:=Tryz.isAgg360
 z232:=Tryz.sizeOf360
 v232:=Tryz.zeroValue360
 t233:=Tryz.underlying361
 a233:=Tryz.isAgg361
 z233:=Tryz.sizeOf361
 v233:=Tryz.zeroValue361
 g17:=by kernel_rfl
 g18:=by kernel_rfl
 g19:=by kernel_rfl
 i0:=by kernel_rfl
 i2:=by kernel_rfl
 i3:=by kernel_rfl
 i4:=by kernel_rfl
 i5:=by kernel_rfl
 i9:=by kernel_rfl
 i20:=by kernel_rfl
 i37:=by kernel_rfl
 i46:=by kernel_rfl
 i51:=by kernel_rfl
 i53:=by kernel_rfl
 i171:=by kernel_rfl
 i173:=by kernel_rfl
 i212:=by kernel_rfl
 i232:=by kernel_rfl
 i233:=by kernel_rfl
 m17:=by kernel_rfl
 m18:=by kernel_rfl
 m19:=by kernel_rfl }
def Tryz.laysValid_ren:Go.Shelf.Ren:=⟨fun | 196=>222 | 259=>279 | n=>n,fun | 9=>9 | 4=>4 | 3=>3 | 5=>5 | 12=>12 | 119=>279 | 0=>0 | 46=>231 | 139=>282 | 138=>281 | 53=>301 | n=>n,fun | 3=>2 | 4=>3 | n=>n⟩
theorem Tryz.laysValid:Go.Proofs.Lays.n196 Tryz.prog Tryz.laysValid_ren:={
 mixed:=by kernel_rfl
 f196:=Tryz.func222.trans (congrArg some (by kernel_rfl))
 f259:=Tryz.func279.trans (congrArg some (by kernel_rfl))
 t0:=Tryz.underlying0
 a0:=Tryz.isAgg0
 z0:=Tryz.sizeOf0
 v0:=Tryz.zeroValue0
 t3:=Tryz.underlying3
 a3:=Tryz.isAgg3
 z3:=Tryz.sizeOf3
 v3:=Tryz.zeroValue3
 t4:=Tryz.underlying4
 a4:=Tryz.isAgg4
 z4:=Tryz.sizeOf4
 v4:=Tryz.zeroValue4
 t5:=Tryz.underlying5
 a5:=Tryz.isAgg5
 z5:=Tryz.sizeOf5
 v5:=Tryz.zeroValue5
 t9:=Tryz.underlying9
 a9:=Tryz.isAgg9
 z9:=Tryz.sizeOf9
 v9:=Tryz.zeroValue9
 t12:=Tryz.underlying12
 a12:=Tryz.isAgg12
 z12:=Tryz.sizeOf12
 v12:=Tryz.zeroValue12
 t46:=Tryz.underlying231
 a46:=Tryz.isAgg231
 z46:=Tryz.sizeOf231
 v46:=Tryz.zeroValue231
 t53:=Tryz.underlying301
 a53:=Tryz.isAgg301
 z53:=Tryz.sizeOf301
 v53:=Tryz.zeroValue301
 t119:=Tryz.underlying279
 a119:=Tryz.isAgg279
 z119:=Tryz.sizeOf279
 t138:=Tryz.underlying281
 a138:=Tryz.isAgg281
 z138:=Tryz.sizeOf281
 v138:=Tryz.zeroValue281
 t139:=Tryz.underlying282
 a139:=Tryz.isAgg282
 z139:=Tryz.sizeOf282
 v139:=Tryz.zeroValue282
 g3:=by kernel_rfl
 g4:=by kernel_rfl }
end Go.Proofs
namespace Go.Proofs.YtmcnjijeocmkgaaGreatDoor
open Go Go.RowKit Go.Ev
@[go_sem] theorem Zjl:EX Tryz.prog 103=none∧EX Tryz.prog 113=none∧EX Tryz.prog 124=none∧EX Tryz.prog 129=none∧EX Tryz.prog 132=none∧EX Tryz.prog 146=none∧EX Tryz.prog 153=none∧EX Tryz.prog 165=none∧EX Tryz.prog 167=none∧EX Tryz.prog 189=some (11,1,false)∧EX Tryz.prog 22=none∧EX Tryz.prog 23=none:=by (repeat' apply Ae)<;>kernel_rfl
@[go_sem] theorem ZjO:EX Tryz.prog 24=none∧EX Tryz.prog 258=none∧EX Tryz.prog 259=some (11,8,true)∧EX Tryz.prog 26=none∧EX Tryz.prog 31=none∧EX Tryz.prog 32=none∧EX Tryz.prog 34=none∧EX Tryz.prog 47=none∧EX Tryz.prog 49=none∧EX Tryz.prog 63=none∧EX Tryz.prog 65=none∧EX Tryz.prog 67=none:=by (repeat' apply Ae)<;>kernel_rfl
@[go_sem] theorem ZjR:EX Tryz.prog 71=none∧EX Tryz.prog 73=none∧EX Tryz.prog 81=none∧EX Tryz.prog 83=none∧EX Tryz.prog 87=none∧EX Tryz.prog 9=none∧EX Tryz.prog 95=none∧LR Tryz.prog 4=true∧JO Tryz.prog 167=true∧JO Tryz.prog 21=false∧JO Tryz.prog 231=false∧JO Tryz.prog 3=false:=by (repeat' apply Ae)<;>kernel_rfl
@[go_sem] theorem Zat:Lr Tryz.prog 113=some (146,3,true,32):=by kernel_rfl
@[go_sem] theorem OL:Lr Tryz.prog 22=some (9,1,false,16):=by kernel_rfl
@[go_sem] theorem ZW:Lr Tryz.prog 23=some (26,7,true,104):=by kernel_rfl
@[go_sem] theorem TM:Lr Tryz.prog 24=some (95,11,true,160):=by kernel_rfl
@[go_sem] theorem LM:Lr Tryz.prog 31=some (34,6,true,88):=by kernel_rfl
@[go_sem] theorem Zdm:Lr Tryz.prog 32=some (81,7,true,104):=by kernel_rfl
@[go_sem] theorem ZB:Lr Tryz.prog 47=some (67,6,true,96):=by kernel_rfl
@[go_sem] theorem Zc:Lr Tryz.prog 63=some (65,5,true,80):=by kernel_rfl
@[go_sem] theorem Wv:Lr Tryz.prog 71=some (113,1,false,24):=by kernel_rfl
@[go_sem] theorem Zjd:JO Tryz.prog 9=false∧Lr Tryz.prog 129=some (41,1,false,8)∧Lr Tryz.prog 165=some (3,1,false,8)∧Lr Tryz.prog 167=some (5,1,false,1)∧Lr Tryz.prog 189=none∧Lr Tryz.prog 259=none∧Lr Tryz.prog 73=some (49,1,true,24)∧Lr Tryz.prog 83=some (87,2,true,24)∧Lr Tryz.prog 9=none:=by (repeat' apply Ae)<;>kernel_rfl
@[go_sem] theorem ZeI (xs ys:List AV):Nn Tryz.prog .eql 146 xs ys=(obK [(some .i64,false),(some .i64,false),(none,true)] xs ys,Ni xs ys):=V0 (by kernel_rfl) xs ys
@[go_sem] theorem Zek (xs ys:List AV):Nn Tryz.prog .neq 146 xs ys=(obK [(some .i64,false),(some .i64,false),(none,true)] xs ys,!Ni xs ys):=ZbU (by kernel_rfl) xs ys
@[go_sem] theorem Zgc (xs ys:List AV):Nn Tryz.prog .eql 87 xs ys=(obK [(none,true),(some .i64,false)] xs ys,Ni xs ys):=V0 (by kernel_rfl) xs ys
@[go_sem] theorem Zht:CN Tryz.prog 124 1=some (1,1,false)∧CN Tryz.prog 132 2=some (8,1,false)∧CN Tryz.prog 146 0=some (0,1,false)∧CN Tryz.prog 146 1=some (1,1,false)∧CN Tryz.prog 146 2=some (2,1,false)∧CN Tryz.prog 258 1=some (1,1,false)∧CN Tryz.prog 258 2=some (2,1,false)∧CN Tryz.prog 258 3=some (3,1,false)∧CN Tryz.prog 258 4=some (4,1,false)∧CN Tryz.prog 258 5=some (5,1,false)∧CN Tryz.prog 258 6=some (6,1,false)∧CN Tryz.prog 258 7=some (7,1,false):=by (repeat' apply Ae)<;>kernel_rfl
@[go_sem] theorem Zit:CN Tryz.prog 26 0=some (0,1,false)∧CN Tryz.prog 26 1=some (1,1,false)∧CN Tryz.prog 26 2=some (2,1,false)∧CN Tryz.prog 26 3=some (3,1,false)∧CN Tryz.prog 26 4=some (4,1,false)∧CN Tryz.prog 26 5=some (5,1,false)∧CN Tryz.prog 26 6=some (6,1,false)∧CN Tryz.prog 28 0=some (0,7,true)∧CN Tryz.prog 28 1=some (7,7,true)∧CN Tryz.prog 34 0=some (0,1,false)∧CN Tryz.prog 34 1=some (1,1,false)∧CN Tryz.prog 34 2=some (2,1,false):=by (repeat' apply Ae)<;>kernel_rfl
@[go_sem] theorem Zh9:CN Tryz.prog 34 3=some (3,1,false)∧CN Tryz.prog 34 4=some (4,1,false)∧CN Tryz.prog 34 5=some (5,1,false)∧CN Tryz.prog 49 0=some (0,1,false)∧CN Tryz.prog 65 0=some (0,1,false)∧CN Tryz.prog 65 1=some (1,1,false)∧CN Tryz.prog 65 2=some (2,1,false)∧CN Tryz.prog 65 3=some (3,1,false)∧CN Tryz.prog 65 4=some (4,1,false)∧CN Tryz.prog 67 0=some (0,1,false)∧CN Tryz.prog 67 1=some (1,5,true)∧CN Tryz.prog 75 0=some (0,1,false):=by (repeat' apply Ae)<;>kernel_rfl
@[go_sem] theorem ZhY:CN Tryz.prog 75 1=some (1,1,false)∧CN Tryz.prog 81 0=some (0,1,false)∧CN Tryz.prog 81 1=some (1,6,true)∧CN Tryz.prog 95 0=some (0,1,false)∧CN Tryz.prog 95 1=some (1,1,false)∧CN Tryz.prog 95 2=some (2,1,false)∧CN Tryz.prog 95 3=some (3,7,true)∧CN Tryz.prog 95 4=some (10,1,false)∧Nq Tryz.prog 167=none∧Nq Tryz.prog 21=some .i32∧Nq Tryz.prog 231=some .u64∧Nq Tryz.prog 3=some .i64:=by (repeat' apply Ae)<;>kernel_rfl
@[go_sem] theorem Zko:Nq Tryz.prog 9=none∧CG Tryz.prog 103=some [(0,1),(1,1)]∧CG Tryz.prog 124=some [(0,1),(1,1),(2,7)]∧CG Tryz.prog 132=some [(0,1),(1,7),(8,1)]∧CG Tryz.prog 146=some [(0,1),(1,1),(2,1)]∧CG Tryz.prog 153=some []∧CG Tryz.prog 189=none∧CG Tryz.prog 258=some [(0,1),(1,1),(2,1),(3,1),(4,1),(5,1),(6,1),(7,1)]∧CG Tryz.prog 259=none∧CG Tryz.prog 26=some [(0,1),(1,1),(2,1),(3,1),(4,1),(5,1),(6,1)]∧CG Tryz.prog 34=some [(0,1),(1,1),(2,1),(3,1),(4,1),(5,1)]∧CG Tryz.prog 49=some [(0,1)]:=by (repeat' apply Ae)<;>kernel_rfl
@[go_sem] theorem Zhi:CG Tryz.prog 65=some [(0,1),(1,1),(2,1),(3,1),(4,1)]∧CG Tryz.prog 67=some [(0,1),(1,5)]∧CG Tryz.prog 81=some [(0,1),(1,6)]∧CG Tryz.prog 87=some [(0,1),(1,1)]∧CG Tryz.prog 95=some [(0,1),(1,1),(2,1),(3,7),(10,1)]∧EE Tryz.prog 113=false∧EE Tryz.prog 129=false∧EE Tryz.prog 165=false∧EE Tryz.prog 167=false∧EE Tryz.prog 189=false∧EE Tryz.prog 21=false∧EE Tryz.prog 22=false:=by (repeat' apply Ae)<;>kernel_rfl
@[go_sem] theorem ZjF:EE Tryz.prog 23=false∧EE Tryz.prog 231=false∧EE Tryz.prog 24=false∧EE Tryz.prog 259=false∧EE Tryz.prog 3=false∧EE Tryz.prog 31=false∧EE Tryz.prog 32=false∧EE Tryz.prog 47=false∧EE Tryz.prog 63=false∧EE Tryz.prog 71=false∧EE Tryz.prog 73=false∧EE Tryz.prog 83=false:=by (repeat' apply Ae)<;>kernel_rfl
@[go_sem] theorem Zkw:EE Tryz.prog 9=true∧G8 Tryz.prog 103=some (2,true)∧G8 Tryz.prog 109=some (1,false)∧G8 Tryz.prog 113=some (1,false)∧G8 Tryz.prog 122=some (1,false)∧G8 Tryz.prog 142=some (1,false)∧G8 Tryz.prog 146=some (3,true)∧G8 Tryz.prog 152=some (1,false)∧G8 Tryz.prog 153=some (0,true)∧G8 Tryz.prog 158=some (1,false)∧G8 Tryz.prog 189=some (11,true)∧G8 Tryz.prog 215=some (1,false):=by (repeat' apply Ae)<;>kernel_rfl
@[go_sem] theorem Zkc:G8 Tryz.prog 22=some (1,false)∧G8 Tryz.prog 23=some (1,false)∧G8 Tryz.prog 24=some (1,false)∧G8 Tryz.prog 253=some (1,false)∧G8 Tryz.prog 258=some (8,true)∧G8 Tryz.prog 259=some (88,true)∧G8 Tryz.prog 26=some (7,true)∧G8 Tryz.prog 28=some (14,true)∧G8 Tryz.prog 3=some (1,false)∧G8 Tryz.prog 31=some (1,false)∧G8 Tryz.prog 32=some (1,false)∧G8 Tryz.prog 34=some (6,true):=by (repeat' apply Ae)<;>kernel_rfl
@[go_sem] theorem tyT_4:G8 Tryz.prog 4=some (1,false)∧G8 Tryz.prog 41=some (1,false)∧G8 Tryz.prog 47=some (1,false)∧G8 Tryz.prog 49=some (1,true)∧G8 Tryz.prog 5=some (1,false)∧G8 Tryz.prog 63=some (1,false)∧G8 Tryz.prog 65=some (5,true)∧G8 Tryz.prog 67=some (6,true)∧G8 Tryz.prog 71=some (1,false)∧G8 Tryz.prog 73=some (1,false)∧G8 Tryz.prog 75=some (2,true)∧G8 Tryz.prog 81=some (7,true):=by (repeat' apply Ae)<;>kernel_rfl
@[go_sem] theorem N6:BB Tryz.prog 113=some [.list [] .full]:=by kernel_rfl
@[go_sem] theorem Vw:BB Tryz.prog 146=some [Am 0,Am 0,.val (.string ⟨#[]⟩)]:=by kernel_rfl
@[go_sem] theorem Zki:G8 Tryz.prog 83=some (1,false)∧G8 Tryz.prog 87=some (2,true)∧G8 Tryz.prog 9=some (1,false)∧G8 Tryz.prog 95=some (11,true)∧BB Tryz.prog 103=some [.val .nilFunc,.val (.bool false)]∧BB Tryz.prog 122=some [.val (.pointer none)]∧BB Tryz.prog 124=some [.list [] .full,.list [] .full,Am 0,Am 0,Am 0,Am 0,.list [] .full,.list [] .full,.list [] .full]∧BB Tryz.prog 132=some [.list [] .full,Am 0,Am 0,Am 0,Am 0,.list [] .full,.list [] .full,.list [] .full,.val (.bool false)]∧BB Tryz.prog 142=some [.val .nilFunc]∧BB Tryz.prog 152=some [.val (.map none)]∧BB Tryz.prog 153=some []∧BB Tryz.prog 189=some [.val .nilFunc,.val .nilFunc,.val .nilFunc,.val .nilFunc,.val .nilFunc,.val .nilFunc,.val .nilFunc,.val .nilFunc,.val .nilFunc,.val .nilFunc,.val .nilFunc]:=by (repeat' apply Ae)<;>kernel_rfl
@[go_sem] theorem TC:BB Tryz.prog 26=some [Am 0,Am 0,Am 0,Am 0,.list [] .full,.list [] .full,.list [] .full]:=by kernel_rfl
@[go_sem] theorem Ha:BB Tryz.prog 34=some [Am 0,Am 0,Am 0,.val (.string ⟨#[]⟩),.list [] .full,.list [] .full]:=by kernel_rfl
@[go_sem] theorem T0:BB Tryz.prog 65=some [Am 0,Am 0,.val (.string ⟨#[]⟩),.list [] .full,.list [] .full]:=by kernel_rfl
@[go_sem] theorem Tj:BB Tryz.prog 67=some [.val (.string ⟨#[]⟩),Am 0,Am 0,.val (.string ⟨#[]⟩),.list [] .full,.list [] .full]:=by kernel_rfl
@[go_sem] theorem Yf:BB Tryz.prog 81=some [.val (.string ⟨#[]⟩),Am 0,Am 0,Am 0,.val (.string ⟨#[]⟩),.list [] .full,.list [] .full]:=by kernel_rfl
@[go_sem] theorem Zic:BB Tryz.prog 215=some [.val .nilFunc]∧BB Tryz.prog 22=some [.list [] .full]∧BB Tryz.prog 253=some [.val .nilFunc]∧BB Tryz.prog 258=some [.val (.string ⟨#[]⟩),Am 0,Am 0,.val (.bool false),.val (.bool false),.val (.bool false),.val (.bool false),.val (.bool false)]∧BB Tryz.prog 259=some [.val (.string ⟨#[]⟩),Am 0,Am 0,.val (.bool false),.val (.bool false),.val (.bool false),.val (.bool false),.val (.bool false),.val (.string ⟨#[]⟩),Am 0,Am 0,.val (.bool false),.val (.bool false),.val (.bool false),.val (.bool false),.val (.bool false),.val (.string ⟨#[]⟩),Am 0,Am 0,.val (.bool false),.val (.bool false),.val (.bool false),.val (.bool false),.val (.bool false),.val (.string ⟨#[]⟩),Am 0,Am 0,.val (.bool false),.val (.bool false),.val (.bool false),.val (.bool false),.val (.bool false),.val (.string ⟨#[]⟩),Am 0,Am 0,.val (.bool false),.val (.bool false),.val (.bool false),.val (.bool false),.val (.bool false),.val (.string ⟨#[]⟩),Am 0,Am 0,.val (.bool false),.val (.bool false),.val (.bool false),.val (.bool false),.val (.bool false),.val (.string ⟨#[]⟩),Am 0,Am 0,.val (.bool false),.val (.bool false),.val (.bool false),.val (.bool false),.val (.bool false),.val (.string ⟨#[]⟩),Am 0,Am 0,.val (.bool false),.val (.bool false),.val (.bool false),.val (.bool false),.val (.bool false),.val (.string ⟨#[]⟩),Am 0,Am 0,.val (.bool false),.val (.bool false),.val (.bool false),.val (.bool false),.val (.bool false),.val (.string ⟨#[]⟩),Am 0,Am 0,.val (.bool false),.val (.bool false),.val (.bool false),.val (.bool false),.val (.bool false),.val (.string ⟨#[]⟩),Am 0,Am 0,.val (.bool false),.val (.bool false),.val (.bool false),.val (.bool false),.val (.bool false)]∧BB Tryz.prog 3=some [Am 0]∧BB Tryz.prog 4=some [.val (.bool false)]∧BB Tryz.prog 41=some [Am 0]∧BB Tryz.prog 49=some [.list [] .full]∧BB Tryz.prog 71=some [.list [] .full]∧BB Tryz.prog 83=some [.list [] .full]∧BB Tryz.prog 87=some [.val (.string ⟨#[]⟩),Am 0]:=by (repeat' apply Ae)<;>kernel_rfl
@[go_sem] theorem Me:BB Tryz.prog 9=some [.val (.string ⟨#[]⟩)]:=by kernel_rfl
@[go_sem] theorem NV:BB Tryz.prog 95=some [Am 0,.val (.string ⟨#[]⟩),Am 0,Am 0,Am 0,Am 0,Am 0,.list [] .full,.list [] .full,.list [] .full,.list [] .full]:=by kernel_rfl
theorem PH:Tryz.prog.follows .mixedOrders=true:=by kernel_rfl
inductive Vl where
 | mk (kind int scale:Int) (text:ByteArray) (list:List Vl) (fields:List (ByteArray × Vl))
inductive Ty where
 | mk (kind min max scale:Int) (words:List ByteArray) (elem:List Ty) (fields:List (Int × ByteArray × Int × Ty × List Vl))
abbrev Ln:List AV:=[Am 0,Am 0,Am 0,.val (.string ⟨#[]⟩),.list [] .full,.list [] .full]
namespace Vl
def kind:Vl→Int | mk k _ _ _ _ _=>k
def int:Vl→Int | mk _ i _ _ _ _=>i
def scale:Vl→Int | mk _ _ s _ _ _=>s
def text:Vl→ByteArray | mk _ _ _ t _ _=>t
def list:Vl→List Vl | mk _ _ _ _ l _=>l
def fields:Vl→List (ByteArray × Vl) | mk _ _ _ _ _ f=>f
end Vl
mutual
def Vl.size:Vl→Nat
 | .mk _ _ _ _ l f=>1+D8 l+EI f
def D8:List Vl→Nat
 | []=>0
 | v::r=>v.size+D8 r
def EI:List (ByteArray × Vl)→Nat
 | []=>0
 | (_,v)::r=>v.size+EI r
end
mutual
def Vl.cs:Vl→List AV
 | .mk k i s t l f=>[.val (.int .i64 k),.val (.int .i64 i),.val (.int .i64 s),.val (.string t),.list (Eo l) .none,.list (JR f) .none]
def Eo:List Vl→List AV
 | []=>[]
 | v::r => .agg v.cs::Eo r
def JR:List (ByteArray × Vl)→List AV
 | []=>[]
 | (n,v)::r => .agg (.val (.string n)::v.cs)::JR r
end
mutual
def Ty.size:Ty→Nat
 | .mk _ _ _ _ _ e f=>1+FR e+D2 f
def FR:List Ty→Nat
 | []=>0
 | t::r=>t.size+FR r
def D2:List (Int × ByteArray × Int × Ty × List Vl)→Nat
 | []=>0
 | (_,_,_,t,_)::r=>t.size+D2 r
end
mutual
def Ty.cs:Ty→List AV
 | .mk k lo hi s w e f=>[.val (.int .i64 k),.val (.int .i64 lo),.val (.int .i64 hi),.val (.int .i64 s),.list (w.map fun x => .val (.string x)) .none,.list (Nh e) .none,.list (IM f) .none]
def Nh:List Ty→List AV
 | []=>[]
 | t::r => .agg t.cs::Nh r
def IM:List (Int × ByteArray × Int × Ty × List Vl)→List AV
 | []=>[]
 | (n,s,d,t,l)::r => .agg (.val (.int .i64 n) :: .val (.string s) :: .val (.int .i64 d)::(t.cs++[.list (Eo l) .none]))::IM r
end
theorem ER:∀ l:List Vl,Eo l=l.map fun v => .agg v.cs
 | []=>rfl
 | v::r=>by simp [Eo,ER r]
theorem Ot:∀ l:List (ByteArray × Vl),JR l=l.map fun p => .agg (.val (.string p.1)::p.2.cs)
 | []=>rfl
 | (n,v)::r=>by simp [JR,Ot r]
@[go_sem] theorem Qd (l:List Vl):(Eo l).length=l.length:=by simp [ER]
@[go_sem] theorem WO (l:List (ByteArray × Vl)):(JR l).length=l.length:=by simp [Ot]
theorem Qr:∀ l:List Ty,Nh l=l.map fun v => .agg v.cs
 | []=>rfl
 | v::r=>by simp [Nh,Qr r]
theorem Pl:∀ l:List (Int × ByteArray × Int × Ty × List Vl),IM l=l.map fun p => .agg (Am p.1 :: .val (.string p.2.1)::Am p.2.2.1::(p.2.2.2.1.cs++[.list (Eo p.2.2.2.2) .none]))
 | []=>rfl
 | (n,s,d,t,l)::r=>by simp [IM,Pl r]
@[go_sem] theorem ZfL (l:List Ty):(Nh l).length=l.length:=by simp [Qr]
@[go_sem] theorem Zev (l:List (Int × ByteArray × Int × Ty × List Vl)):(IM l).length=l.length:=by simp [Pl]
theorem Vl.cs_eq (v:Vl):v.cs=[.val (.int .i64 v.kind),.val (.int .i64 v.int),.val (.int .i64 v.scale),.val (.string v.text),.list (Eo v.list) .none,.list (JR v.fields) .none]:=by cases v;rfl
@[go_sem] theorem Vl.cs_length (v:Vl):v.cs.length=6:=by cases v;rfl
@[go_sem] theorem Vl.cs_pub (v:Vl):v.cs.map AV.pubCell=v.cs:=by cases v;rfl
mutual
theorem Vl.under (nb nr nl:Nat):∀ v:Vl,∀ x∈v.cs,Under nb nr nl x
 | .mk k i s t l f=>by
  intro x a
  simp only [Vl.cs,List.mem_cons,List.not_mem_nil,or_false] at a
  rcases a with rfl | rfl | rfl | rfl | rfl | rfl
  ·exact .val _
  ·exact .val _
  ·exact .val _
  ·exact .val _
  ·exact .list (Jz nb nr nl l) trivial
  ·exact .list (LC nb nr nl f) trivial
theorem Jz (nb nr nl:Nat):∀ l:List Vl,∀ x∈Eo l,Under nb nr nl x
 | []=>fun _ h=>by simp [Eo] at h
 | v::r=>by
  intro x hx
  simp only [Eo,List.mem_cons] at hx
  rcases hx with rfl | hx
  ·exact .agg (Vl.under nb nr nl v)
  ·exact Jz nb nr nl r x hx
theorem LC (nb nr nl:Nat):∀ l:List (ByteArray × Vl),∀ x∈JR l,Under nb nr nl x
 | []=>fun _ h=>by simp [JR] at h
 | (n,v)::r=>by
  intro x hx
  simp only [JR,List.mem_cons] at hx
  rcases hx with rfl | hx
  ·refine .agg fun y hy=>?_
   rcases List.mem_cons.1 hy with rfl | hy
   ·exact .val _
   ·exact Vl.under nb nr nl v y hy
  ·exact LC nb nr nl r x hx
end
mutual
theorem Ty.under (nb nr nl:Nat):∀ v:Ty,∀ x∈v.cs,Under nb nr nl x
 | .mk k lo hi s w e f=>by
  intro x a
  simp only [Ty.cs,List.mem_cons,List.not_mem_nil,or_false] at a
  rcases a with rfl | rfl | rfl | rfl | rfl | rfl | rfl
  ·exact .val _
  ·exact .val _
  ·exact .val _
  ·exact .val _
  ·refine .list (fun y b=>?_) trivial
   obtain ⟨z,_,rfl⟩:=List.mem_map.1 b
   exact .val _
  ·exact .list (NC nb nr nl e) trivial
  ·exact .list (J0 nb nr nl f) trivial
theorem NC (nb nr nl:Nat):∀ l:List Ty,∀ x∈Nh l,Under nb nr nl x
 | []=>fun _ h=>by simp [Nh] at h
 | v::r=>by
  intro x hx
  simp only [Nh,List.mem_cons] at hx
  rcases hx with rfl | hx
  ·exact .agg (Ty.under nb nr nl v)
  ·exact NC nb nr nl r x hx
theorem J0 (nb nr nl:Nat):∀ l:List (Int × ByteArray × Int × Ty × List Vl),∀ x∈IM l,Under nb nr nl x
 | []=>fun _ h=>by simp [IM] at h
 | (n,s,d,t,l)::r=>by
  intro x hx
  simp only [IM,List.mem_cons] at hx
  rcases hx with rfl | hx
  ·refine .agg fun y hy=>?_
   simp only [List.mem_cons,List.mem_append,List.not_mem_nil,or_false] at hy
   rcases hy with rfl | rfl | rfl | hy | rfl
   ·exact .val _
   ·exact .val _
   ·exact .val _
   ·exact Ty.under nb nr nl t y hy
   ·exact .list (Jz nb nr nl l) trivial
  ·exact J0 nb nr nl r x hx
end
@[go_sem] theorem Zji (nb nr nl:Nat) (v:Vl):Under nb nr nl (.agg v.cs)↔True:=iff_true_intro (.agg (v.under nb nr nl))
@[go_sem] theorem Zij (nb nr nl:Nat) (v:Ty):Under nb nr nl (.agg v.cs)↔True:=iff_true_intro (.agg (v.under nb nr nl))
@[go_sem] theorem Zgx (nb nr nl:Nat) (l:List Vl):(∀ x∈Eo l,Under nb nr nl x)↔True:=iff_true_intro (Jz nb nr nl l)
@[go_sem] theorem ZgP (nb nr nl:Nat) (l:List (ByteArray × Vl)):(∀ x∈JR l,Under nb nr nl x)↔True:=iff_true_intro (LC nb nr nl l)
@[go_sem] theorem Zgy (nb nr nl:Nat) (l:List Ty):(∀ x∈Nh l,Under nb nr nl x)↔True:=iff_true_intro (NC nb nr nl l)
@[go_sem] theorem Ze7 (nb nr nl:Nat) (l:List (Int × ByteArray × Int × Ty × List Vl)):(∀ x∈IM l,Under nb nr nl x)↔True:=iff_true_intro (J0 nb nr nl l)
theorem Ty.cs_eq (t:Ty):∃ k lo hi s w e f,t = .mk k lo hi s w e f:=by cases t;exact ⟨_,_,_,_,_,_,_,rfl⟩
@[go_sem] theorem Ty.cs_length (v:Ty):v.cs.length=7:=by cases v;rfl
@[go_sem] theorem Ty.cs_pub (v:Ty):v.cs.map AV.pubCell=v.cs:=by cases v;rfl
namespace Ty
def kind:Ty→Int | mk k _ _ _ _ _ _=>k
def min:Ty→Int | mk _ m _ _ _ _ _=>m
def max:Ty→Int | mk _ _ m _ _ _ _=>m
def scale:Ty→Int | mk _ _ _ s _ _ _=>s
def words:Ty→List ByteArray | mk _ _ _ _ w _ _=>w
def elem:Ty→List Ty | mk _ _ _ _ _ e _=>e
def fields:Ty→List (Int × ByteArray × Int × Ty × List Vl) | mk _ _ _ _ _ _ f=>f
end Ty
section
variable (v:Vl) (t:Ty) (x d:AV) (l:List AV)
@[go_sem] theorem Vl.g0:v.cs.getD 0 d = .val (.int .i64 v.kind):=by cases v;rfl
@[go_sem] theorem Vl.g1:v.cs.getD 1 d = .val (.int .i64 v.int):=by cases v;rfl
@[go_sem] theorem Vl.g2:v.cs.getD 2 d = .val (.int .i64 v.scale):=by cases v;rfl
@[go_sem] theorem Vl.g3:v.cs.getD 3 d = .val (.string v.text):=by cases v;rfl
@[go_sem] theorem Vl.g4:v.cs.getD 4 d = .list (Eo v.list) .none:=by cases v;rfl
@[go_sem] theorem Vl.g5:v.cs.getD 5 d = .list (JR v.fields) .none:=by cases v;rfl
@[go_sem] theorem Vl.take6:v.cs.take 6=v.cs:=by cases v;rfl
@[go_sem] theorem Vl.take6a:(v.cs++l).take 6=v.cs:=by cases v;rfl
@[go_sem] theorem Ty.g0:t.cs.getD 0 d = .val (.int .i64 t.kind):=by cases t;rfl
@[go_sem] theorem Ty.g1:t.cs.getD 1 d = .val (.int .i64 t.min):=by cases t;rfl
@[go_sem] theorem Ty.g2:t.cs.getD 2 d = .val (.int .i64 t.max):=by cases t;rfl
@[go_sem] theorem Ty.g3:t.cs.getD 3 d = .val (.int .i64 t.scale):=by cases t;rfl
@[go_sem] theorem Ty.g4:t.cs.getD 4 d = .list (t.words.map fun x => .val (.string x)) .none:=by cases t;rfl
@[go_sem] theorem Ty.g5:t.cs.getD 5 d = .list (Nh t.elem) .none:=by cases t;rfl
@[go_sem] theorem Ty.g6:t.cs.getD 6 d = .list (IM t.fields) .none:=by cases t;rfl
@[go_sem] theorem Ty.take7:t.cs.take 7=t.cs:=by cases t;rfl
@[go_sem] theorem Ty.a0:(t.cs++l).getD 0 d = .val (.int .i64 t.kind):=by cases t;rfl
@[go_sem] theorem Ty.a1:(t.cs++l).getD 1 d = .val (.int .i64 t.min):=by cases t;rfl
@[go_sem] theorem Ty.a2:(t.cs++l).getD 2 d = .val (.int .i64 t.max):=by cases t;rfl
@[go_sem] theorem Ty.a3:(t.cs++l).getD 3 d = .val (.int .i64 t.scale):=by cases t;rfl
@[go_sem] theorem Ty.a4:(t.cs++l).getD 4 d = .list (t.words.map fun x => .val (.string x)) .none:=by cases t;rfl
@[go_sem] theorem Ty.a5:(t.cs++l).getD 5 d = .list (Nh t.elem) .none:=by cases t;rfl
@[go_sem] theorem Ty.a6:(t.cs++l).getD 6 d = .list (IM t.fields) .none:=by cases t;rfl
@[go_sem] theorem Ty.a7:(t.cs++[x]).getD 7 d=x:=by cases t;rfl
@[go_sem] theorem Ty.take7a:(t.cs++l).take 7=t.cs:=by cases t;rfl
@[go_sem] theorem Ty.take8a:(t.cs++[x]).take 8=t.cs++[x]:=by cases t;rfl
@[go_sem] theorem Ty.drop7a:(t.cs++l).drop 7=l:=by cases t;rfl
attribute [go_sem] List.length_append List.map_append
end
end Go.Proofs.YtmcnjijeocmkgaaGreatDoor
namespace Go.Proofs.YtmcnjijeocmkgaaGreatDoor
open Go Go.RowKit Go.Ev
theorem Zaj (t:ByteArray):Gn t ⟨#[]⟩=decide (t.size=0):=by
 by_cases h:t.size=0
 ·have:t=⟨#[]⟩:=by
   obtain ⟨⟨l⟩⟩:=t
   simp [ByteArray.size] at h
   subst h;rfl
  subst this
  rfl
 ·simp only [h,decide_false]
  obtain ⟨⟨l⟩⟩:=t
  simp [ByteArray.size] at h
  simp [Gn,h]
theorem Qb (w0:World) (B:Ao) (Rw:Av) (L:As) (n low high:Int) :
  ACalls Tryz.prog w0 251 [Am n,Am low,Am high] ⟨B,Rw,L⟩ fun r st=>r = .val (.bool (decide (low≤n)&&decide (n≤high)))∧st=⟨B,Rw,L⟩:=by
 refine ACalls.finP (FN (rs:=[.tmp 6]) Tryz.func251 rfl rfl Tryz.ntmps251 (AZ Tryz.func251 rfl (by decide)) (Nat.le_of_ble_eq_true rfl) ?_)
 intro M0 W0 f d e a g
 simp only [AA]
 apply An;intro K1 c
 apply Ax 1 [0,1,2]
 rw [Ap];simp +decide only [go_sem]
 (repeat' apply Ae)<;>first | refine c _ _ ?_ | exact cl
 clear c
 apply An;intro K2 b
 apply Ax 1 [6]
 rw [Ap];simp +decide only [go_sem]
 (repeat' apply Ae)<;>first | refine b _ _ ?_ | exact cl
 clear b
 apply A1;simp +decide only [go_sem]
 refine Qm a pf pf pf (by simp +decide only [go_sem]) ⟨?_,rfl⟩
 rfl
def Lh (c:Nat):Bool:=decide (97≤c)&&decide (c≤122)
def SC (c:Nat):Bool:=Lh c||decide (c=95)||(decide (48≤c)&&decide (c≤57))
def Zaz (l:List UInt8):Bool:=decide (1≤l.length∧l.length≤32)&&Lh (l.headD 0).toNat&&l.all fun c=>SC c.toNat
def EZ (s:ByteArray):Bool:=Zaz s.data.toList
theorem S4 (s:ByteArray) (k:Nat) (h:k<s.size):s.get! k=s.data.toList[k]'(by simpa using h):=by
 rw [Utf8W.get!_of_lt s k h];rfl
theorem ZdZ (s:ByteArray) (f:UInt8→Bool) (k:Nat) (h:k<s.size):(s.data.toList.drop k).all f=(f (s.get! k)&&(s.data.toList.drop (k+1)).all f):=by
 rw [List.drop_eq_getElem_cons (by simpa using h),S4 s k h];rfl
theorem ZdD (s:ByteArray) (h:0<s.size):s.data.toList.headD 0=s.get! 0:=by
 rw [S4 s 0 h]
 have b:0<s.data.toList.length:=by simpa using h
 have:∀ (l:List UInt8) (q:0<l.length),l.headD 0=l[0]:=fun l q=>by
  cases l with
  | nil=>simp at q
  | cons a l=>rfl
 exact this _ b
theorem ZbS (s:ByteArray) (k:Nat) (h:k<s.size):(Gk s.data.toList).getD k .junk = .val (.int .u8 (s.get! k).toNat):=by
 have a:s.data.toList.length=s.size:=by simp
 rw [S4 s k h]
 simp [Gk,a,h,List.getD]
theorem WG (s:ByteArray):(Gk s.data.toList).length=s.size:=by
 have a:s.data.toList.length=s.size:=by simp
 simp [Gk,a]
theorem Zbg (c:Nat):SC c=decide ((97≤(c:Int)∧(c:Int)≤122)∨(c:Int)=95∨(48≤(c:Int)∧(c:Int)≤57)):=by
 rw [Bool.eq_iff_iff]
 simp [SC,Lh]
 omega
theorem RB (c:Nat):Lh c=decide (97≤(c:Int)∧(c:Int)≤122):=by
 rw [Bool.eq_iff_iff]
 simp [Lh]
 omega
theorem Un (s:ByteArray) (h1:1≤s.size) (h2:s.size≤32):EZ s=(Lh (s.get! 0).toNat&&s.data.toList.all fun c=>SC c.toNat):=by
 have a:s.data.toList.length=s.size:=by simp
 rw [EZ,Zaz,Ad,ZdD s h1];rfl
theorem Zag (s:ByteArray) (h:¬ (1≤s.size∧s.size≤32)):EZ s=false:=by
 have a:s.data.toList.length=s.size:=by simp
 rw [EZ,Zaz,Ac];rfl
theorem Ol (w0:World) (B:Ao) (Rw:Av) (L:As) (s:ByteArray) (hs:s.size≤maxLen) :
  ACalls Tryz.prog w0 198 [.val (.string s)] ⟨B,Rw,L⟩ fun r st=>r = .val (.bool (EZ s))∧st=⟨B,Rw,L⟩:=by
 refine ACalls.finP (FN (rs:=[.tmp 2]) Tryz.func198 rfl rfl Tryz.ntmps198 (AZ Tryz.func198 rfl (by decide)) (Nat.le_of_ble_eq_true rfl) ?_)
 intro M0 W0 O K F b Q
 unfold maxLen at hs
 have H:s.data.toList.length=s.size:=by simp
 have f:=Zaj s
 obtain ⟨d,hd⟩:∃ d,(s.get! 0).toNat=d:=⟨_,rfl⟩
 have a:=WG s
 simp only [AA]
 apply An;intro K1 z
 apply Ax 1 [0]
 rw [Ap];simp +decide only [go_sem,hd,a,f]
 (repeat' apply Ae)<;>first | refine z _ _ ?_ | exact cl
 clear z
 apply An;intro K2 t
 apply An;intro K3 C
 apply Ax 1 [0,21]
 rw [Ap];simp +decide only [go_sem,hd,a,f]
 (repeat' apply Ae)<;>first | refine C _ _ ?_ | exact cl
 clear C
 refine A4 _ (by simp +decide only [go_sem]) (by simp +decide only [go_sem];rfl) (fun g=>?_) (fun g=>?_)
 ·simp only [Bool.or_eq_true,Bool.or_eq_false_iff,Bool.and_eq_true,Bool.and_eq_false_iff,decide_eq_true_eq,decide_eq_false_iff_not,Bool.not_eq_true',Bool.not_eq_false',Bool.not_eq_eq_eq_not,Bool.not_true,Bool.not_false] at g
  apply An;intro K4 v
  apply Ax 1 [2]
  rw [Ap];simp +decide only [go_sem,hd,a,f]
  (repeat' apply Ae)<;>first | refine v _ _ ?_ | exact cl
  clear v
  apply A1;simp +decide only [go_sem]
  refine Qm b pf pf pf (by simp +decide only [go_sem]) ⟨?_,rfl⟩
  rw [UC]
  congr 2
  symm
  by_cases hz:1≤s.size∧s.size≤32
  ·rw [Un s hz.1 hz.2,hd,RB,Ac];rfl
  ·exact Zag s hz
 simp only [Bool.or_eq_true,Bool.or_eq_false_iff,Bool.and_eq_true,Bool.and_eq_false_iff,decide_eq_true_eq,decide_eq_false_iff_not,Bool.not_eq_true',Bool.not_eq_false',Bool.not_eq_eq_eq_not,Bool.not_true,Bool.not_false] at g
 have J:1≤s.size∧s.size≤32∧97≤d∧d≤122:=by omega
 clear g
 have h:Lh d=true:=by rw [RB];exact Ah (by omega)
 apply Fv;simp only [go_sem]
 (repeat' apply Ae)<;>first | refine t _ _ ?_ | exact cl
 clear t
 apply An;intro K5 q
 apply An;intro K6 y
 apply Ax 1 [23,24,25]
 rw [Ap];simp +decide only [go_sem,hd,a,f]
 (repeat' apply Ae)<;>first | refine y _ _ ?_ | exact cl
 clear y
 apply Aq
 refine AC (fun m e st=>∃ k:Nat,k≤s.size∧m=s.size-k∧Lh d=true∧(s.data.toList.all fun c=>SC c.toNat)=((s.data.toList.drop k).all fun c=>SC c.toNat)∧e=[(23,true,.list (Gk s.data.toList) .none),(24,true,Am s.size),(25,true,Am k)]∧st=⟨B,Rw,L⟩) s.size ⟨0,by omega,rfl,by assumption,rfl,rfl,rfl⟩ ?_
 rintro m e st ⟨k,N,rfl,G,p,rfl,rfl⟩ KR E
 obtain ⟨c,hc⟩:∃ c,(s.get! k).toNat=c:=⟨_,rfl⟩
 obtain ⟨x,hn1⟩:∃ x,(Gk s.data.toList).getD k .junk=x:=⟨_,rfl⟩
 apply An;intro K7 D
 apply Ax 1 [23,24,25,26]
 rw [Ap];simp +decide only [go_sem,hn1,a]
 (repeat' apply Ae)<;>first | refine D _ _ ?_ | exact cl
 clear D
 apply An;intro K8 u
 refine A4 _ (by simp +decide only [go_sem]) (by simp +decide only [go_sem];rfl) (fun g=>?_) (fun g=>?_)
 rotate_left
 ·simp only [Bool.or_eq_true,Bool.or_eq_false_iff,Bool.and_eq_true,Bool.and_eq_false_iff,decide_eq_true_eq,decide_eq_false_iff_not,Bool.not_eq_true',Bool.not_eq_false',Bool.not_eq_eq_eq_not,Bool.not_true,Bool.not_false] at g
  apply Ks;simp +decide only [go_sem,hn1,a]
  (repeat' apply Ae)<;>first | refine q _ _ ?_ | exact cl
  clear q
  apply An;intro K9 w
  apply Ax 1 [2]
  rw [Ap];simp +decide only [go_sem,hn1,a]
  (repeat' apply Ae)<;>first | refine w _ _ ?_ | exact cl
  clear w
  apply A1;simp +decide only [go_sem]
  refine Qm b pf pf pf (by simp +decide only [go_sem]) ⟨?_,rfl⟩
  rw [UC]
  have:k=s.size:=by omega
  subst this
  rw [Un s (by omega) (by omega),hd,h,p,List.drop_eq_nil_of_le (by omega)];rfl
 simp only [Bool.or_eq_true,Bool.or_eq_false_iff,Bool.and_eq_true,Bool.and_eq_false_iff,decide_eq_true_eq,decide_eq_false_iff_not,Bool.not_eq_true',Bool.not_eq_false',Bool.not_eq_eq_eq_not,Bool.not_true,Bool.not_false] at g
 have i:=ZdZ s (fun c=>SC c.toNat) k (by omega)
 simp only [hc] at i
 rw [Zbg c] at i
 have hn2:=ZbS s k (by omega)
 rw [hn1,hc] at hn2
 subst hn2
 apply Fv;simp only [go_sem]
 (repeat' apply Ae)<;>first | refine u _ _ ?_ | exact cl
 clear u
 apply An;intro K10 l
 apply Aq
 apply An;intro K11 o
 apply Ax 1 [4,23,24,25]
 rw [Ap];simp +decide only [go_sem,hn1,a]
 (repeat' apply Ae)<;>first | refine o _ _ ?_ | exact cl
 clear o
 apply An;intro K12 n
 apply Ax 1 [23,24,25,46]
 rw [Ap];simp +decide only [go_sem,hn1,a]
 (repeat' apply Ae)<;>first | refine n _ _ ?_ | exact cl
 clear n
 refine A4 _ (by simp +decide only [go_sem]) (by simp +decide only [go_sem];rfl) (fun g=>?_) (fun g=>?_)
 ·simp only [Bool.or_eq_true,Bool.or_eq_false_iff,Bool.and_eq_true,Bool.and_eq_false_iff,decide_eq_true_eq,decide_eq_false_iff_not,Bool.not_eq_true',Bool.not_eq_false',Bool.not_eq_eq_eq_not,Bool.not_true,Bool.not_false] at g
  apply An;intro K13 j
  apply Ax 1 [2]
  rw [Ap];simp +decide only [go_sem,hn1,a]
  (repeat' apply Ae)<;>first | refine j _ _ ?_ | exact cl
  clear j
  apply A1;simp +decide only [go_sem]
  refine Qm b pf pf pf (by simp +decide only [go_sem]) ⟨?_,rfl⟩
  rw [UC]
  rw [Un s (by omega) (by omega),hd,h,p,i,Ac];rfl
 simp only [Bool.or_eq_true,Bool.or_eq_false_iff,Bool.and_eq_true,Bool.and_eq_false_iff,decide_eq_true_eq,decide_eq_false_iff_not,Bool.not_eq_true',Bool.not_eq_false',Bool.not_eq_eq_eq_not,Bool.not_true,Bool.not_false] at g
 apply Fv;simp only [go_sem]
 (repeat' apply Ae)<;>first | refine l _ _ ?_ | exact cl
 clear l
 apply Ax 1 [23,24,25]
 rw [Ap];simp +decide only [go_sem,hn1,a]
 (repeat' apply Ae)<;>first | refine E (s.size-(k+1)) _ _ ?_ ⟨k+1,?_,rfl,?_,?_,?_,rfl⟩ | exact cl
 ·omega
 ·omega
 ·exact h
 ·rw [p,i,Ad];rfl
 ·simp
theorem ZbQ (w0:World) (st:St) (hT:Lib.Utf8Tabs 2 3 w0) (s:ByteArray) (hs:s.size≤maxLen):ACalls Tryz.prog w0 222 [.val (.string s)] st fun v s'=>v = .val (.bool (Lib.validD s.data.toList))∧s'=st :=
 JX (AZ Tryz.func222 rfl (by decide)) rfl fun M w b c a=>by
  have:=L9 (us:=[.string s]) a
  subst this
  exact Any.utf8_ValidString Tryz.laysValid s w hs (Utf8Tabs_below hT c)
def BK (v:Vl):List Vl:=if v.kind=8∨v.kind=10 then v.list else if v.kind=9 then v.fields.map (·.2) else []
@[go_sem] theorem ZgU (l:List Vl):(∀ y∈Eo l,y.cells.length=6)↔True:=iff_true_intro (by
 rw [ER];intro y a
 obtain ⟨v,_,rfl⟩:=List.mem_map.1 a
 exact v.cs_length)
@[go_sem] theorem Zjs (l:List Vl):(∀ y∈Eo l,y.cells.length=6∧AX y=true)↔True:=iff_true_intro (by
 rw [ER];intro y a
 obtain ⟨v,_,rfl⟩:=List.mem_map.1 a
 exact ⟨v.cs_length,rfl⟩)
@[go_sem] theorem Zir (l:List Vl):(Eo l).map AV.pub=Eo l:=by
 rw [ER,List.map_map]
 refine List.map_congr_left fun v _=>?_
 simp only [Function.comp,AV.pub,Vl.cs_pub]
theorem Zbp (l:List Vl) (k:Nat) (h:k<l.length):(Eo l).getD k .junk = .agg (l[k]).cs:=by
 simp [ER,List.getD,h]
theorem Zbr (l:List (ByteArray × Vl)) (k:Nat) (h:k<l.length):(JR l).getD k .junk = .agg (.val (.string (l[k]).1)::(l[k]).2.cs):=by
 simp [Ot,List.getD,h]
theorem Zv (l:List (ByteArray × Vl)) (k:Nat) (h:k<l.length):Eo ((l.take (k+1)).map (·.2))=Eo ((l.take k).map (·.2))++[.agg (l[k]).2.cs]:=by
 rw [ER,ER,List.take_succ_eq_append_getElem h,List.map_append,List.map_append];rfl
theorem X3 (l:List (ByteArray × Vl)) (k:Nat) (h:k≤l.length):(Eo ((l.take k).map (·.2))).length=k:=by
 rw [Qd,List.length_map,List.length_take];omega
theorem Zdj (w0:World) (B:Ao) (Rw:Av) (L:As) (v:Vl) (hl:v.list.length≤1000000000000) (hf:v.fields.length≤1000000000000) :
  ACalls Tryz.prog w0 280 [.agg v.cs] ⟨B,Rw,L⟩ fun r st=>r = .list (Eo (BK v)) .none∧st=⟨B,Rw,L⟩:=by
 refine ACalls.finP (FN (rs:=[.tmp 2]) Tryz.func280 rfl rfl Tryz.ntmps280 (AZ Tryz.func280 rfl (by decide)) (Nat.le_of_ble_eq_true rfl) ?_)
 intro M0 W0 U O K a V
 have Q:=WO v.fields
 simp only [AA]
 apply An;intro K1 E
 apply Ax 1 [1]
 rw [Ap];simp +decide only [go_sem]
 (repeat' apply Ae)<;>first | refine E _ _ ?_ | exact cl
 clear E
 apply An;intro K2 z
 apply An;intro K3 F
 apply Ax 1 [1,7]
 rw [Ap];simp +decide only [go_sem]
 (repeat' apply Ae)<;>first | refine F _ _ ?_ | exact cl
 clear F
 apply Aq
 apply An;intro K4 f
 apply An;intro K5 w
 apply Ax 1 [1,7,8]
 rw [Ap];simp +decide only [go_sem]
 (repeat' apply Ae)<;>first | refine w _ _ ?_ | exact cl
 clear w
 refine A4 _ (by simp +decide only [go_sem]) (by simp +decide only [go_sem];rfl) (fun b=>?_) (fun b=>?_)
 -- JOIN
 ·simp only [Bool.or_eq_true,Bool.or_eq_false_iff,Bool.and_eq_true,Bool.and_eq_false_iff,decide_eq_true_eq,decide_eq_false_iff_not,Bool.not_eq_true',Bool.not_eq_false',Bool.not_eq_eq_eq_not,Bool.not_true,Bool.not_false] at b
  apply Fv;simp only [go_sem]
  (repeat' apply Ae)<;>first | refine f _ _ ?_ | exact cl
  clear f
  refine A4 _ (by simp +decide only [go_sem]) (by simp +decide only [go_sem];rfl) (fun b=>?_) (fun b=>?_)
  ·simp only [Bool.or_eq_true,Bool.or_eq_false_iff,Bool.and_eq_true,Bool.and_eq_false_iff,decide_eq_true_eq,decide_eq_false_iff_not,Bool.not_eq_true',Bool.not_eq_false',Bool.not_eq_eq_eq_not,Bool.not_true,Bool.not_false] at b
   apply An;intro K6 D
   apply Ax 1 [2]
   rw [Ap];simp +decide only [go_sem]
   (repeat' apply Ae)<;>first | refine D _ _ ?_ | exact cl
   clear D
   apply A1;simp +decide only [go_sem]
   refine Qm a pf pf pf ?_ ⟨?_,rfl⟩
   ·simp +decide only [go_sem]
   ·simp only [go_sem]
    rw [BK,Ab]
  simp only [Bool.or_eq_true,Bool.or_eq_false_iff,Bool.and_eq_true,Bool.and_eq_false_iff,decide_eq_true_eq,decide_eq_false_iff_not,Bool.not_eq_true',Bool.not_eq_false',Bool.not_eq_eq_eq_not,Bool.not_true,Bool.not_false] at b
  omega
 simp only [Bool.or_eq_true,Bool.or_eq_false_iff,Bool.and_eq_true,Bool.and_eq_false_iff,decide_eq_true_eq,decide_eq_false_iff_not,Bool.not_eq_true',Bool.not_eq_false',Bool.not_eq_eq_eq_not,Bool.not_true,Bool.not_false] at b
 apply Ax 1 [1,7,8]
 rw [Ap];simp +decide only [go_sem]
 (repeat' apply Ae)<;>first | refine f _ _ ?_ | exact cl
 clear f
 refine A4 _ (by simp +decide only [go_sem]) (by simp +decide only [go_sem];rfl) (fun b=>?_) (fun b=>?_)
 ·simp only [Bool.or_eq_true,Bool.or_eq_false_iff,Bool.and_eq_true,Bool.and_eq_false_iff,decide_eq_true_eq,decide_eq_false_iff_not,Bool.not_eq_true',Bool.not_eq_false',Bool.not_eq_eq_eq_not,Bool.not_true,Bool.not_false] at b
  apply An;intro K17 t
  apply Ax 1 [2]
  rw [Ap];simp +decide only [go_sem]
  (repeat' apply Ae)<;>first | refine t _ _ ?_ | exact cl
  clear t
  apply A1;simp +decide only [go_sem]
  refine Qm a pf pf pf ?_ ⟨?_,rfl⟩
  ·simp +decide only [go_sem]
  ·simp only [go_sem]
   rw [BK,Ab]
 simp only [Bool.or_eq_true,Bool.or_eq_false_iff,Bool.and_eq_true,Bool.and_eq_false_iff,decide_eq_true_eq,decide_eq_false_iff_not,Bool.not_eq_true',Bool.not_eq_false',Bool.not_eq_eq_eq_not,Bool.not_true,Bool.not_false] at b
 apply An;intro K18 s
 apply Ax 1 [1,13]
 rw [Ap];simp +decide only [go_sem]
 (repeat' apply Ae)<;>first | refine s _ _ ?_ | exact cl
 clear s
 refine A4 _ (by simp +decide only [go_sem]) (by simp +decide only [go_sem];rfl) (fun b=>?_) (fun b=>?_)
 ·simp only [Bool.or_eq_true,Bool.or_eq_false_iff,Bool.and_eq_true,Bool.and_eq_false_iff,decide_eq_true_eq,decide_eq_false_iff_not,Bool.not_eq_true',Bool.not_eq_false',Bool.not_eq_eq_eq_not,Bool.not_true,Bool.not_false] at b
  apply An;intro K19 p
  apply Ax 1 [1,3]
  rw [Ap];simp +decide only [go_sem]
  (repeat' apply Ae)<;>first | refine p _ _ ?_ | exact cl
  clear p
  apply An;intro K20 l
  apply An;intro K21 h
  apply Ax 1 [3,16,17,18]
  rw [Ap];simp +decide only [go_sem]
  (repeat' apply Ae)<;>first | refine h _ _ ?_ | exact cl
  clear h
  apply Aq
  refine AC (fun m e st=>∃ (k:Nat) (o:Ev.Own) (r:Av) (X:Ao),k≤v.fields.length∧m=v.fields.length-k∧Grow Rw 6 (Eo ((v.fields.take k).map (·.2))) o r ∧
   e=[(3,true,.list (Eo ((v.fields.take k).map (·.2))) o),(16,true,.list (JR v.fields) .none),(17,true,Am v.fields.length),(18,true,Am k)]∧st=⟨B++X,Rw++r,L⟩) v.fields.length ⟨0,.full,[],[v.cs],by omega,rfl,.nil _ _,rfl,by simp⟩ ?_
  rintro m e st ⟨k,o,r,X,N,rfl,H,rfl,rfl⟩ KR J
  obtain ⟨x,hx⟩:∃ x,(JR v.fields).getD k .junk=x:=⟨_,rfl⟩
  have d:=U0 (P:=Tryz.prog) LM (by rw [Ha];rfl) (by decide) H
  have c:=X3 v.fields k N
  apply An;intro K22 j
  apply Ax 1 [3,16,17,18,19]
  rw [Ap];simp +decide only [go_sem,hx,d,c]
  (repeat' apply Ae)<;>first | refine j _ _ ?_ | exact cl
  clear j
  apply An;intro K23 q
  refine A4 _ (by simp +decide only [go_sem]) (by simp +decide only [go_sem];rfl) (fun b=>?_) (fun b=>?_)
  rotate_left
  ·simp only [Bool.or_eq_true,Bool.or_eq_false_iff,Bool.and_eq_true,Bool.and_eq_false_iff,decide_eq_true_eq,decide_eq_false_iff_not,Bool.not_eq_true',Bool.not_eq_false',Bool.not_eq_eq_eq_not,Bool.not_true,Bool.not_false] at b
   apply Ks;simp +decide only [go_sem,hx,d,c]
   (repeat' apply Ae)<;>first | refine l _ _ ?_ | exact cl
   clear l
   apply An;intro K24 i
   apply Ax 1 [2]
   rw [Ap];simp +decide only [go_sem,hx,d,c]
   (repeat' apply Ae)<;>first | refine i _ _ ?_ | exact cl
   clear i
   apply A1;simp +decide only [go_sem]
   refine Qm a pf pf pf ?_ ⟨?_,rfl⟩
   ·simp +decide only [go_sem]
   ·simp only [go_sem]
    rw [BK,Aa,Ab,List.take_of_length_le (by omega)]
  simp only [Bool.or_eq_true,Bool.or_eq_false_iff,Bool.and_eq_true,Bool.and_eq_false_iff,decide_eq_true_eq,decide_eq_false_iff_not,Bool.not_eq_true',Bool.not_eq_false',Bool.not_eq_eq_eq_not,Bool.not_true,Bool.not_false] at b
  have y:k<v.fields.length:=by omega
  have hx2:=Zbr v.fields k y
  rw [hx] at hx2
  subst hx2
  have G:=Zv v.fields k y
  have C:=X3 v.fields (k+1) (by omega)
  apply Fv;simp only [go_sem]
  (repeat' apply Ae)<;>first | refine q _ _ ?_ | exact cl
  clear q
  apply An;intro K25 n
  apply Aq
  apply An;intro K26 g
  apply Ax 1 [3,5,16,17,18]
  rw [Ap];simp +decide only [go_sem,hx,d,c]
  (repeat' apply Ae)<;>first | refine g _ _ ?_ | exact cl
  clear g
  apply Ax 1 [3,16,17,18]
  rw [Ap];simp +decide only [go_sem,hx,d,c]
  (repeat' apply Ae)<;>first | refine n _ _ ?_ | exact cl
  clear n
  apply Ax 1 [3,16,17,18]
  rw [Ap];simp +decide only [go_sem,hx,d,c]
  (repeat' apply Ae)<;>first | refine J (v.fields.length-(k+1)) _ _ ?_ ⟨k+1,.row Rw.length,[.grow (k+1) 6],_,?_,rfl,.more _ _ _ _ C,?_,rfl⟩ | exact cl
  ·omega
  ·omega
  ·rw [G];simp
 simp only [Bool.or_eq_true,Bool.or_eq_false_iff,Bool.and_eq_true,Bool.and_eq_false_iff,decide_eq_true_eq,decide_eq_false_iff_not,Bool.not_eq_true',Bool.not_eq_false',Bool.not_eq_eq_eq_not,Bool.not_true,Bool.not_false] at b
 apply Fv;simp only [go_sem]
 (repeat' apply Ae)<;>first | refine z _ _ ?_ | exact cl
 clear z
 apply An;intro K27 u
 apply Ax 1 [2]
 rw [Ap];simp +decide only [go_sem]
 (repeat' apply Ae)<;>first | refine u _ _ ?_ | exact cl
 clear u
 apply A1;simp +decide only [go_sem]
 refine Qm a pf pf pf ?_ ⟨?_,rfl⟩
 ·simp +decide only [go_sem]
 ·simp only [go_sem]
  rw [BK,Aa,Aa];rfl
mutual
def F4 (lv:Nat):Vl→List (Nat × Vl)
 | .mk k i s t l f=>(lv,.mk k i s t l f)::(if k=8∨k=10 then ZaG (lv+1) l else if k=9 then Zav (lv+1) f else [])
def ZaG (lv:Nat):List Vl→List (Nat × Vl)
 | []=>[]
 | v::r=>F4 lv v++ZaG lv r
def Zav (lv:Nat):List (ByteArray × Vl)→List (Nat × Vl)
 | []=>[]
 | (_,v)::r=>F4 lv v++Zav lv r
end
theorem X2 (lv:Nat):∀ l,ZaG lv l=l.flatMap (F4 lv)
 | []=>rfl
 | v::r=>by simp [ZaG,X2 lv r]
theorem Yp (lv:Nat):∀ l,Zav lv l=(l.map (·.2)).flatMap (F4 lv)
 | []=>rfl
 | (_,v)::r=>by simp [Zav,Yp lv r]
theorem PY (lv:Nat) (v:Vl):F4 lv v=(lv,v)::(BK v).flatMap (F4 (lv+1)):=by
 obtain ⟨k,i,s,t,l,f⟩:=v
 simp only [F4,BK,Vl.kind,Vl.list,Vl.fields,X2,Yp]
 by_cases h1:k=8∨k=10
 ·simp only [h1,if_true]
 ·by_cases h2:k=9
  ·subst h2;simp
  ·simp only [h1,h2,if_false,List.flatMap_nil]
theorem Xu {α β:Type} (f:α→List β) (l:List α) (q:Nat) (h:q<l.length):((l.take (q+1)).flatMap f).length=((l.take q).flatMap f).length+(f l[q]).length:=by
 rw [List.take_succ_eq_append_getElem h,List.flatMap_append,List.length_append];simp
theorem Yr {α β:Type} (f:α→List β) (l:List α) (q:Nat) (h:q<l.length) (j:Nat) (x:β) (hx:(f l[q])[j]? = some x):(l.flatMap f)[((l.take q).flatMap f).length+j]? = some x:=by
 have e:l=l.take q++l[q]::l.drop (q+1):=by rw [←List.drop_eq_getElem_cons h,List.take_append_drop]
 have a:l.flatMap f=(l.take q).flatMap f++(f l[q]++(l.drop (q+1)).flatMap f):=by
  conv=>lhs;rw [e]
  rw [List.flatMap_append,List.flatMap_cons]
 rw [a,List.getElem?_append_right (by omega),Nat.add_sub_cancel_left,List.getElem?_append_left (Ak.1 hx).1,hx]
theorem MV:∀ (l:List Vl) (v:Vl),v∈l→v.size≤D8 l
 | [],_,h=>by simp at h
 | a::r,v,h=>by
  rcases List.mem_cons.1 h with rfl | h
  ·simp [D8]
  ·have:=MV r v h
   simp [D8];omega
theorem MH:∀ (l:List (ByteArray × Vl)) (p:ByteArray × Vl),p∈l→p.2.size≤EI l
 | [],_,h=>by simp at h
 | (n,a)::r,p,h=>by
  rcases List.mem_cons.1 h with rfl | h
  ·simp [EI]
  ·have:=MH r p h
   simp [EI];omega
theorem Vl.size_pos (v:Vl):0<v.size:=by cases v;simp [Vl.size];omega
theorem UE:∀ l:List Vl,l.length≤D8 l
 | []=>Nat.le_refl _
 | v::r=>by have:=UE r;have:=v.size_pos;simp [D8];omega
theorem O6:∀ l:List (ByteArray × Vl),l.length≤EI l
 | []=>Nat.le_refl _
 | (n,v)::r=>by have:=O6 r;have:=v.size_pos;simp [EI];omega
theorem Vl.size_eq (v:Vl):v.size=1+D8 v.list+EI v.fields:=by cases v;simp [Vl.size,Vl.list,Vl.fields]
theorem ZaU (v x:Vl) (h:x∈BK v):x.size<v.size:=by
 have e:=v.size_eq
 unfold BK at h
 split at h
 ·have:=MV _ _ h;omega
 ·split at h
  ·obtain ⟨p,a,rfl⟩:=List.mem_map.1 h
   have:=MH _ _ a;omega
  ·simp at h
theorem Ou (v:Vl):v.list.length<v.size∧v.fields.length<v.size∧(BK v).length<v.size:=by
 have e:=v.size_eq
 have a:=UE v.list
 have b:=O6 v.fields
 refine ⟨by omega,by omega,?_⟩
 unfold BK
 split
 ·omega
 ·split
  ·simp;omega
  ·simp;omega
mutual
def Vl.wide:Vl→Bool
 | .mk _ _ _ _ l f=>decide (l.length≤1000000000000)&&decide (f.length≤1000000000000)&&Ui l&&TW f
def Ui:List Vl→Bool
 | []=>true
 | v::r=>v.wide&&Ui r
def TW:List (ByteArray × Vl)→Bool
 | []=>true
 | (_,v)::r=>v.wide&&TW r
end
theorem S0:∀ l,Ui l=true↔∀ v∈l,v.wide=true
 | []=>by simp [Ui]
 | v::r=>by simp [Ui,S0 r]
theorem TP:∀ l,TW l=true↔∀ p∈l,p.2.wide=true
 | []=>by simp [TW]
 | (n,v)::r=>by simp [TW,TP r]
theorem Vl.wide_iff (v:Vl):v.wide=true↔v.list.length≤1000000000000∧v.fields.length≤1000000000000∧(∀ x∈v.list,x.wide=true)∧∀ p∈v.fields,p.2.wide=true:=by
 cases v;simp only [Vl.wide,Bool.and_eq_true,decide_eq_true_eq,S0,TP,Vl.list,Vl.fields,and_assoc]
theorem V1 {v x:Vl} (h:v.wide=true) (hx:x∈BK v):x.wide=true:=by
 obtain ⟨_,_,a,b⟩:=v.wide_iff.1 h
 unfold BK at hx
 split at hx
 ·exact a x hx
 ·split at hx
  ·obtain ⟨p,c,rfl⟩:=List.mem_map.1 hx
   exact b p c
  ·simp at hx
theorem G1:∀ (k:Nat) (v:Vl),v.size≤k→v.size≤1000000000000→v.wide=true
 | 0,v,h,_=>by have:=v.size_pos;omega
 | k+1,v,h,h2=>by
  have e:=v.size_eq
  obtain ⟨a,b,_⟩:=Ou v
  refine v.wide_iff.2 ⟨by omega,by omega,fun x d=>?_,fun p c=>?_⟩
  ·have:=MV _ _ d;exact G1 k x (by omega) (by omega)
  ·have:=MH _ _ c;exact G1 k p.2 (by omega) (by omega)
mutual
def Vl.depth:Vl→Nat
 | .mk _ _ _ _ l f=>1+max (Lm l) (Lq f)
def Lm:List Vl→Nat
 | []=>0
 | t::r=>max t.depth (Lm r)
def Lq:List (ByteArray × Vl)→Nat
 | []=>0
 | (_,t)::r=>max t.depth (Lq r)
end
theorem Ue:∀ (l:List Vl) (d:Nat),Lm l≤d↔∀ v∈l,v.depth≤d
 | [],d=>by simp [Lm]
 | v::r,d=>by simp [Lm,Nat.max_le,Ue r d]
theorem T9:∀ (l:List (ByteArray × Vl)) (d:Nat),Lq l≤d↔∀ v∈l,v.2.depth≤d
 | [],d=>by simp [Lq]
 | (_,t)::r,d=>by simp [Lq,Nat.max_le,T9 r d]
theorem Vl.depth_eq (v:Vl):v.depth=1+Max.max (Lm v.list) (Lq v.fields):=by cases v;simp [Vl.depth,Vl.list,Vl.fields]
theorem Zz {v x:Vl} (h:x∈BK v):x.depth<v.depth:=by
 have e:=v.depth_eq
 unfold BK at h
 split at h
 ·have:=(Ue v.list _).1 (Nat.le_refl _) x h;omega
 ·split at h
  ·obtain ⟨p,a,rfl⟩:=List.mem_map.1 h
   have:=(T9 v.fields _).1 (Nat.le_refl _) p a;omega
  ·simp at h
mutual
theorem Vl.depth_size:∀ v:Vl,v.depth≤v.size
 | .mk _ _ _ _ l f=>by have:=PN l;have:=PR f;simp only [Vl.depth,Vl.size];omega
theorem PN:∀ l:List Vl,Lm l≤D8 l
 | []=>Nat.le_refl _
 | v::r=>by have:=v.depth_size;have:=PN r;simp only [Lm,D8];omega
theorem PR:∀ l:List (ByteArray × Vl),Lq l≤EI l
 | []=>Nat.le_refl _
 | (_,v)::r=>by have:=v.depth_size;have:=PR r;simp only [Lq,EI];omega
end
def ZaJ (p:Nat × Vl):List AV:=[Am p.1,.agg p.2.cs]
def ZZ (w0:World) (items:Ao) (k:Nat) (J:Nat→St→Prop) (Jx:St→Prop):Prop :=
 ∀ i SB SR SL x XB XL,J i ⟨SB,SR,SL⟩→items[i]? = some x→SU Tryz.prog w0 k x ⟨SB++XB,SR,SL++XL⟩ fun r s'=>∃ TB TR TL b,r = .val (.bool b)∧s'=⟨TB++XB,TR,TL++XL⟩∧TB.length=SB.length∧SR.length≤TR.length∧TL.length=SL.length∧(b=true→J (i+1) ⟨TB,TR,TL⟩)∧(b=false→Jx ⟨TB,TR,TL⟩)
def Z7 (w0:World) (items:Ao) (k:Nat) (J:Nat→St→Prop) (Jx:St→Prop) (v:Vl):Prop :=
 ∀ (lv i:Nat) (lvi:Int) SB SR SL XB XL,lv+v.depth≤4611686018427387904→v.wide=true→J i ⟨SB,SR,SL⟩→lvi=lv→(∀ j x,(F4 lv v)[j]? = some x→items[i+j]? = some (ZaJ x)) →
  ACalls Tryz.prog w0 230 [.agg v.cs,Am lvi,.yld k] ⟨SB++XB,SR,SL++XL⟩ fun r s'=>∃ TB TR TL XB' b,r = .val (.bool b)∧s'=⟨TB++(XB++XB'),TR,TL++XL⟩∧TB.length=SB.length∧SR.length≤TR.length∧TL.length=SL.length∧(b=true→J (i+(F4 lv v).length) ⟨TB,TR,TL⟩)∧(b=false→Jx ⟨TB,TR,TL⟩)
theorem Zad (w0:World) (items:Ao) (k:Nat) (J:Nat→St→Prop) (Jx:St→Prop) (hY:ZZ w0 items k J Jx) (v:Vl) (ih:∀ x,x.size<v.size→Z7 w0 items k J Jx x):Z7 w0 items k J Jx v:=by
 intro d i ah SB SR SL XB XL ae g h0 hle u
 subst hle
 obtain ⟨w,t,_⟩:=v.wide_iff.1 g
 have ab:(BK v).length≤1000000000000:=by
  unfold BK
  split
  ·exact w
  ·split
   ·simpa using t
   ·simp
 refine FN (rs:=[.tmp 6]) Tryz.func230 rfl rfl Tryz.ntmps230 (AZ Tryz.func230 rfl (by decide)) (Nat.le_of_ble_eq_true rfl) ?_
 intro M0 W0 hN ag ad Q hu
 obtain ⟨ai,af,U⟩:=Ou v
 have f:=PY d v
 have c:=Qd (BK v)
 obtain ⟨ps,hpe⟩:∃ ps,BK v=ps:=⟨_,rfl⟩
 have N:items[i]? = some (ZaJ (d,v)):=by
  have:=u 0 (d,v) (by rw [f];rfl)
  simpa using this
 simp only [AA]
 apply An;intro K1 G
 apply Ax 1 [1,2,3]
 rw [Ap];simp +decide only [go_sem]
 (repeat' apply Ae)<;>first | refine G _ _ ?_ | exact cl
 clear G
 apply An;intro K2 y
 apply An;intro K3 H
 apply Ax 2 [1,2,3,13]
 rw [Ap];simp +decide only [go_sem]
 (repeat' apply Ae)<;>first | refine YD _ (fun _=>hY i SB SR SL _ (XB++[v.cs]) XL h0 N) (fun r s' hp _=>?_) | exact cl
 obtain ⟨TB,TR,TL,b,rfl,rfl,l1,l2,l3,O,hp2⟩:=hp rfl
 rw [←l1]
 rw [Ap];simp +decide only [go_sem]
 (repeat' apply Ae)<;>first | refine H _ _ ?_ | exact cl
 clear H
 refine A4 _ (by simp +decide only [go_sem]) (by simp +decide only [go_sem];rfl) (fun hb=>?_) (fun hb=>?_)
 ·simp only [Bool.not_eq_true'] at hb
  apply An;intro K4 C
  apply Ax 1 [6]
  rw [Ap];simp +decide only [go_sem]
  (repeat' apply Ae)<;>first | refine C _ _ ?_ | exact cl
  clear C
  apply A1;simp +decide only [go_sem]
  exact ⟨TB,TR,TL,[v.cs],false,rfl,rfl,l1,l2,l3,fun h=>(by cases h),fun _=>hp2 hb⟩
 simp only [Bool.not_eq_false'] at hb
 apply Fv;simp only [go_sem]
 (repeat' apply Ae)<;>first | refine y _ _ ?_ | exact cl
 clear y
 apply An;intro K5 s
 apply An;intro K6 F
 apply Ax 2 [1,2,15,16,17]
 rw [Ap];simp +decide only [go_sem]
 (repeat' apply Ae)<;>first | refine YH _ (Zdj w0 _ TR _ v w t) ?_ | exact cl
 rw [hpe] at c U ab f ⊢
 rw [Ap];simp +decide only [go_sem]
 (repeat' apply Ae)<;>first | refine F _ _ ?_ | exact cl
 clear F
 apply Aq
 refine AC (fun m e st=>∃ (q:Nat) (UB:Ao) (UR:Av) (UL:As) (XB':Ao),q≤ps.length∧m=ps.length-q∧J (i+1+((ps.take q).flatMap (F4 (d+1))).length) ⟨UB,UR,UL⟩∧UB.length=SB.length∧SR.length≤UR.length∧UL.length=SL.length∧e=[(1,true,Am d),(2,true,.yld k),(15,true,.list (Eo ps) .none),(16,true,Am ps.length),(17,true,Am q)]∧st=⟨UB++(XB++XB'),UR,UL++XL⟩) ps.length ⟨0,TB,TR,TL,[v.cs],by omega,rfl,by simpa using O hb,l1,l2,l3,rfl,by simp⟩ ?_
 rintro m e st ⟨q,UB,UR,UL,XB',hq,rfl,hj,m1,m2,m3,rfl,rfl⟩ KR V
 obtain ⟨x,hx⟩:∃ x,(Eo ps).getD q .junk=x:=⟨_,rfl⟩
 apply An;intro K7 K
 apply Ax 1 [1,2,15,16,17,18]
 rw [Ap];simp +decide only [go_sem,hx,c]
 (repeat' apply Ae)<;>first | refine K _ _ ?_ | exact cl
 clear K
 apply An;intro K8 z
 refine A4 _ (by simp +decide only [go_sem]) (by simp +decide only [go_sem];rfl) (fun hb=>?_) (fun hb=>?_)
 rotate_left
 ·simp only [Bool.or_eq_true,Bool.or_eq_false_iff,Bool.and_eq_true,Bool.and_eq_false_iff,decide_eq_true_eq,decide_eq_false_iff_not,Bool.not_eq_true',Bool.not_eq_false',Bool.not_eq_eq_eq_not,Bool.not_true,Bool.not_false] at hb
  apply Ks;simp +decide only [go_sem,hx,c]
  (repeat' apply Ae)<;>first | refine s _ _ ?_ | exact cl
  clear s
  apply An;intro K9 D
  apply Ax 1 [6]
  rw [Ap];simp +decide only [go_sem,hx,c]
  (repeat' apply Ae)<;>first | refine D _ _ ?_ | exact cl
  clear D
  apply A1;simp +decide only [go_sem]
  refine ⟨UB,UR,UL,XB',true,rfl,rfl,m1,m2,m3,fun _=>?_,fun h=>(by cases h)⟩
  rw [List.take_of_length_le (by omega)] at hj
  rw [f,List.length_cons,show i+((ps.flatMap (F4 (d+1))).length+1)=i+1+(ps.flatMap (F4 (d+1))).length by omega]
  exact hj
 simp only [Bool.or_eq_true,Bool.or_eq_false_iff,Bool.and_eq_true,Bool.and_eq_false_iff,decide_eq_true_eq,decide_eq_false_iff_not,Bool.not_eq_true',Bool.not_eq_false',Bool.not_eq_eq_eq_not,Bool.not_true,Bool.not_false] at hb
 have a:q<ps.length:=by omega
 have hx2:=Zbp ps q a
 rw [hx] at hx2
 subst hx2
 have aa:=Xu (F4 (d+1)) ps q a
 have E:∀ j x,(F4 (d+1) (ps[q]'a))[j]? = some x→items[i+1+((ps.take q).flatMap (F4 (d+1))).length+j]? = some (ZaJ x):=fun j x Y=>by
  have h1:=Yr (F4 (d+1)) ps q a j x Y
  have h2:=u (((ps.take q).flatMap (F4 (d+1))).length+j+1) x (by rw [f,List.getElem?_cons_succ,h1])
  rw [show i+1+((ps.take q).flatMap (F4 (d+1))).length+j=i+(((ps.take q).flatMap (F4 (d+1))).length+j+1) by omega]
  exact h2
 apply Fv;simp only [go_sem]
 (repeat' apply Ae)<;>first | refine z _ _ ?_ | exact cl
 clear z
 apply An;intro K10 n
 apply Aq
 apply An;intro K11 p
 apply Ax 1 [1,2,8,15,16,17]
 rw [Ap];simp +decide only [go_sem,hx,c]
 (repeat' apply Ae)<;>first | refine p _ _ ?_ | exact cl
 clear p
 apply An;intro K12 o
 apply Ax 2 [1,2,15,16,17,26]
 rw [Ap];simp +decide only [go_sem,hx,c]
 (repeat' apply Ae)<;>first | refine Tt _ (ih (ps[q]'a) (ZaU v _ (by rw [hpe];exact List.getElem_mem a)) (d+1) _ _ UB UR UL (XB++(XB'++[(ps[q]'a).cs])) XL (by have:=Zz (v:=v) (x:=ps[q]'a) (by rw [hpe];exact List.getElem_mem a);omega) (V1 g (by rw [hpe];exact List.getElem_mem a)) hj (by omega) E) ?_ | exact cl
 rintro r s' ⟨VB,VR,VL,XB2,b2,rfl,rfl,n1,n2,n3,Z,np2⟩
 rw [Ap];simp +decide only [go_sem,hx,c]
 (repeat' apply Ae)<;>first | refine o _ _ ?_ | exact cl
 clear o
 refine A4 _ (by simp +decide only [go_sem]) (by simp +decide only [go_sem];rfl) (fun hb=>?_) (fun hb=>?_)
 ·simp only [Bool.not_eq_true'] at hb
  apply An;intro K13 l
  apply Ax 1 [6]
  rw [Ap];simp +decide only [go_sem,hx,c]
  (repeat' apply Ae)<;>first | refine l _ _ ?_ | exact cl
  clear l
  apply A1;simp +decide only [go_sem]
  exact ⟨VB,VR,VL,XB'++([(ps[q]'a).cs]++XB2),false,rfl,by simp,by omega,by omega,by omega,fun h=>(by cases h),fun _=>np2 hb⟩
 simp only [Bool.not_eq_false'] at hb
 apply Fv;simp only [go_sem]
 (repeat' apply Ae)<;>first | refine n _ _ ?_ | exact cl
 clear n
 apply Ax 1 [1,2,15,16,17]
 rw [Ap];simp +decide only [go_sem,hx,c]
 (repeat' apply Ae)<;>first | refine V (ps.length-(q+1)) _ _ ?_ ⟨q+1,VB,VR,VL,XB'++([(ps[q]'a).cs]++XB2),?_,rfl,?_,?_,?_,?_,?_,?_⟩ | exact cl
 ·omega
 ·omega
 ·rw [aa];have:=Z hb;rwa [Nat.add_assoc (i+1)] at this
 ·omega
 ·omega
 ·omega
 ·simp
 ·simp
theorem YO (w0:World) (items:Ao) (k:Nat) (J:Nat→St→Prop) (Jx:St→Prop) (hY:ZZ w0 items k J Jx):∀ (n:Nat) (v:Vl),v.size≤n→Z7 w0 items k J Jx v
 | 0,v,h=>by have:=v.size_pos;omega
 | n+1,v,h=>Zad w0 items k J Jx hY v fun x a=>YO w0 items k J Jx hY n x (by omega)
def JM (v:Vl):List (List AV):=(F4 1 v).map ZaJ
theorem OK (w0:World) (v:Vl) (hv:v.depth<4611686018427387904∧v.wide=true) (l:Nat):Zgp Tryz.prog w0 229 [.box l 0] (JM v) (fun st=>st.boxes[l]? = some v.cs):=by
 intro k J Jx D H U y
 have F:ZZ w0 (JM v) k J (fun s=>Jx s):=by
  intro i SB SR SL x XB XL Q t
  have:=H i ⟨SB,SR,SL⟩ x ⟨XB,[],XL⟩ rfl Q t
  simp only [St.ext,List.append_nil] at this
  intro M w e E O
  obtain ⟨K,f,p,d,q,u⟩:=this M w e E O
  refine ⟨K,f,p,d,q,fun n=>(u n).mono ?_⟩
  intro en w' V
  refine V.mono ?_
  rintro r s ⟨⟨TB,TR,TL⟩,rfl,⟨q1,q2,q3⟩,hp⟩
  rcases hp with ⟨rfl,hp⟩ | ⟨rfl,hp⟩
  ·exact ⟨TB,TR,TL,true,rfl,rfl,q1,q2,q3,fun _=>hp,fun h=>(by cases h)⟩
  ·exact ⟨TB,TR,TL,false,rfl,rfl,q1,q2,q3,fun h=>(by cases h),fun _=>hp⟩
 obtain ⟨a,G⟩:=D _ _ y
 obtain ⟨SB,SR,SL⟩:=U
 have C:l<SB.length:=(Ak.1 a).1
 have q:Du ⟨SB,SR,SL⟩ (.box l 0)=true:=by simp [Du,C]
 have u:Bc ⟨SB,SR,SL⟩ (.box l 0)=v.cs:=by
  simp only at a
  simp [Bc,List.getD,a]
 have c:=YO w0 (JM v) k J Jx F v.size v (Nat.le_refl _) 1 0 1 SB SR SL [] [] (by omega) hv.2 y rfl (fun j x t=>by simp [JM,t])
 simp only [List.append_nil,List.nil_append,Nat.zero_add] at c
 refine FN (rs:=[]) Tryz.func229 rfl rfl Tryz.ntmps229 (AZ Tryz.func229 rfl (by decide)) (Nat.le_of_ble_eq_true rfl) ?_
 intro M0 W0 Y N z o Z
 simp only [AA]
 apply Ax 2 []
 rw [Ap];simp +decide only [go_sem,q,u]
 (repeat' apply Ae)<;>first | refine Tt _ c ?_ | exact cl
 rintro r s ⟨TB,TR,TL,XB',b,rfl,rfl,q1,q2,q3,g,m⟩
 rw [Ap];simp +decide only [go_sem]
 refine ⟨⟨TB,TR,TL⟩,⟨XB',[],[]⟩,rfl,by simp [St.ext],?_⟩
 cases b with
 | true=>exact .inl (by have:=g rfl;simpa [JM] using this)
 | false=>exact .inr (m rfl)
theorem OI (v:Vl):(JM v).length=(F4 1 v).length:=by simp [JM]
theorem To (v:Vl) (i:Nat) (x:List AV) (h:(JM v)[i]? = some x):∃ p,(F4 1 v)[i]? = some p∧x=[Am p.1,.agg p.2.cs]∧i<(F4 1 v).length:=by
 simp only [JM,List.getElem?_map,Option.map_eq_some_iff] at h
 obtain ⟨p,a,rfl⟩:=h
 exact ⟨p,a,rfl,(Ak.1 a).1⟩
theorem SK (v:Vl) (x:List AV) (h:x∈JM v):x.length=2:=by
 obtain ⟨p,_,rfl⟩:=List.mem_map.1 h
 rfl
theorem RA (w0:World) (B:Ao) (Rw:Av) (L:As) (v:Vl) :
  ACalls Tryz.prog w0 146 [.agg v.cs] ⟨B,Rw,L⟩ fun r st=>r = .clo 229 [.box B.length 0]∧st=⟨B++[v.cs],Rw,L⟩:=by
 refine FN (rs:=[.tmp 2]) Tryz.func146 rfl rfl Tryz.ntmps146 (AZ Tryz.func146 rfl (by decide)) (Nat.le_of_ble_eq_true rfl) ?_
 intro M0 W0 f d e c g
 simp only [AA]
 apply An;intro K1 b
 apply Ax 1 [1]
 rw [Ap];simp +decide only [go_sem]
 (repeat' apply Ae)<;>first | refine b _ _ ?_ | exact cl
 clear b
 apply An;intro K2 a
 apply Ax 1 [2]
 rw [Ap];simp +decide only [go_sem]
 (repeat' apply Ae)<;>first | refine a _ _ ?_ | exact cl
 clear a
 apply A1;simp +decide only [go_sem]
 skip
def Ul:List AV:=[.val .nilFunc,.clo 215 [],.clo 217 [],.clo 218 [],.clo 220 [],.clo 223 [],.clo 224 [],.clo 225 [],.clo 226 [],.clo 227 [],.clo 228 []]
theorem ZdY (w0:World) (B:Ao) (Rw:Av) (L:As)  :
  ACalls Tryz.prog w0 145 [] ⟨B,Rw,L⟩ fun r st=>r = .agg Ul∧st=⟨B,Rw,L⟩:=by
 refine ACalls.finP (FN (rs:=[.cell 0 189]) Tryz.func145 rfl rfl Tryz.ntmps145 (AZ Tryz.func145 rfl (by decide)) (Nat.le_of_ble_eq_true rfl) ?_)
 intro M0 W0 f d e a g
 simp only [AA]
 apply An;intro K1 c
 apply Ax 1 [0]
 rw [Ap];simp +decide only [go_sem,Rn,OO,Ky,CU,List.getElem?_cons_zero,List.getElem?_cons_succ,List.nil_append,List.cons_append]
 (repeat' apply Ae)<;>first | refine c _ _ ?_ | exact cl
 clear c
 apply An;intro K2 b
 apply Ax 1 [0]
 rw [Ap];simp +decide only [go_sem,Rn,OO,Ky,CU,List.getElem?_cons_zero,List.getElem?_cons_succ,List.nil_append,List.cons_append]
 (repeat' apply Ae)<;>first | refine b _ _ ?_ | exact cl
 clear b
 apply A1;simp +decide only [go_sem]
 refine Qm a pf pf pf (by simp +decide only [go_sem]) ⟨?_,rfl⟩
 rfl
inductive Ex where
 | mk (op int:Int) (text:ByteArray) (value:List Vl) (args:List Ex)
namespace Ex
def op:Ex→Int | mk o _ _ _ _=>o
def int:Ex→Int | mk _ i _ _ _=>i
def text:Ex→ByteArray | mk _ _ t _ _=>t
def value:Ex→List Vl | mk _ _ _ v _=>v
def args:Ex→List Ex | mk _ _ _ _ a=>a
end Ex
mutual
def Ex.size:Ex→Nat
 | .mk _ _ _ _ a=>1+ZcA a
def ZcA:List Ex→Nat
 | []=>0
 | e::r=>e.size+ZcA r
end
mutual
def Ex.cs:Ex→List AV
 | .mk o i t v a=>[.val (.int .i64 o),.val (.int .i64 i),.val (.string t),.list (Eo v) .none,.list (NS a) .none]
def NS:List Ex→List AV
 | []=>[]
 | e::r => .agg e.cs::NS r
end
theorem Oi:∀ l:List Ex,NS l=l.map fun v => .agg v.cs
 | []=>rfl
 | v::r=>by simp [NS,Oi r]
@[go_sem] theorem Zf0 (l:List Ex):(NS l).length=l.length:=by simp [Oi]
mutual
theorem Ex.under (nb nr nl:Nat):∀ v:Ex,∀ x∈v.cs,Under nb nr nl x
 | .mk o i t v a=>by
  intro x b
  simp only [Ex.cs,List.mem_cons,List.not_mem_nil,or_false] at b
  rcases b with rfl | rfl | rfl | rfl | rfl
  ·exact .val _
  ·exact .val _
  ·exact .val _
  ·exact .list (Jz nb nr nl v) trivial
  ·exact .list (NX nb nr nl a) trivial
theorem NX (nb nr nl:Nat):∀ l:List Ex,∀ x∈NS l,Under nb nr nl x
 | []=>fun _ h=>by simp [NS] at h
 | v::r=>by
  intro x hx
  simp only [NS,List.mem_cons] at hx
  rcases hx with rfl | hx
  ·exact .agg (Ex.under nb nr nl v)
  ·exact NX nb nr nl r x hx
end
@[go_sem] theorem Ziw (nb nr nl:Nat) (v:Ex):Under nb nr nl (.agg v.cs)↔True:=iff_true_intro (.agg (v.under nb nr nl))
@[go_sem] theorem ZgA (nb nr nl:Nat) (l:List Ex):(∀ x∈NS l,Under nb nr nl x)↔True:=iff_true_intro (NX nb nr nl l)
@[go_sem] theorem Ex.cs_length (v:Ex):v.cs.length=5:=by cases v;rfl
@[go_sem] theorem Ex.cs_pub (v:Ex):v.cs.map AV.pubCell=v.cs:=by cases v;rfl
section
variable (v:Ex) (d:AV) (l:List AV)
@[go_sem] theorem Ex.g0:v.cs.getD 0 d = .val (.int .i64 v.op):=by cases v;rfl
@[go_sem] theorem Ex.g1:v.cs.getD 1 d = .val (.int .i64 v.int):=by cases v;rfl
@[go_sem] theorem Ex.g2:v.cs.getD 2 d = .val (.string v.text):=by cases v;rfl
@[go_sem] theorem Ex.g3:v.cs.getD 3 d = .list (Eo v.value) .none:=by cases v;rfl
@[go_sem] theorem Ex.g4:v.cs.getD 4 d = .list (NS v.args) .none:=by cases v;rfl
@[go_sem] theorem Ex.take5:v.cs.take 5=v.cs:=by cases v;rfl
@[go_sem] theorem Ex.take5a:(v.cs++l).take 5=v.cs:=by cases v;rfl
end
end Go.Proofs.YtmcnjijeocmkgaaGreatDoor
namespace Go.Proofs.YtmcnjijeocmkgaaGreatDoor
open Go Go.RowKit Go.Ev
structure Part where
 kind:Int
 index:Int
 name:ByteArray
structure Itm where
 v:Vl
 level:Int
structure Lim where
 name:ByteArray
 low:Int
 high:Int
 bounds:Bool
 scale:Bool
 text:Bool
 list:Bool
 fields:Bool
structure Sch where
 name:ByteArray
 version:Int
 type:Ty
structure Cps where
 rules:List (ByteArray × Ex)
 targets:List (List Part)
 mid:Ty
def Jc {α:Type} (f:α→AV) (l:List α):AV := .list (l.map f) .none
@[go_sem] theorem Ge {α:Type} (f:α→AV) (l:List α):Jc f l = .list (l.map f) .none:=rfl
@[go_sem] theorem Zjb {α:Type} (f:α→AV) (l:List α) (n:Nat):(l.map f).take n=(l.take n).map f:=List.map_take.symm
@[go_sem] theorem ZiS {α:Type} (f:α→AV) (l:List α) (n:Nat):(l.map f).drop n=(l.drop n).map f:=List.map_drop.symm
attribute [go_sem] List.length_map List.take_length
def bodyP:Part:=⟨1,0,⟨#[98,111,100,121]⟩⟩
abbrev Qk (w0:World):Prop:=ZgY Tryz.prog w0 113 0 (.list [.agg [Am bodyP.kind,Am bodyP.index,.val (.string bodyP.name)]] .none)
def avI (x:Int):AV:=Am x
@[go_sem] theorem GE (x:Int):avI x=Am x:=rfl
@[go_sem] theorem Zh8 (l:List (Int)):(∀ y∈l.map avI,y.cells.length=1)↔True:=iff_true_intro fun y a=>by
 obtain ⟨x,_,rfl⟩:=List.mem_map.1 a
 simp +decide only [go_sem]
@[go_sem] theorem Zkq (l:List (Int)):(∀ y∈l.map avI,y.cells.length=1∧AX y=true)↔True:=iff_true_intro fun y a=>by
 obtain ⟨x,_,rfl⟩:=List.mem_map.1 a
 simp +decide only [go_sem]
@[go_sem] theorem ZhZ (nb nr nl:Nat) (l:List (Int)):(∀ y∈l.map avI,Under nb nr nl y)↔True:=iff_true_intro fun y a=>by
 obtain ⟨x,_,rfl⟩:=List.mem_map.1 a
 exact .val _
@[go_sem] theorem ZjJ (l:List (Int)):(l.map avI).map AV.pub=l.map avI:=by
 rw [List.map_map]
 refine List.map_congr_left fun x _=>?_
 simp +decide only [Function.comp,go_sem]
def avB (x:Bool):AV := .val (.bool x)
@[go_sem] theorem GA (x:Bool):avB x = .val (.bool x):=rfl
@[go_sem] theorem Zie (l:List (Bool)):(∀ y∈l.map avB,y.cells.length=1)↔True:=iff_true_intro fun y a=>by
 obtain ⟨x,_,rfl⟩:=List.mem_map.1 a
 simp +decide only [go_sem]
@[go_sem] theorem Zkr (l:List (Bool)):(∀ y∈l.map avB,y.cells.length=1∧AX y=true)↔True:=iff_true_intro fun y a=>by
 obtain ⟨x,_,rfl⟩:=List.mem_map.1 a
 simp +decide only [go_sem]
@[go_sem] theorem Zis (nb nr nl:Nat) (l:List (Bool)):(∀ y∈l.map avB,Under nb nr nl y)↔True:=iff_true_intro fun y a=>by
 obtain ⟨x,_,rfl⟩:=List.mem_map.1 a
 exact .val _
@[go_sem] theorem ZjL (l:List (Bool)):(l.map avB).map AV.pub=l.map avB:=by
 rw [List.map_map]
 refine List.map_congr_left fun x _=>?_
 simp +decide only [Function.comp,go_sem]
def CB (x:ByteArray):AV := .val (.string x)
@[go_sem] theorem Gj (x:ByteArray):CB x = .val (.string x):=rfl
@[go_sem] theorem Zix (l:List (ByteArray)):(∀ y∈l.map CB,y.cells.length=1)↔True:=iff_true_intro fun y a=>by
 obtain ⟨x,_,rfl⟩:=List.mem_map.1 a
 simp +decide only [go_sem]
@[go_sem] theorem Zkt (l:List (ByteArray)):(∀ y∈l.map CB,y.cells.length=1∧AX y=true)↔True:=iff_true_intro fun y a=>by
 obtain ⟨x,_,rfl⟩:=List.mem_map.1 a
 simp +decide only [go_sem]
@[go_sem] theorem ZbJ (nb nr nl:Nat) (l:List (ByteArray)):(∀ y∈l.map CB,Under nb nr nl y)↔True:=iff_true_intro fun y a=>by
 obtain ⟨x,_,rfl⟩:=List.mem_map.1 a
 exact .val _
@[go_sem] theorem ZfQ (l:List (ByteArray)):(l.map CB).map AV.pub=l.map CB:=by
 rw [List.map_map]
 refine List.map_congr_left fun x _=>?_
 simp +decide only [Function.comp,go_sem]
def Di (x:Vl):AV := .agg x.cs
@[go_sem] theorem EQ (x:Vl):Di x = .agg x.cs:=rfl
@[go_sem] theorem Zik (l:List (Vl)):(∀ y∈l.map Di,y.cells.length=6)↔True:=iff_true_intro fun y a=>by
 obtain ⟨x,_,rfl⟩:=List.mem_map.1 a
 simp +decide only [go_sem]
@[go_sem] theorem Zkh (l:List (Vl)):(∀ y∈l.map Di,y.cells.length=6∧AX y=true)↔True:=iff_true_intro fun y a=>by
 obtain ⟨x,_,rfl⟩:=List.mem_map.1 a
 simp +decide only [go_sem]
@[go_sem] theorem Ziu (nb nr nl:Nat) (l:List (Vl)):(∀ y∈l.map Di,Under nb nr nl y)↔True:=iff_true_intro fun y a=>by
 obtain ⟨x,_,rfl⟩:=List.mem_map.1 a
 exact .agg (x.under _ _ _)
@[go_sem] theorem ZjB (l:List (Vl)):(l.map Di).map AV.pub=l.map Di:=by
 rw [List.map_map]
 refine List.map_congr_left fun x _=>?_
 simp +decide only [Function.comp,go_sem]
def J1 (x:Ty):AV := .agg x.cs
@[go_sem] theorem EO (x:Ty):J1 x = .agg x.cs:=rfl
@[go_sem] theorem Zii (l:List (Ty)):(∀ y∈l.map J1,y.cells.length=7)↔True:=iff_true_intro fun y a=>by
 obtain ⟨x,_,rfl⟩:=List.mem_map.1 a
 simp +decide only [go_sem]
@[go_sem] theorem Zkf (l:List (Ty)):(∀ y∈l.map J1,y.cells.length=7∧AX y=true)↔True:=iff_true_intro fun y a=>by
 obtain ⟨x,_,rfl⟩:=List.mem_map.1 a
 simp +decide only [go_sem]
@[go_sem] theorem ZhW (nb nr nl:Nat) (l:List (Ty)):(∀ y∈l.map J1,Under nb nr nl y)↔True:=iff_true_intro fun y a=>by
 obtain ⟨x,_,rfl⟩:=List.mem_map.1 a
 exact .agg (x.under _ _ _)
@[go_sem] theorem Zj9 (l:List (Ty)):(l.map J1).map AV.pub=l.map J1:=by
 rw [List.map_map]
 refine List.map_congr_left fun x _=>?_
 simp +decide only [Function.comp,go_sem]
def RO (x:ByteArray × Vl):AV := .agg (.val (.string x.1)::x.2.cs)
@[go_sem] theorem F7 (x:ByteArray × Vl):RO x = .agg (.val (.string x.1)::x.2.cs):=rfl
@[go_sem] theorem Zh6 (l:List (ByteArray × Vl)):(∀ y∈l.map RO,y.cells.length=7)↔True:=iff_true_intro fun y a=>by
 obtain ⟨x,_,rfl⟩:=List.mem_map.1 a
 simp +decide only [go_sem]
@[go_sem] theorem Zkd (l:List (ByteArray × Vl)):(∀ y∈l.map RO,y.cells.length=7∧AX y=true)↔True:=iff_true_intro fun y a=>by
 obtain ⟨x,_,rfl⟩:=List.mem_map.1 a
 simp +decide only [go_sem]
@[go_sem] theorem ZiE (nb nr nl:Nat) (l:List (ByteArray × Vl)):(∀ y∈l.map RO,Under nb nr nl y)↔True:=iff_true_intro fun y a=>by
 obtain ⟨x,_,rfl⟩:=List.mem_map.1 a
 exact LC nb nr nl [x] _ (by simp [JR,RO])
@[go_sem] theorem Zjy (l:List (ByteArray × Vl)):(l.map RO).map AV.pub=l.map RO:=by
 rw [List.map_map]
 refine List.map_congr_left fun x _=>?_
 simp +decide only [Function.comp,go_sem]
def Cd (x:Int × ByteArray × Int × Ty × List Vl):AV := .agg (Am x.1 :: .val (.string x.2.1)::Am x.2.2.1::(x.2.2.2.1.cs++[.list (x.2.2.2.2.map Di) .none]))
@[go_sem] theorem Dp (x:Int × ByteArray × Int × Ty × List Vl):Cd x = .agg (Am x.1 :: .val (.string x.2.1)::Am x.2.2.1::(x.2.2.2.1.cs++[.list (x.2.2.2.2.map Di) .none])):=rfl
@[go_sem] theorem ZhE (l:List (Int × ByteArray × Int × Ty × List Vl)):(∀ y∈l.map Cd,y.cells.length=11)↔True:=iff_true_intro fun y a=>by
 obtain ⟨x,_,rfl⟩:=List.mem_map.1 a
 simp +decide only [go_sem]
@[go_sem] theorem ZjG (l:List (Int × ByteArray × Int × Ty × List Vl)):(∀ y∈l.map Cd,y.cells.length=11∧AX y=true)↔True:=iff_true_intro fun y a=>by
 obtain ⟨x,_,rfl⟩:=List.mem_map.1 a
 simp +decide only [go_sem]
@[go_sem] theorem Z5 (nb nr nl:Nat) (l:List (Int × ByteArray × Int × Ty × List Vl)):(∀ y∈l.map Cd,Under nb nr nl y)↔True:=iff_true_intro fun y a=>by
 obtain ⟨x,_,rfl⟩:=List.mem_map.1 a
 exact J0 nb nr nl [x] _ (by simp [IM,Cd,ER];intros;rfl)
@[go_sem] theorem ZdT (l:List (Int × ByteArray × Int × Ty × List Vl)):(l.map Cd).map AV.pub=l.map Cd:=by
 rw [List.map_map]
 refine List.map_congr_left fun x _=>?_
 simp +decide only [Function.comp,go_sem]
def VC (x:Sch):AV := .agg (.val (.string x.name)::Am x.version::x.type.cs)
@[go_sem] theorem CP (x:Sch):VC x = .agg (.val (.string x.name)::Am x.version::x.type.cs):=rfl
@[go_sem] theorem ZgB (l:List (Sch)):(∀ y∈l.map VC,y.cells.length=9)↔True:=iff_true_intro fun y a=>by
 obtain ⟨x,_,rfl⟩:=List.mem_map.1 a
 simp +decide only [go_sem]
@[go_sem] theorem Zja (l:List (Sch)):(∀ y∈l.map VC,y.cells.length=9∧AX y=true)↔True:=iff_true_intro fun y a=>by
 obtain ⟨x,_,rfl⟩:=List.mem_map.1 a
 simp +decide only [go_sem]
@[go_sem] theorem ZgD (nb nr nl:Nat) (l:List (Sch)):(∀ y∈l.map VC,Under nb nr nl y)↔True:=iff_true_intro fun y a=>by
 obtain ⟨x,_,rfl⟩:=List.mem_map.1 a
 simp only [CP,Of,List.mem_cons,forall_eq_or_imp,Vg,true_and];exact x.type.under _ _ _
@[go_sem] theorem Zh3 (l:List (Sch)):(l.map VC).map AV.pub=l.map VC:=by
 rw [List.map_map]
 refine List.map_congr_left fun x _=>?_
 simp +decide only [Function.comp,go_sem]
def VW (x:Itm):AV := .agg (x.v.cs++[Am x.level])
@[go_sem] theorem CJ (x:Itm):VW x = .agg (x.v.cs++[Am x.level]):=rfl
@[go_sem] theorem ZgL (l:List (Itm)):(∀ y∈l.map VW,y.cells.length=7)↔True:=iff_true_intro fun y a=>by
 obtain ⟨x,_,rfl⟩:=List.mem_map.1 a
 simp +decide only [go_sem]
@[go_sem] theorem Zi9 (l:List (Itm)):(∀ y∈l.map VW,y.cells.length=7∧AX y=true)↔True:=iff_true_intro fun y a=>by
 obtain ⟨x,_,rfl⟩:=List.mem_map.1 a
 simp +decide only [go_sem]
@[go_sem] theorem ZgC (nb nr nl:Nat) (l:List (Itm)):(∀ y∈l.map VW,Under nb nr nl y)↔True:=iff_true_intro fun y a=>by
 obtain ⟨x,_,rfl⟩:=List.mem_map.1 a
 simp only [CJ,Of,List.mem_append,List.mem_singleton];rintro z (hz | rfl);exact x.v.under _ _ _ z hz;exact .val _
@[go_sem] theorem Zib (l:List (Itm)):(l.map VW).map AV.pub=l.map VW:=by
 rw [List.map_map]
 refine List.map_congr_left fun x _=>?_
 simp +decide only [Function.comp,go_sem]
def Ww (x:Lim):AV := .agg [.val (.string x.name),Am x.low,Am x.high,.val (.bool x.bounds),.val (.bool x.scale),.val (.bool x.text),.val (.bool x.list),.val (.bool x.fields)]
@[go_sem] theorem EF (x:Lim):Ww x = .agg [.val (.string x.name),Am x.low,Am x.high,.val (.bool x.bounds),.val (.bool x.scale),.val (.bool x.text),.val (.bool x.list),.val (.bool x.fields)]:=rfl
@[go_sem] theorem ZhM (l:List (Lim)):(∀ y∈l.map Ww,y.cells.length=8)↔True:=iff_true_intro fun y a=>by
 obtain ⟨x,_,rfl⟩:=List.mem_map.1 a
 simp +decide only [go_sem]
@[go_sem] theorem ZjU (l:List (Lim)):(∀ y∈l.map Ww,y.cells.length=8∧AX y=true)↔True:=iff_true_intro fun y a=>by
 obtain ⟨x,_,rfl⟩:=List.mem_map.1 a
 simp +decide only [go_sem]
@[go_sem] theorem ZhA (nb nr nl:Nat) (l:List (Lim)):(∀ y∈l.map Ww,Under nb nr nl y)↔True:=iff_true_intro fun y a=>by
 obtain ⟨x,_,rfl⟩:=List.mem_map.1 a
 simp +decide only [go_sem];try intro z b;simp_all [Vl.under,Ty.under]
@[go_sem] theorem ZiW (l:List (Lim)):(l.map Ww).map AV.pub=l.map Ww:=by
 rw [List.map_map]
 refine List.map_congr_left fun x _=>?_
 simp +decide only [Function.comp,go_sem]
def ZbV (x:ByteArray × Int):AV := .agg [.val (.string x.1),Am x.2]
@[go_sem] theorem Ez (x:ByteArray × Int):ZbV x = .agg [.val (.string x.1),Am x.2]:=rfl
@[go_sem] theorem Zg5 (l:List (ByteArray × Int)):(∀ y∈l.map ZbV,y.cells.length=2)↔True:=iff_true_intro fun y a=>by
 obtain ⟨x,_,rfl⟩:=List.mem_map.1 a
 simp +decide only [go_sem]
@[go_sem] theorem Zj4 (l:List (ByteArray × Int)):(∀ y∈l.map ZbV,y.cells.length=2∧AX y=true)↔True:=iff_true_intro fun y a=>by
 obtain ⟨x,_,rfl⟩:=List.mem_map.1 a
 simp +decide only [go_sem]
@[go_sem] theorem Zg3 (nb nr nl:Nat) (l:List (ByteArray × Int)):(∀ y∈l.map ZbV,Under nb nr nl y)↔True:=iff_true_intro fun y a=>by
 obtain ⟨x,_,rfl⟩:=List.mem_map.1 a
 simp +decide only [go_sem];try intro z b;simp_all [Vl.under,Ty.under]
@[go_sem] theorem Zi2 (l:List (ByteArray × Int)):(l.map ZbV).map AV.pub=l.map ZbV:=by
 rw [List.map_map]
 refine List.map_congr_left fun x _=>?_
 simp +decide only [Function.comp,go_sem]
def ZaV (x:Ty × Ty):AV := .agg (x.1.cs++x.2.cs)
@[go_sem] theorem Et (x:Ty × Ty):ZaV x = .agg (x.1.cs++x.2.cs):=rfl
@[go_sem] theorem Zhv (l:List (Ty × Ty)):(∀ y∈l.map ZaV,y.cells.length=14)↔True:=iff_true_intro fun y a=>by
 obtain ⟨x,_,rfl⟩:=List.mem_map.1 a
 simp +decide only [go_sem]
@[go_sem] theorem ZjS (l:List (Ty × Ty)):(∀ y∈l.map ZaV,y.cells.length=14∧AX y=true)↔True:=iff_true_intro fun y a=>by
 obtain ⟨x,_,rfl⟩:=List.mem_map.1 a
 simp +decide only [go_sem]
@[go_sem] theorem Zhw (nb nr nl:Nat) (l:List (Ty × Ty)):(∀ y∈l.map ZaV,Under nb nr nl y)↔True:=iff_true_intro fun y b=>by
 obtain ⟨x,_,rfl⟩:=List.mem_map.1 b
 exact .agg fun z a=>(List.mem_append.1 a).elim (x.1.under _ _ _ z) (x.2.under _ _ _ z)
@[go_sem] theorem ZiX (l:List (Ty × Ty)):(l.map ZaV).map AV.pub=l.map ZaV:=by
 rw [List.map_map]
 refine List.map_congr_left fun x _=>?_
 simp +decide only [Function.comp,go_sem]
def AK (x:Part):AV := .agg [Am x.kind,Am x.index,.val (.string x.name)]
@[go_sem] theorem Ek (x:Part):AK x = .agg [Am x.kind,Am x.index,.val (.string x.name)]:=rfl
@[go_sem] theorem ZhI (l:List (Part)):(∀ y∈l.map AK,y.cells.length=3)↔True:=iff_true_intro fun y a=>by
 obtain ⟨x,_,rfl⟩:=List.mem_map.1 a
 simp +decide only [go_sem]
@[go_sem] theorem ZjC (l:List (Part)):(∀ y∈l.map AK,y.cells.length=3∧AX y=true)↔True:=iff_true_intro fun y a=>by
 obtain ⟨x,_,rfl⟩:=List.mem_map.1 a
 simp +decide only [go_sem]
@[go_sem] theorem ZhO (nb nr nl:Nat) (l:List (Part)):(∀ y∈l.map AK,Under nb nr nl y)↔True:=iff_true_intro fun y a=>by
 obtain ⟨x,_,rfl⟩:=List.mem_map.1 a
 simp +decide only [go_sem];try intro z b;simp_all [Vl.under,Ty.under]
@[go_sem] theorem ZiQ (l:List (Part)):(l.map AK).map AV.pub=l.map AK:=by
 rw [List.map_map]
 refine List.map_congr_left fun x _=>?_
 simp +decide only [Function.comp,go_sem]
def O5 (x:Ex):AV := .agg x.cs
@[go_sem] theorem Gi (x:Ex):O5 x = .agg x.cs:=rfl
@[go_sem] theorem Zid (l:List (Ex)):(∀ y∈l.map O5,y.cells.length=5)↔True:=iff_true_intro fun y a=>by
 obtain ⟨x,_,rfl⟩:=List.mem_map.1 a
 simp +decide only [go_sem]
@[go_sem] theorem Zkp (l:List (Ex)):(∀ y∈l.map O5,y.cells.length=5∧AX y=true)↔True:=iff_true_intro fun y a=>by
 obtain ⟨x,_,rfl⟩:=List.mem_map.1 a
 simp +decide only [go_sem]
@[go_sem] theorem ZiC (nb nr nl:Nat) (l:List (Ex)):(∀ y∈l.map O5,Under nb nr nl y)↔True:=iff_true_intro fun y a=>by
 obtain ⟨x,_,rfl⟩:=List.mem_map.1 a
 exact .agg (x.under _ _ _)
@[go_sem] theorem ZjD (l:List (Ex)):(l.map O5).map AV.pub=l.map O5:=by
 rw [List.map_map]
 refine List.map_congr_left fun x _=>?_
 simp +decide only [Function.comp,go_sem]
def A5 (x:ByteArray × Ex):AV := .agg (.val (.string x.1)::x.2.cs)
@[go_sem] theorem Ew (x:ByteArray × Ex):A5 x = .agg (.val (.string x.1)::x.2.cs):=rfl
@[go_sem] theorem ZhP (l:List (ByteArray × Ex)):(∀ y∈l.map A5,y.cells.length=6)↔True:=iff_true_intro fun y a=>by
 obtain ⟨x,_,rfl⟩:=List.mem_map.1 a
 simp +decide only [go_sem]
@[go_sem] theorem Zkb (l:List (ByteArray × Ex)):(∀ y∈l.map A5,y.cells.length=6∧AX y=true)↔True:=iff_true_intro fun y a=>by
 obtain ⟨x,_,rfl⟩:=List.mem_map.1 a
 simp +decide only [go_sem]
@[go_sem] theorem Zhm (nb nr nl:Nat) (l:List (ByteArray × Ex)):(∀ y∈l.map A5,Under nb nr nl y)↔True:=iff_true_intro fun y b=>by
 obtain ⟨x,_,rfl⟩:=List.mem_map.1 b
 exact .agg fun z a=>(List.mem_cons.1 a).elim (fun e=>e ▸ .val _) (x.2.under _ _ _ z)
@[go_sem] theorem Zi3 (l:List (ByteArray × Ex)):(l.map A5).map AV.pub=l.map A5:=by
 rw [List.map_map]
 refine List.map_congr_left fun x _=>?_
 simp +decide only [Function.comp,go_sem]
def avM (x:List (ByteArray × Ex)):AV := .agg [.list (x.map A5) .none]
@[go_sem] theorem F5 (x:List (ByteArray × Ex)):avM x = .agg [.list (x.map A5) .none]:=rfl
@[go_sem] theorem Zh7 (l:List (List (ByteArray × Ex))):(∀ y∈l.map avM,y.cells.length=1)↔True:=iff_true_intro fun y a=>by
 obtain ⟨x,_,rfl⟩:=List.mem_map.1 a
 simp +decide only [go_sem]
@[go_sem] theorem Zkj (l:List (List (ByteArray × Ex))):(∀ y∈l.map avM,y.cells.length=1∧AX y=true)↔True:=iff_true_intro fun y a=>by
 obtain ⟨x,_,rfl⟩:=List.mem_map.1 a
 simp +decide only [go_sem]
@[go_sem] theorem Zio (nb nr nl:Nat) (l:List (List (ByteArray × Ex))):(∀ y∈l.map avM,Under nb nr nl y)↔True:=iff_true_intro fun y a=>by
 obtain ⟨x,_,rfl⟩:=List.mem_map.1 a
 simp +decide only [go_sem]
@[go_sem] theorem Zj2 (l:List (List (ByteArray × Ex))):(l.map avM).map AV.pub=l.map avM:=by
 rw [List.map_map]
 refine List.map_congr_left fun x _=>?_
 simp +decide only [Function.comp,go_sem]
theorem Zcw (x:ByteArray):(CB x).pub=CB x:=by
 have:=ZfQ [x]
 simpa using this
theorem Ti (l:List (ByteArray)) (nb nr nl:Nat):∀ y∈l.flatMap fun x=>(CB x).cells,Under nb nr nl y:=fun y a=>by
 obtain ⟨x,c,b⟩:=List.mem_flatMap.1 a
 have h:Under nb nr nl (CB x):=(ZbJ nb nr nl [x]).2 trivial _ (List.mem_singleton.2 rfl)
 cases h with
 | val _=>rw [List.mem_singleton.1 b];exact .val _
theorem VZ (x:Int × ByteArray × Int × Ty × List Vl):(Cd x).pub=Cd x:=by
 have:=ZdT [x]
 simpa using this
theorem WA (l:List (Int × ByteArray × Int × Ty × List Vl)) (nb nr nl:Nat):∀ y∈l.flatMap fun x=>(Cd x).cells,Under nb nr nl y:=fun y a=>by
 obtain ⟨x,c,b⟩:=List.mem_flatMap.1 a
 have h:Under nb nr nl (Cd x):=(Z5 nb nr nl [x]).2 trivial _ (List.mem_singleton.2 rfl)
 cases h with
 | agg h=>exact h y b
@[go_sem] theorem Zgt (l:List (List Part)):(∀ y∈l.map (Jc AK),y.cells.length=1)↔True:=iff_true_intro fun y a=>by
 obtain ⟨x,_,rfl⟩:=List.mem_map.1 a
 simp +decide only [go_sem]
@[go_sem] theorem Zjc (l:List (List Part)):(∀ y∈l.map (Jc AK),y.cells.length=1∧AX y=true)↔True:=iff_true_intro fun y a=>by
 obtain ⟨x,_,rfl⟩:=List.mem_map.1 a
 simp +decide only [go_sem]
@[go_sem] theorem ZgQ (nb nr nl:Nat) (l:List (List Part)):(∀ y∈l.map (Jc AK),Under nb nr nl y)↔True:=iff_true_intro fun y a=>by
 obtain ⟨x,_,rfl⟩:=List.mem_map.1 a
 simp +decide only [go_sem]
@[go_sem] theorem Zig (l:List (List Part)):(l.map (Jc AK)).map AV.pub=l.map (Jc AK):=by
 rw [List.map_map]
 refine List.map_congr_left fun x _=>?_
 simp +decide only [Function.comp,go_sem]
@[go_sem] theorem Zhg (l:List (List ByteArray)):(∀ y∈l.map (Jc CB),y.cells.length=1)↔True:=iff_true_intro fun y a=>by
 obtain ⟨x,_,rfl⟩:=List.mem_map.1 a
 simp +decide only [go_sem]
@[go_sem] theorem ZjM (l:List (List ByteArray)):(∀ y∈l.map (Jc CB),y.cells.length=1∧AX y=true)↔True:=iff_true_intro fun y a=>by
 obtain ⟨x,_,rfl⟩:=List.mem_map.1 a
 simp +decide only [go_sem]
@[go_sem] theorem ZhQ (nb nr nl:Nat) (l:List (List ByteArray)):(∀ y∈l.map (Jc CB),Under nb nr nl y)↔True:=iff_true_intro fun y a=>by
 obtain ⟨x,_,rfl⟩:=List.mem_map.1 a
 simp +decide only [go_sem]
@[go_sem] theorem ZiT (l:List (List ByteArray)):(l.map (Jc CB)).map AV.pub=l.map (Jc CB):=by
 rw [List.map_map]
 refine List.map_congr_left fun x _=>?_
 simp +decide only [Function.comp,go_sem]
@[go_sem] theorem Zhj (l:List (List Int)):(∀ y∈l.map (Jc avI),y.cells.length=1)↔True:=iff_true_intro fun y a=>by
 obtain ⟨x,_,rfl⟩:=List.mem_map.1 a
 simp +decide only [go_sem]
@[go_sem] theorem Zjv (l:List (List Int)):(∀ y∈l.map (Jc avI),y.cells.length=1∧AX y=true)↔True:=iff_true_intro fun y a=>by
 obtain ⟨x,_,rfl⟩:=List.mem_map.1 a
 simp +decide only [go_sem]
@[go_sem] theorem ZhN (nb nr nl:Nat) (l:List (List Int)):(∀ y∈l.map (Jc avI),Under nb nr nl y)↔True:=iff_true_intro fun y a=>by
 obtain ⟨x,_,rfl⟩:=List.mem_map.1 a
 simp +decide only [go_sem]
@[go_sem] theorem ZiJ (l:List (List Int)):(l.map (Jc avI)).map AV.pub=l.map (Jc avI):=by
 rw [List.map_map]
 refine List.map_congr_left fun x _=>?_
 simp +decide only [Function.comp,go_sem]
@[go_sem] theorem ZdW (l:List Ex):NS l=l.map O5:=Oi l
@[go_sem] theorem Ex.under_mem (nb nr nl:Nat) (v:Ex):(∀ x∈v.cs,Under nb nr nl x)↔True:=iff_true_intro (v.under nb nr nl)
theorem Ex.cs_eqs (v:Ex):v.cs=[Am v.op,Am v.int,.val (.string v.text),.list (v.value.map Di) .none,.list (v.args.map O5) .none]:=by
 cases v;rw [Ex.cs,ER,Oi];rfl
@[go_sem] theorem Ex.cs_mks (o i:Int) (t:ByteArray) (v:List Vl) (a:List Ex):(Ex.mk o i t v a).cs=[Am o,Am i,.val (.string t),.list (v.map Di) .none,.list (a.map O5) .none]:=Ex.cs_eqs _
@[go_sem] theorem P6 (l:List Vl):Eo l=l.map Di:=ER l
@[go_sem] theorem Yj (l:List Ty):Nh l=l.map J1:=Qr l
@[go_sem] theorem YL (l:List (ByteArray × Vl)):JR l=l.map RO:=Ot l
@[go_sem] theorem Vv (l:List (Int × ByteArray × Int × Ty × List Vl)):IM l=l.map Cd:=by
 rw [Pl]
 refine List.map_congr_left fun x _=>?_
 rw [P6];rfl
@[go_sem] theorem ZdL (l:List ByteArray):(l.map fun x=>AV.val (.string x))=l.map CB:=rfl
@[go_sem] theorem Vl.under_mem (nb nr nl:Nat) (v:Vl):(∀ x∈v.cs,Under nb nr nl x)↔True:=iff_true_intro (v.under nb nr nl)
@[go_sem] theorem Ty.under_mem (nb nr nl:Nat) (v:Ty):(∀ x∈v.cs,Under nb nr nl x)↔True:=iff_true_intro (v.under nb nr nl)
@[go_sem] theorem ZgR {α:Type} (p:α→Prop) (l m:List α):(∀ x∈l++m,p x)↔(∀ x∈l,p x)∧∀ x∈m,p x:=List.forall_mem_append
theorem rt {α:Type} {x r:α} {F G C p:Prop} (h:some x=some r) (f:F) (hcalm:C) (hO:G) (k:some x=some r→F→C→G→p:=by
  intro h hs hcalm hO
  apply A1;simp +decide only [go_sem,Nat.reduceAdd,hs]
  have hgt:=Option.some.inj h;subst hgt
  first | refine C5 hcalm rfl hO.pre (by simp +decide only [go_sem,Nat.reduceAdd]) ⟨?_,?_⟩ | refine EP hcalm rfl hO.pre (by simp +decide only [go_sem,Nat.reduceAdd]) ⟨?_,?_⟩
  all_goals first | rfl | (simp +decide only [go_sem,Nat.reduceAdd,hs];done) | (simp +decide only [go_sem,Nat.reduceAdd,Vl.cs,Ty.cs,hs];done)):p:=k h f hcalm hO
theorem hv {p F:Prop} (f:F) (h:F→p:=by intro hs;first | rfl | (simp +decide only [go_sem,Nat.reduceAdd,hs];done) | (simp +decide only [go_sem,Nat.reduceAdd,Vl.cs,Ty.cs,hs];done)):p:=h f
theorem Ty.cs_eqs (t:Ty):t.cs=[Am t.kind,Am t.min,Am t.max,Am t.scale,.list (t.words.map CB) .none,.list (t.elem.map J1) .none,.list (t.fields.map Cd) .none]:=by
 cases t;rw [Ty.cs,Yj,Vv];rfl
theorem Vl.cs_eqs (v:Vl):v.cs=[Am v.kind,Am v.int,Am v.scale,.val (.string v.text),.list (v.list.map Di) .none,.list (v.fields.map RO) .none]:=by
 rw [v.cs_eq,P6,YL]
theorem ZO (w0:World) (B:Ao) (Rw:Av) (L:As) (hT:Lib.Utf8Tabs 2 3 w0) (s:ByteArray) (hs:s.size≤maxLen) :
  ACalls Tryz.prog w0 222 [.val (.string s)] ⟨B,Rw,L⟩ fun v s'=>v = .val (.bool (Lib.validD s.data.toList))∧s'=⟨B,Rw,L⟩:=ZbQ w0 _ hT s hs
attribute [go_sem] Rn OO Ky Nat.mul_one Nat.zero_add Nat.add_zero Option.isSome_some List.getElem?_cons_zero List.getElem?_cons_succ
abbrev ALp:Prop:=(∀ (α:Type) (l m:List α),List.append l m=l++m)∧(∀ (α:Type) (a:α) (l m:List α),(a::l)++m=a::(l++m))∧∀ (α:Type) (l:List α),[]++l=l
theorem al {F:Prop} (h:F):ALp∧F:=⟨⟨fun _ _ _=>rfl,fun _ _ _ _=>rfl,fun _ _=>rfl⟩,h⟩
theorem Vl.cs_mks (k i s:Int) (t:ByteArray) (l:List Vl) (f:List (ByteArray × Vl)):(Vl.mk k i s t l f).cs=[Am k,Am i,Am s,.val (.string t),.list (l.map Di) .none,.list (f.map RO) .none]:=Vl.cs_eqs _
theorem Ty.cs_mks (a b c d:Int) (w:List ByteArray) (e:List Ty) (f:List (Int × ByteArray × Int × Ty × List Vl)):(Ty.mk a b c d w e f).cs=[Am a,Am b,Am c,Am d,.list (w.map CB) .none,.list (e.map J1) .none,.list (f.map Cd) .none]:=Ty.cs_eqs _
theorem cm {F:Prop} (h:F):((∀ k i s t l f,(Vl.mk k i s t l f).cs=[Am k,Am i,Am s,.val (.string t),.list (l.map Di) .none,.list (f.map RO) .none])∧∀ a b c d w e f,(Ty.mk a b c d w e f).cs=[Am a,Am b,Am c,Am d,.list (w.map CB) .none,.list (e.map J1) .none,.list (f.map Cd) .none])∧F:=⟨⟨Vl.cs_mks,Ty.cs_mks⟩,h⟩
theorem D6 {p:Prop} (h:p:=by first | rfl | simp only [List.length_append,List.length_cons,List.length_nil,List.length_map,Nat.zero_add,Nat.add_zero]):p:=h
theorem Y6 {p:Prop} (h:p:=by simp only [List.length_set]):p:=h
theorem kr {p:Prop} (h:p:=by kernel_rfl):p:=h
theorem px {p:Prop} (h:p:=by first | exact List.prefix_append _ _ | exact List.prefix_refl _):p:=h
theorem ap_ {p:Prop} (h:p:=by simp only [List.append_assoc,List.cons_append,List.nil_append]):p:=h
theorem nq {p:Prop} (h:p:=by first | assumption | omega | (simp only [List.length_set] at *; omega)):p:=h
theorem fn_ {p:Prop} (h:p:=by first | rfl | simp only [List.flatMap_nil]):p:=h
theorem vu {p V:Prop} (v:V) (h:V→p:=by intro v;simp only [List.mem_cons,List.not_mem_nil,or_false,forall_eq_or_imp,forall_eq];exact v _ _ _ _):p:=h v
theorem OJ {p V:Prop} {Rw rows:List RowA} {l:List (Nat × Nat × Ev.Own)} {ho:Ev.Own} {v:List VE} (u:V) (hO:Owns Rw rows l ho v) (h:V→Rw.length≤rows.length→p:=by
  intro u hl
  (simp +decide only [go_sem,Nat.reduceAdd,Jt])<;>(try (repeat' apply Ae))<;>first | omega | assumption | exact u _ _ _ (by omega) (by omega) (by omega)):p:=h u hO.len
theorem ln {p:Prop} {Rw rows Rw' rows':List RowA} {l l':List (Nat × Nat × Ev.Own)} {ho ho':Ev.Own} {v v':List VE} (h1:Owns Rw rows l ho v) (h2:Owns Rw' rows' l' ho' v') (h:Rw.length≤rows.length→Rw'.length≤rows'.length→p:=by intro _ _;first | exact Nat.le_refl _ | omega):p:=h h1.len h2.len
theorem dl {F p q:Prop} (m c1 c2:Nat) (L:List Nat) (f:F) {P:Program} (hm:P.follows .mixedOrders=true) {A K:Env→St→Prop} (hK:∀ e s,A e s→K e s) (k:q) (h:Tg (m,c1,c2,L)→F→P.follows .mixedOrders=true→(∀ e s,A e s→K e s)→q→p:=by
  intro tt hs hm hK hq
  refine QZ tt hm (by kernel_rfl) ?_
  rw [Ap];simp +decide only [go_sem,Nat.reduceAdd,hs]
  (repeat' with_reducible apply Ae)<;>first | (rw [Ap];simp +decide only [go_sem,Nat.reduceAdd,hs]) | (clear hq;exact cl)
  first | (refine hK _ _ ?_;exact hq) | ((repeat' apply Ae)<;>first | (refine hK _ _ ?_;exact hq) | (clear hq;exact cl))):p:=h tg f hm hK k
theorem dk {F p q:Prop} (m c1 c2:Nat) (L:List Nat) (f:F) {P:Program} (hm:P.follows .mixedOrders=true) (k:q) (h:Tg (m,c1,c2,L)→F→P.follows .mixedOrders=true→q→p:=by
  intro tt hs hm hq
  refine QZ tt hm (by kernel_rfl) ?_
  rw [Ap];simp +decide only [go_sem,Nat.reduceAdd,hs]
  first | (refine Jv ?_;exact hq) | ((repeat' apply Ae)<;>first | (refine Jv ?_;exact hq) | (clear hq;exact cl))):p:=h tg f hm k
theorem dn {F p q:Prop} (f:F) {A K:Env→St→Prop} (hK:∀ e s,A e s→K e s) (k:q) (h:F→(∀ e s,A e s→K e s)→q→p:=by
  intro hs hK hq
  rw [Ap];simp +decide only [go_sem,Nat.reduceAdd,hs]
  (repeat' with_reducible apply Ae)<;>first | (rw [Ap];simp +decide only [go_sem,Nat.reduceAdd,hs]) | (clear hq;exact cl)
  first | (refine hK _ _ ?_;exact hq) | ((repeat' apply Ae)<;>first | (refine hK _ _ ?_;exact hq) | (clear hq;exact cl))):p:=h f hK k
theorem rT {α:Type} {x r:α} {F G C p:Prop} (h:x=r) (f:F) (hcalm:C) (hO:G) (k:x=r→F→C→G→p:=by
  intro h hs hcalm hO
  apply A1;simp +decide only [go_sem,Nat.reduceAdd,hs]
  subst h
  first | refine C5 hcalm rfl hO.pre (by simp +decide only [go_sem,Nat.reduceAdd]) ⟨?_,rfl⟩ | refine EP hcalm rfl hO.pre (by simp +decide only [go_sem,Nat.reduceAdd]) ⟨?_,rfl⟩
  first | rfl | (simp +decide only [go_sem,Nat.reduceAdd,hs];done) | (simp +decide only [go_sem,Nat.reduceAdd,Vl.cs,Ty.cs,hs];done)):p:=k h f hcalm hO
end Go.Proofs.YtmcnjijeocmkgaaGreatDoor
namespace Go.Ev
open Go Go.RowKit Go.Shelf
section
variable {P:Program} {w0:World} {st:St}
theorem YJ {M:Mem} {w w':World} {e:TypeId} {sz:Nat} {v':Value} {n:Nat} {us:Nat→Value} {xs:List AV} (hst:RelSt w0 M st w) (hb:Below w.heap.size w w') (ho:w'.ownsRow w.heap.size e sz v' n (flat us n)) (hn:xs.length=n)
  (hus:∀ i,i<n→(us i).cells.size=sz) (hR:∀ i (hi:i<xs.length),R w0 M w (us i) xs[i]):∃ M',Ext w0 M w M' w'∧RelSt w0 M' st w'∧R w0 M' w' v' (.list xs .none):=by
 subst hn
 obtain ⟨k,f⟩:=ho
 rcases f with ⟨rfl,h0⟩ | ⟨g,cap,cur,rfl,hg,hcur,hc1,hc2,hc3,hc4⟩
 ·obtain ⟨c,b⟩:=hst.later hb w.heap.size 0 (Nat.le_refl _) (.inr rfl)
  have:xs=[]:=List.length_eq_zero_iff.1 h0
  subst this
  exact ⟨_,b,c,.nil (fun id=>by simp)⟩
 ·obtain ⟨c,b⟩:=hst.later hb g (xs.length*sz) hg (.inl (Array.getElem?_eq_some_iff.1 hcur).1)
  refine ⟨_,b,c,.list sz us hc1 hc2 (fun i hi=>⟨hus i hi,fun j h=>?_⟩) (fun i hi=>(hR i hi).mono b) trivial⟩
  have a:i*sz+j<xs.length*sz:=by
   have:(i+1)*sz≤xs.length*sz:=Nat.mul_le_mul_right _ hi
   rw [Nat.succ_mul] at this;omega
  refine ⟨.inr (by simp only [Mem.newTop,if_true,Nat.zero_add];exact a),?_⟩
  have d:=Ih hus i hi j h
  rw [←d,←hc4,List.getElem?_take_of_lt a,Array.getElem?_toList]
  simp [World.cell?,hcur]
theorem ZJ {ρ:Ren} (L:Go.Proofs.SlLaysE0.n41 P ρ) (i0:TypeInfo) (z:Value) (size bytes:Nat) (hi:P.info? (ρ.t 23)=some i0) (hz0:i0.zero=some z) (hz1:i0.size=size) (hz2:i0.bytes=bytes) (hzs:z.cells.size=size) (hsz:0<size)
  (z23:∀ w,(Go.sizeOf (ρ.t 23)).run P w = .ok size w) (a:Addr) (c:Nat) (w:World) :
  Calls P (ρ.f 41) #[.slice (some a) 0 c] w fun e w'=>∃ v',e = .returned v'∧w'.ownsRow w.heap.size (ρ.t 23) size v' 0 []∧Below w.heap.size w w':=by
 have mixed:=L.mixed;have t4:=L.t4;have a4:=L.a4;have z4:=L.z4;have v4:=L.v4;have t22:=L.t22;have a22:=L.a22;have z22:=L.z22;have v22:=L.v22
 have q22:∀ (w:World) (a:Option Addr) (n c n' c':Nat),(binOp .eql (ρ.t 22) (.slice a n c) (.slice none n' c')).run P w = .ok (.bool a.isNone) w:=fun w a n c n' c'=>Lib.run_eql_slice_nil w _ _ a n c n' c' L.t22
 have u22:∀ w,Sem.run P (underlying (ρ.t 22)) w = .ok (TypeDesc.slice (ρ.t 23)) w:=run_underlying t22
 obtain ⟨_,_,FG⟩:=L.f41
 go_enter FG,Go.Proofs.SlBodyN.n41_ntmps ρ
 go_wp2_with (at_builtin;refine wpList_append_own _ rfl _ _ (ρ.t 22) rfl w.heap.size (ρ.t 23) i0 z size bytes t22 hi hz0 hz1 hz2 hzs hsz _ _ _ rfl (World.ownsRow_made w #[] 0 (Nat.le_refl _) (Nat.zero_le _) (by simp)) a 0 c [] rfl (by simp) (by intro j u hj;simp at hj) (by intro u hu;cases hu) (by unfold maxLen;omega) (by omega) (by simp) ?_)
 intro v' w1 hown hgrow hnil
 go_wp2
 go_ret
 exact ⟨v',rfl,by simpa using hown,((Below.refl _ w).alloc (Nat.le_refl _) _).grown hgrow (by simp) (by intro k hk;simp [Value.ownBlock] at hk;omega)⟩
theorem ZR {ρ:Ren} (L:Go.Proofs.SlLaysE0.n41 P ρ) (hen:JQ P (ρ.f 41)) (i0:TypeInfo) (z:Value) (size bytes:Nat) (hi:P.info? (ρ.t 23)=some i0) (hz0:i0.zero=some z) (hz1:i0.size=size) (hz2:i0.bytes=bytes) (hzs:z.cells.size=size) (hsz:0<size)
  (z23:∀ w,(Go.sizeOf (ρ.t 23)).run P w = .ok size w) {xs:List AV} {o:Own} (hx:∀ y∈xs,y.cells.length=size) (h1:∀ y∈xs,AX y=true) (hbig:xs.length*bytes≤140737488355328) :
  ACalls P w0 (ρ.f 41) [.list xs o] st fun r s=>r = .list xs .none∧s=st:=by
 refine ⟨hen,fun M w p l h=>?_⟩
 obtain ⟨v,rfl⟩:∃ v,p = #[v]:=by
  have:=h.1
  simp only [List.length_cons,List.length_nil] at this
  exact Array.size_eq_one_iff.1 this
 have hv:R w0 M w v (.list xs o):=h.2 0 (by simp) (by simp)
 cases hv with
 | nil ho =>
  refine (Go.Proofs.AnyE.slices_Clone_nil L 0 0 w).mono ?_
  rintro en N ⟨rfl,rfl⟩
  exact ⟨_,M,_,st,rfl,⟨rfl,rfl⟩,.refl _ _ _,l,.nil (fun id=>by simp)⟩
 | @emp ad _ ho =>
  refine (ZJ L i0 z size bytes hi hz0 hz1 hz2 hzs hsz z23 ad 0 w).mono ?_
  rintro en N ⟨J,rfl,c,a⟩
  obtain ⟨M',E,F,H⟩:=YJ (xs:=[]) (us:=fun _=>undef) l a c rfl (fun i hi=>absurd hi (by omega)) (fun i hi=>absurd hi (by simp))
  exact ⟨J,M',_,st,rfl,⟨rfl,rfl⟩,E,F,H⟩
 | @list b off cap _ _ sz us hc hm hcell hu ho =>
  have g:∀ i,i<xs.length→(us i).cells.size=size:=fun i hi=>by
   rw [((hu i hi).cells).1];exact hx _ (List.getElem_mem _)
  have d:∀ i,i<xs.length→∀ j,j<size→w.cell? ⟨b,off+i*size+j,none⟩=(us i).cells[j]? := fun i hi j K=>by
   have e:sz=size:=((hcell i hi).1).symm.trans (g i hi)
   subst e
   exact ((hcell i hi).2 j K).2
  refine (Go.Proofs.AnyE.slices_Clone L i0 z size bytes hi hz0 hz1 hz2 hzs hsz z23 b off xs.length cap (flat us xs.length) w (AU g) (Nat.le_trans hc hm) hbig (fun j u K=>?_) (fun u C=>?_)).mono ?_
  ·have:=FI g hsz d j u K
   rwa [Eh] at this
  ·obtain ⟨i,G,x⟩:=List.mem_flatMap.1 C
   have m:i<xs.length:=by simpa using G
   obtain ⟨k,O,rfl⟩:=List.mem_iff_getElem.1 x
   have q:=(hu i m).cells
   have n:k<(us i).cells.size:=by simpa using O
   have:=q.2 k n (by rw [←q.1];exact n)
   rw [Array.getElem_toList]
   refine this.oneCell ((hu i m).cellsOne (fun vs D=>?_) _ (List.getElem_mem _))
   have:=h1 _ (List.getElem_mem m)
   rw [D] at this;cases this
  ·rintro en N ⟨J,rfl,c,_,a⟩
   obtain ⟨M',E,F,H⟩:=YJ l a c rfl g hu
   exact ⟨J,M',_,st,rfl,⟨rfl,rfl⟩,E,F,H⟩
def Zai (P:Program) (t:TypeId) (size bytes:Nat):Bool :=
 match P.info? t with
 | some i=>(i.size == size)&&(i.bytes == bytes)&&(match i.zero with | some z=>z.cells.size == size | none=>false)
 | none=>false
theorem UA {t:TypeId} {size bytes:Nat} (h:Zai P t size bytes=true):∃ i0 z,P.info? t=some i0∧i0.zero=some z∧i0.size=size∧i0.bytes=bytes∧z.cells.size=size:=by
 unfold Zai at h
 cases hi:P.info? t with
 | none=>simp [hi] at h
 | some i =>
  simp only [hi,Bool.and_eq_true,beq_iff_eq] at h
  cases hz:i.zero with
  | none=>simp [hz] at h
  | some z =>
   simp only [hz,beq_iff_eq] at h
   exact ⟨i,z,rfl,hz,h.1.1,h.1.2,h.2⟩
theorem Rm {ρ:Ren} (L:Go.Proofs.SlLaysE0.n41 P ρ) (hen:JQ P (ρ.f 41)) (size bytes:Nat) (hi:Zai P (ρ.t 23) size bytes=true) (hsz:0<size) (z23:∀ w,(Go.sizeOf (ρ.t 23)).run P w = .ok size w) {xs:List AV} {o:Own}
  (hx:∀ y∈xs,y.cells.length=size∧AX y=true) (hbig:xs.length*bytes≤140737488355328):ACalls P w0 (ρ.f 41) [.list xs o] st fun r s=>r = .list xs .none∧s=st:=by
 obtain ⟨b,z,a1,a2,a3,a4,a5⟩:=UA hi
 exact ZR L hen b z size bytes a1 a2 a3 a4 a5 hsz z23 (fun y a=>(hx y a).1) (fun y a=>(hx y a).2) hbig
end
def Nz (n:Nat) (rows:Av):Own:=if n=0 then .full else .row rows.length
def QL (n sz:Nat) (rows:Av):List RowA:=if n=0 then rows else rows++[.grow n sz]
theorem Owns.clone {Rw rows:List RowA} {l:List (Nat × Nat × Own)} {ho:Own} (h:Owns Rw rows l ho) (sz n:Nat):Owns Rw (QL n sz rows) ((sz,n,Nz n rows)::l) ho:=by
 unfold QL Nz
 by_cases q:n=0
 ·rw [Ai q,Ai q];exact h.full sz n
 ·rw [Aj q,Aj q];exact h.make sz n
theorem Owns.len1 {Rw rows:List RowA} {o ho:Own} {sz n m:Nat} (h:Owns Rw rows [(sz,n,o)] ho) (e:n=m):Owns Rw rows [(sz,m,o)] ho:=e▸h
theorem Bd {B:List (List AV)} {l i:Nat} {cs:List AV} (h:B[l]? = some cs) (hne:i≠l) :
  (∀ X R L o c,Du ⟨B.set i c++X,R,L⟩ (.box l o)=true)∧(∀ R L o c,Du ⟨B.set i c,R,L⟩ (.box l o)=true)∧(∀ X R L o c,Bc ⟨B.set i c++X,R,L⟩ (.box l o)=cs)∧(∀ R L o c,Bc ⟨B.set i c,R,L⟩ (.box l o)=cs) ∧
  (∀ X c,(B.set i c++X)[l]? = some cs)∧(∀ c,(B.set i c)[l]? = some cs)∧(∀ X c,(B.set i c++X).getD l []=cs)∧(∀ c,(B.set i c).getD l []=cs):=by
 have a:∀ c,(B.set i c)[l]? = some cs:=fun c=>by rw [List.getElem?_set_ne hne];exact h
 refine ⟨fun X R L o c=>(Ar (a c)).1 X R L o,fun R L o c=>(Ar (a c)).2.1 R L o,fun X R L o c=>(Ar (a c)).2.2.1 X R L o,fun R L o c=>(Ar (a c)).2.2.2.1 R L o,fun X c=>(Ar (a c)).2.2.2.2.1 X,a,
  fun X c=>(Ar (a c)).2.2.2.2.2.2.1 X,fun c=>(Ar (a c)).2.2.2.2.2.2.2.1⟩
section
variable {P:Program} {w0:World} {st:St} {M:Mem} {w:World}
theorem RelSt.adoptRow (h:RelSt w0 M st w) {w':World} (hb:Below w.heap.size w w') {g cap k sz:Nat} {cs:Array Value} {ty:TypeId} (hg:w.heap.size≤g) (hcs:w'.heap[g]? = some (.cells cs ty (0,0))) (hm:cap≤maxLen) (hk:k≤cap) (hs:cs.size=cap*sz) :
  RelSt w0 (M.addRow g cap k sz (k*sz)) { st with rows:=st.rows++[.grow k sz] } w'∧Ext w0 M w (M.addRow g cap k sz (k*sz)) w':=by
 have Y:g<w'.heap.size:=(Array.getElem?_eq_some_iff.1 hcs).1
 have n:∀ b,b<w.heap.size→(M.addRow g cap k sz (k*sz)).top b=M.top b:=fun b hb=>by simp [Mem.addRow];omega
 have z:∀ x,x<w.heap.size→w'.heap[x]? = w.heap[x]? := hb.block
 have r:KeepsObj w w':=fun x o f _=>(z x (Array.getElem?_eq_some_iff.1 f).1).trans f
 have a:∀ i,i<M.NR→(M.addRow g cap k sz (k*sz)).fr i=M.fr i∧(M.addRow g cap k sz (k*sz)).blk i=M.blk i∧(M.addRow g cap k sz (k*sz)).cap i=M.cap i∧(M.addRow g cap k sz (k*sz)).rsz i=M.rsz i:=by
  intro i p
  have:¬ i=M.NR:=by omega
  simp [Mem.addRow,this]
 have u:Ext w0 M w (M.addRow g cap k sz (k*sz)) w' :=
  ⟨Nat.le_refl _,fun _ _=>rfl,Nat.le_succ _,fun i p=>by obtain ⟨a1,a2,a3,a4⟩:=a i p;exact ⟨by omega,fun _=>⟨a2,a3,a4⟩⟩,fun x aa v p C=>by
   have d:=World.block_lt_of_cell? w _ C
   refine ⟨?_,p.imp id fun q=>by rw [n x d];exact q⟩
   unfold World.cell? at C ⊢
   simp only [z x d] at C ⊢
   exact C,hb.size,Nat.le_refl _,fun _ _=>rfl,fun _ f t=>absurd t (Nat.not_lt.2 f),fun x o f t _=>r x o f t⟩
 have F:∀ l,l<M.N→M.bx l≠g:=fun l D=>by have:=h.box_lt D;omega
 refine ⟨⟨h.below.trans (hb.mono h.base_le),h.N,by simp [Mem.addRow,h.NR],fun b V=>?_,h.inj,fun l c D=>?_,fun id y hid=>?_,fun i j p hj e=>?_,h.loop.mono u rfl r⟩,u⟩
 ·have:=hb.size
  have:(M.addRow g cap k sz (k*sz)).top b=M.top b:=by simp [Mem.addRow];omega
  rw [this]
  exact h.top b (by omega)
 ·obtain ⟨a1,a2,J,E,a3,a4,a5,a6⟩:=h.box l c D
  have d:=(Array.getElem?_eq_some_iff.1 a3).1
  exact ⟨a1,by rw [show (M.addRow g cap k sz (k*sz)).bx l=M.bx l from rfl,n _ d];exact a2,J,E,by rw [show (M.addRow g cap k sz (k*sz)).bx l=M.bx l from rfl,z _ d];exact a3,a4,a5,fun i f t=>(a6 i f t).mono u⟩
 ·by_cases e1:id=M.NR
  ·subst e1
   simp only [h.NR,List.getElem?_concat_length,Option.some.injEq] at hid
   subst hid
   have q:(M.addRow g cap k sz (k*sz)).fr M.NR=k∧(M.addRow g cap k sz (k*sz)).blk M.NR=g∧(M.addRow g cap k sz (k*sz)).cap M.NR=cap∧(M.addRow g cap k sz (k*sz)).rsz M.NR=sz∧(M.addRow g cap k sz (k*sz)).top g=k*sz:=by simp [Mem.addRow]
   obtain ⟨q1,q2,q3,q4,Z⟩:=q
   simp only [RowOk,q1,q2,q3,q4,Z]
   have U:=h.base_le
   exact ⟨trivial,trivial,by omega,trivial,F,hm,hk,cs,ty,hcs,hs⟩
  ·have m:id<M.NR:=by
    have:id<(st.rows++[RowA.grow k sz]).length:=(Ak.1 hid).1
    have G:=h.NR
    simp at this
    omega
   rw [List.getElem?_append_left (by rw [←h.NR];exact m)] at hid
   have hk:=h.row id y hid
   obtain ⟨Q,K,H,O⟩:=a id m
   exact hk.keep u Q O K H (n _ hk.lt) hk.ne (z _ hk.lt)
 ·have G:(M.addRow g cap k sz (k*sz)).NR=M.NR+1:=rfl
  rw [G] at p hj
  have s:(M.addRow g cap k sz (k*sz)).blk M.NR=g:=by simp [Mem.addRow]
  by_cases e1:i=M.NR
  ·by_cases e2:j=M.NR
   ·omega
   ·subst e1
    rw [s,(a j (by omega)).2.1] at e
    have:=h.row_lt (i:=j) (by omega)
    omega
  ·by_cases e2:j=M.NR
   ·subst e2
    rw [s,(a i (by omega)).2.1] at e
    have:=h.row_lt (i:=i) (by omega)
    omega
   ·rw [(a i (by omega)).2.1,(a j (by omega)).2.1] at e
    exact h.rowinj i j (by omega) (by omega) e
theorem Ze4 {w':World} {e:TypeId} {sz:Nat} {v':Value} {n:Nat} {us:Nat→Value} {xs:List AV} (hst:RelSt w0 M st w) (hb:Below w.heap.size w w') (ho:w'.ownsRow w.heap.size e sz v' n (flat us n)) (hn:xs.length=n) (h0:n≠0)
  (hus:∀ i,i<n→(us i).cells.size=sz) (hR:∀ i (hi:i<xs.length),R w0 M w (us i) xs[i]):∃ M',Ext w0 M w M' w'∧RelSt w0 M' { st with rows:=st.rows++[.grow n sz] } w'∧R w0 M' w' v' (.list xs (.row st.rows.length)):=by
 subst hn
 obtain ⟨l,h⟩:=ho
 rcases h with ⟨rfl,h0'⟩ | ⟨g,cap,cur,rfl,hg,hcur,hc1,hc2,hc3,hc4⟩
 ·exact absurd h0' h0
 ·obtain ⟨d,c⟩:=hst.adoptRow hb hg hcur hc2 hc1 hc3
  have b:=hst.NR
  refine ⟨_,c,d,.list sz us hc1 hc2 (fun i hi=>⟨hus i hi,fun j k=>?_⟩) (fun i hi=>(hR i hi).mono c) ⟨by simp [Mem.addRow,b],by simp [Mem.addRow,b],fun _=>by simp [Mem.addRow,b]⟩⟩
  have a:i*sz+j<xs.length*sz:=by
   have:(i+1)*sz≤xs.length*sz:=Nat.mul_le_mul_right _ hi
   rw [Nat.succ_mul] at this;omega
  refine ⟨.inr (by simp only [Mem.addRow,if_true,Nat.zero_add];exact a),?_⟩
  have f:=Ih hus i hi j k
  rw [←f,←hc4,List.getElem?_take_of_lt a,Array.getElem?_toList]
  simp [World.cell?,hcur]
theorem Zu {ρ:Ren} (L:Go.Proofs.SlLaysE0.n41 P ρ) (i0:TypeInfo) (size:Nat) (hi:P.info? (ρ.t 23)=some i0) (hz1:i0.size=size) (z23:∀ w,(Go.sizeOf (ρ.t 23)).run P w = .ok size w) (a:Addr) (c:Nat) (w:World) :
  Calls P (ρ.f 41) #[.slice (some a) 0 c] w fun e w'=>∃ b,e = .returned (.slice (some b) 0 0)∧Below w.heap.size w w':=by
 have mixed:=L.mixed;have t4:=L.t4;have a4:=L.a4;have z4:=L.z4;have v4:=L.v4;have t22:=L.t22;have a22:=L.a22;have z22:=L.z22;have v22:=L.v22
 have q22:∀ (w:World) (a:Option Addr) (n c n' c':Nat),(binOp .eql (ρ.t 22) (.slice a n c) (.slice none n' c')).run P w = .ok (.bool a.isNone) w:=fun w a n c n' c'=>Lib.run_eql_slice_nil w _ _ a n c n' c' L.t22
 have u22:∀ w,Sem.run P (underlying (ρ.t 22)) w = .ok (TypeDesc.slice (ρ.t 23)) w:=run_underlying t22
 have hgo:∀ (w:World) (ty:TypeId) (ad:Addr),(Builtin.append_ #[ρ.t 22,ρ.t 22] ty #[.slice (some ad) 0 0,.slice (some a) 0 c]).run P w = .ok (.slice (some ad) 0 0) w:=fun w ty ad=>by
  simp [Builtin.append_,run_underlying t22,sizeOf,typeInfo,hi,hz1,storeCells,Builtin.lenOf,Builtin.firstCells,loadCells,loadCellsFrom]
 obtain ⟨_,_,FG⟩:=L.f41
 go_enter FG,Go.Proofs.SlBodyN.n41_ntmps ρ
 go_wp2_with (at_builtin;refine Lib.wpList_append_run _ rfl _ _ (ρ.t 22) (ρ.t 22) rfl _ _ rfl rfl _ _ (hgo _ _ _) ?_)
 go_wp2
 go_ret
 exact ⟨_,rfl,(Below.refl _ w).alloc (Nat.le_refl _) _⟩
theorem Zbz {ρ:Ren} (L:Go.Proofs.SlLaysE0.n41 P ρ) (hen:JQ P (ρ.f 41)) (size bytes:Nat) (hinf:Zai P (ρ.t 23) size bytes=true) (hsz:0<size) (z23:∀ w,(Go.sizeOf (ρ.t 23)).run P w = .ok size w) {xs:List AV} {o:Own}
  (hx:∀ y∈xs,y.cells.length=size∧AX y=true) (hbig:xs.length*bytes≤140737488355328) :
  ACalls P w0 (ρ.f 41) [.list xs o] st fun r s=>r = .list xs (Nz xs.length st.rows)∧s={ st with rows:=QL xs.length size st.rows }:=by
 obtain ⟨i0,z,l,K,G,Y,U⟩:=UA hinf
 refine ⟨hen,fun M w F p m=>?_⟩
 obtain ⟨v,rfl⟩:∃ v,F = #[v]:=by
  have:=m.1
  simp only [List.length_cons,List.length_nil] at this
  exact Array.size_eq_one_iff.1 this
 have hv:R w0 M w v (.list xs o):=m.2 0 (by simp) (by simp)
 have n:∀ (a:Addr) (c:Nat),xs=[]→Calls P (ρ.f 41) #[.slice (some a) 0 c] w fun en D=>∃ v M' r st',en = .returned v∧(r = .list xs (Nz xs.length st.rows)∧st'={ st with rows:=QL xs.length size st.rows })∧Ext w0 M w M' D∧RelSt w0 M' st' D∧R w0 M' D v r:=fun a c hxs=>by
  subst hxs
  refine (Zu L i0 size l G z23 a c w).mono ?_
  rintro en D ⟨b,rfl,d⟩
  obtain ⟨r1,r2⟩:=p.later d w.heap.size 0 (Nat.le_refl _) (.inr rfl)
  exact ⟨_,_,_,st,rfl,⟨rfl,rfl⟩,r2,r1,.emp (fun id=>by simp [Nz])⟩
 cases hv with
 | nil ho =>
  refine (Go.Proofs.AnyE.slices_Clone_nil L 0 0 w).mono ?_
  rintro en D ⟨rfl,rfl⟩
  exact ⟨_,M,_,st,rfl,⟨rfl,rfl⟩,.refl _ _ _,p,.nil (fun id=>by simp [Nz])⟩
 | @emp ad _ ho=>exact n ad 0 rfl
 | @list b off cap _ _ sz us hc hm hcell hu ho =>
  by_cases h0:xs=[]
  ·have:=n ⟨b,off,none⟩ cap h0
   rw [h0]
   rw [h0] at this
   exact this
  have C:xs.length≠0:=fun q=>h0 (List.length_eq_zero_iff.1 q)
  have h:∀ i,i<xs.length→(us i).cells.size=size:=fun i l=>by
   rw [((hu i l).cells).1];exact (hx _ (List.getElem_mem _)).1
  have g:∀ i,i<xs.length→∀ j,j<size→w.cell? ⟨b,off+i*size+j,none⟩=(us i).cells[j]? := fun i l j Z=>by
   have e:sz=size:=((hcell i l).1).symm.trans (h i l)
   subst e
   exact ((hcell i l).2 j Z).2
  refine (Go.Proofs.AnyE.slices_Clone L i0 z size bytes l K G Y U hsz z23 b off xs.length cap (flat us xs.length) w (AU h) (Nat.le_trans hc hm) hbig (fun j u Z=>?_) (fun u O=>?_)).mono ?_
  ·have:=FI h hsz g j u Z
   rwa [Eh] at this
  ·obtain ⟨i,V,N⟩:=List.mem_flatMap.1 O
   have x:i<xs.length:=by simpa using V
   obtain ⟨k,hk,rfl⟩:=List.mem_iff_getElem.1 N
   have H:=(hu i x).cells
   have E:k<(us i).cells.size:=by simpa using hk
   have:=H.2 k E (by rw [←H.1];exact E)
   rw [Array.getElem_toList]
   refine this.oneCell ((hu i x).cellsOne (fun vs Q=>?_) _ (List.getElem_mem _))
   have:=(hx _ (List.getElem_mem x)).2
   rw [Q] at this;cases this
  ·rintro en D ⟨v',rfl,J,_,d⟩
   obtain ⟨M',x1,x2,x3⟩:=Ze4 p d J rfl C h hu
   refine ⟨v',M',_,_,rfl,⟨rfl,rfl⟩,x1,?_,?_⟩
   ·rw [QL,Aj C];exact x2
   ·rw [Nz,Aj C];exact x3
end
theorem Qs {P:Program} {w0:World} {f:FuncId} {args args' cs:List AV} {st s':St} {v:AV} (h:ACalls P w0 f args' st fun r s=>r=v∧s=s') (he:(args++cs).map AV.pubA=args'):NZ P w0 (.clo f cs) args st fun r t=>r=v∧t=s':=h.pub he
end Go.Ev
namespace Go.Proofs.YtmcnjijeocmkgaaGreatDoor
open Go Go.RowKit Go.Ev
def Ii:Go.Shelf.Ren:=⟨fun | 41=>94 | n=>n,fun | 22=>113 | 23=>146 | 4=>4 | n=>n,fun | n=>n⟩
theorem KB:Go.Proofs.SlLaysE0.n41 Tryz.prog Ii:={
 mixed:=by kernel_rfl
 f41:=⟨Tryz.f94.name,by decide,Tryz.func94.trans (congrArg some (by kernel_rfl))⟩
 t4:=Tryz.underlying4
 a4:=Tryz.isAgg4
 z4:=Tryz.sizeOf4
 v4:=Tryz.zeroValue4
 t22:=Tryz.underlying113
 a22:=Tryz.isAgg113
 z22:=Tryz.sizeOf113
 v22:=Tryz.zeroValue113 }
theorem Q4 (w0:World) (B:Ao) (Rw:Av) (L:As) (l:List Part) (h:l.length*32≤140737488355328) :
  ACalls Tryz.prog w0 94 [.list (l.map AK) .none] ⟨B,Rw,L⟩ fun r s=>r = .list (l.map AK) .none∧s=⟨B,Rw,L⟩ :=
 Rm (ρ:=Ii) KB (AZ Tryz.func94 rfl (by decide)) 3 32 (by kernel_rfl) (by decide) Tryz.sizeOf146 (by simp +decide only [go_sem]) (by rw [List.length_map];exact h)
theorem PV (w0:World) (B:Ao) (Rw:Av) (L:As) (l:List Part) (h:l.length*32≤140737488355328) :
  ACalls Tryz.prog w0 94 [.list (l.map AK) .none] ⟨B,Rw,L⟩ fun r s=>r = .list (l.map AK) (Nz l.length Rw)∧s=⟨B,QL l.length 3 Rw,L⟩:=by
 have:=Zbz (P:=Tryz.prog) (w0:=w0) (st:=⟨B,Rw,L⟩) (o := .none) (xs:=l.map AK) (ρ:=Ii) KB (AZ Tryz.func94 rfl (by decide)) 3 32 (by kernel_rfl) (by decide) Tryz.sizeOf146 (by simp +decide only [go_sem]) (by rw [List.length_map];exact h)
 rw [List.length_map] at this
 exact this
def JU:Go.Shelf.Ren:=⟨fun | 41=>356 | n=>n,fun | 22=>22 | 23=>9 | 4=>4 | n=>n,fun | n=>n⟩
theorem NH:Go.Proofs.SlLaysE0.n41 Tryz.prog JU:={
 mixed:=by kernel_rfl
 f41:=⟨Tryz.f356.name,by decide,Tryz.func356.trans (congrArg some (by kernel_rfl))⟩
 t4:=Tryz.underlying4
 a4:=Tryz.isAgg4
 z4:=Tryz.sizeOf4
 v4:=Tryz.zeroValue4
 t22:=Tryz.underlying22
 a22:=Tryz.isAgg22
 z22:=Tryz.sizeOf22
 v22:=Tryz.zeroValue22 }
theorem O0 (w0:World) (B:Ao) (Rw:Av) (L:As) (l:List ByteArray) (h:l.length*16≤140737488355328) :
  ACalls Tryz.prog w0 356 [.list (l.map CB) .none] ⟨B,Rw,L⟩ fun r s=>r = .list (l.map CB) .none∧s=⟨B,Rw,L⟩ :=
 Rm (ρ:=JU) NH (AZ Tryz.func356 rfl (by decide)) 1 16 (by kernel_rfl) (by decide) Tryz.sizeOf9 (by simp +decide only [go_sem]) (by rw [List.length_map];exact h)
end Go.Proofs.YtmcnjijeocmkgaaGreatDoor
namespace Go.Ev
open Go Go.RowKit Go.Shelf Go.Sort Go.Proofs
theorem ZaM {α β:Type} {f:α→List β} {sz:Nat}:∀ {xs:List α},(∀ x∈xs,(f x).length=sz)→(xs.flatMap f).length=xs.length*sz
 | [],_=>by simp
 | x::xs,h=>by
  rw [List.flatMap_cons,List.length_append,h x (List.mem_cons_self ..),ZaM (fun y a=>h y (List.mem_cons_of_mem _ a)),List.length_cons,Nat.succ_mul,Nat.add_comm]
abbrev Xy:List UInt8→List UInt8→Int:=Lib.compareBytes
theorem ZaN:∀ a,Xy a a=0
 | []=>rfl
 | x::a=>by simp only [Xy,Lib.compareBytes,UInt8.lt_irrefl,if_false];exact ZaN a
theorem Si:∀ a b,Xy b a = - Xy a b
 | [],[]=>rfl
 | [],_::_=>rfl
 | _::_,[]=>rfl
 | x::a,y::b=>by
  have ih:=Si a b
  simp only [Xy,Lib.compareBytes] at *
  by_cases h1:x<y
  ·have c:¬ y<x:=fun h=>by rw [UInt8.lt_iff_toNat_lt] at *; omega
   simp [h1,c]
  ·by_cases c:y<x
   ·simp [h1,c]
   ·simp only [h1,c,if_false];exact ih
theorem SS:∀ a b c,Xy a b≤0→Xy b c≤0→Xy a c≤0∧(Xy a b<0∨Xy b c<0→Xy a c<0)
 | [],[],c,_,h=>⟨h,fun q=>q.elim (fun q=>absurd q (by decide)) id⟩
 | [],_::_,[],_,h=>absurd (show (1:Int)≤0 from h) (by decide)
 | [],_::_,_::_,_,_=>⟨show (-1:Int)≤0 by decide,fun _=>show (-1:Int)<0 by decide⟩
 | _::_,[],c,h,_=>absurd (show (1:Int)≤0 from h) (by decide)
 | _::_,_::_,[],_,h=>absurd (show (1:Int)≤0 from h) (by decide)
 | x::a,y::b,z::c,h1,h2=>by
  have ih:=SS a b c
  simp only [Xy,Lib.compareBytes,UInt8.lt_iff_toNat_lt] at *
  by_cases p1:x.toNat<y.toNat
  ·by_cases p2:y.toNat<z.toNat
   ·have:x.toNat<z.toNat:=by omega
    simp [this]
   ·by_cases p3:z.toNat<y.toNat
    ·simp [p2,p3] at h2
    ·have:x.toNat<z.toNat:=by omega
     simp [this]
  ·by_cases p4:y.toNat<x.toNat
   ·simp [p1,p4] at h1
   ·simp only [p1,p4,if_false] at h1
    by_cases p2:y.toNat<z.toNat
    ·have:x.toNat<z.toNat:=by omega
     simp [this]
    ·by_cases p3:z.toNat<y.toNat
     ·simp [p2,p3] at h2
     ·simp only [p2,p3,if_false] at h2
      have e:¬ x.toNat<z.toNat:=by omega
      have d:¬ z.toNat<x.toNat:=by omega
      simp only [p1,p4,p2,p3,e,d,if_false]
      exact ih h1 h2
theorem Zhq {α:Type} (nm:α→ByteArray):SWO (ltOf fun x y:α=>Lib.compareBytes (nm x).data.toList (nm y).data.toList) where
 irrefl x:=by simp only [ltOf,decide_eq_false_iff_not];have:=ZaN (nm x).data.toList;simp only [Xy] at this;omega
 trans x y z h1 h2:=by
  simp only [ltOf,decide_eq_true_eq] at *
  exact (SS (nm x).data.toList (nm y).data.toList (nm z).data.toList (by simp only [Xy];omega) (by simp only [Xy];omega)).2 (.inl h1)
 ntrans x y z h1 h2:=by
  simp only [ltOf,decide_eq_false_iff_not] at *
  have a:=Si (nm x).data.toList (nm y).data.toList
  have b:=Si (nm y).data.toList (nm z).data.toList
  have c:=Si (nm x).data.toList (nm z).data.toList
  have:=(SS (nm z).data.toList (nm y).data.toList (nm x).data.toList (by simp only [Xy] at *; omega) (by simp only [Xy] at *; omega)).1
  simp only [Xy] at *
  omega
def Ji (nm:Nat→ByteArray) (n:Nat):List Nat:=(pdq (ltOf fun i j:Nat=>Lib.compareBytes (nm i).data.toList (nm j).data.toList) (Array.range n) 0 n (Lib.bitLen n) true true).toList
theorem Y8 (nm:Nat→ByteArray) (n:Nat):(Ji nm n).Perm (List.range n)∧∀ i j,i<j→j<n→¬ Lib.compareBytes (nm ((Ji nm n)[j]!)).data.toList (nm ((Ji nm n)[i]!)).data.toList<0:=by
 have h:=pdq_sorts (ltOf fun i j:Nat=>Lib.compareBytes (nm i).data.toList (nm j).data.toList) (Zhq nm) (Array.range n) 0 n (Lib.bitLen n) true true (Nat.zero_le _) (by simp) (Or.inl rfl)
 obtain ⟨⟨m,p,b⟩,f⟩:=h
 have a:(pdq (ltOf fun i j:Nat=>Lib.compareBytes (nm i).data.toList (nm j).data.toList) (Array.range n) 0 n (Lib.bitLen n) true true).size=n:=by simpa using m
 refine ⟨?_,fun i j l c=>?_⟩
 ·have o:((pdq (ltOf fun i j:Nat=>Lib.compareBytes (nm i).data.toList (nm j).data.toList) (Array.range n) 0 n (Lib.bitLen n) true true).extract 0 n).toList=Ji nm n:=by
   unfold Ji
   rw [Array.toList_extract]
   simp only [List.extract,Nat.sub_zero,List.drop_zero]
   exact List.take_of_length_le (by rw [Array.length_toList,a];exact Nat.le_refl _)
  rw [o] at b
  have e:((Array.range n).extract 0 n).toList=List.range n:=by simp [List.extract,Array.toList_range]
  rwa [e] at b
 ·have:=f i j (Nat.zero_le _) l c
  unfold ltOf at this
  have:=of_decide_eq_false this
  unfold Ji
  have g:∀ k,k<n→((pdq (ltOf fun i j:Nat=>Lib.compareBytes (nm i).data.toList (nm j).data.toList) (Array.range n) 0 n (Lib.bitLen n) true true).toList)[k]! = (pdq (ltOf fun i j:Nat=>Lib.compareBytes (nm i).data.toList (nm j).data.toList) (Array.range n) 0 n (Lib.bitLen n) true true)[k]! := fun k d=>by
   rw [getElem!_pos _ k (by rw [Array.length_toList,a];exact d),getElem!_pos _ k (by rw [a];exact d),Array.getElem_toList]
  rw [g i (by omega),g j c]
  exact this
theorem Fg (nm:Nat→ByteArray) (n:Nat):(Ji nm n).length=n:=by simpa using (Y8 nm n).1.length_eq
section
variable {P:Program} {w0:World} {st:St} {M:Mem} {w:World}
theorem RelSt.setVec (h:RelSt w0 M st w) {id ver sz:Nat} {cs cs':List AV} {w':World} (hid:st.rows[id]? = some (.vec ver sz cs)) (hb:Below w0.heap.size w w') (hoth:∀ b,b<w.heap.size→b≠M.blk id→w'.heap[b]? = w.heap[b]?)
  {c':Array Value} {ty:TypeId} (hc:w'.heap[M.blk id]? = some (.cells c' ty (0,0))) (hsz:c'.size=M.cap id*sz) (hle:cs'.length≤c'.size) (hone:∀ x∈cs',x.one=true) (hR:∀ i (h1:i<c'.size) (h2:i<cs'.length),R w0 M w c'[i] cs'[i]) :
  Ext w0 M w M w'∧RelSt w0 M { st with rows:=st.rows.set id (.vec ver sz cs') } w':=by
 have a:id<st.rows.length:=(Ak.1 hid).1
 have g:id<M.NR:=by rw [h.NR];exact a
 obtain ⟨Q,G,C,z,y,K,J,c,E,f8,V,H,D,U⟩:=h.row id _ hid
 have f:KeepsObj w w':=fun b o h1 h2=>by
  have d:=(Array.getElem?_eq_some_iff.1 h1).1
  by_cases q:b=M.blk id
  ·subst q;rw [f8] at h1;cases h1;cases h2
  ·exact (hoth b d q).trans h1
 have j:Ext w0 M w M w' :=
  ⟨Nat.le_refl _,fun _ _=>rfl,Nat.le_refl _,fun _ _=>⟨Nat.le_refl _,fun _=>⟨rfl,rfl,rfl⟩⟩,fun b O v hi hv=>by
   have d:=World.block_lt_of_cell? w _ hv
   refine ⟨?_,hi⟩
   have q:b≠M.blk id:=by
    rintro rfl
    rcases hi with hi | hi
    ·omega
    ·rw [z] at hi;omega
   unfold World.cell? at hv ⊢
   simp only [hoth b d q] at hv ⊢
   exact hv,hb.size,Nat.le_refl _,fun _ _=>rfl,fun _ h1 h2=>absurd h2 (Nat.not_lt.2 h1),fun b o h1 h2 _=>f b o h1 h2⟩
 refine ⟨j,h.below.trans hb,h.N,by simp [h.NR],fun b s=>h.top b (Nat.le_trans hb.size s),h.inj,fun l m u=>?_,fun i x hi=>?_,h.rowinj,h.loop.mono j rfl f⟩
 ·obtain ⟨a1,a2,F,k,a3,a4,a5,a6⟩:=h.box l m u
  have p:l<M.N:=by rw [h.N];exact (Ak.1 u).1
  exact ⟨a1,a2,F,k,by rw [hoth _ (Array.getElem?_eq_some_iff.1 a3).1 (y l p)];exact a3,a4,a5,fun i h1 h2=>(a6 i h1 h2).mono j⟩
 ·by_cases q:i=id
  ·subst q
   rw [List.getElem?_set_self a] at hi
   cases hi
   exact ⟨Q,G,C,z,y,K,J,c',ty,hc,hsz,hle,hone,fun i h1 h2=>(hR i h1 h2).mono j⟩
  ·rw [List.getElem?_set_ne (Ne.symm q)] at hi
   have t:i<M.NR:=by rw [h.NR];exact (Ak.1 hi).1
   have n:=h.row i x hi
   have r:M.blk i≠M.blk id:=fun e=>q (h.rowinj i id t g e)
   exact n.keep j rfl rfl rfl rfl rfl n.ne (hoth _ n.lt r)
end
structure VOne (Rw rows:Av) (sz:Nat) (xs:List AV) (x:AV):Prop where
 pre:Rw <+: rows
 calm:∀ r∈rows.drop Rw.length,∀ y∈r.cells,∀ a b c,Under a b c y
 at_:(xs=[]∧x = .list [] .seed)∨∃ id ver,x = .vec id ver 0 xs.length∧0<xs.length∧Rw.length≤id∧rows[id]? = some (.vec ver sz (xs.flatMap AV.cells))
theorem VOne.none (Rw:Av) (sz:Nat):VOne Rw Rw sz [] (.list [] .seed):=⟨List.prefix_refl _,by simp,.inl ⟨rfl,rfl⟩⟩
theorem VOne.of_eq {Rw rows:List RowA} {sz:Nat} {xs ys:List AV} {x:AV} (h:VOne Rw rows sz xs x) (he:xs=ys):VOne Rw rows sz ys x:=he▸h
theorem VOne.len {Rw rows:List RowA} {sz:Nat} {xs:List AV} {x:AV} (h:VOne Rw rows sz xs x):Rw.length≤rows.length:=h.pre.length_le
theorem VOne.under {Rw rows:List RowA} {sz:Nat} {xs:List AV} {x:AV} (h:VOne Rw rows sz xs x) (nb nl:Nat):Under nb rows.length nl x:=by
 rcases h.at_ with ⟨_,rfl⟩ | ⟨id,ver,rfl,_,_,h3⟩
 ·exact .list (by simp) trivial
 ·exact .vec (Ak.1 h3).1
theorem VOne.cell {Rw rows:List RowA} {sz:Nat} {xs:List AV} {x:AV} (h:VOne Rw rows sz xs x):x.cells=[x]∧AX x=true∧x.pubCell.pubCell=x.pubCell:=by
 rcases h.at_ with ⟨_,rfl⟩ | ⟨id,ver,rfl,_,_,h3⟩<;>exact ⟨rfl,rfl,rfl⟩
theorem VOne.append {P:Program} {t el:TypeId} {sz by8:Nat} {ag:Bool} {Rw rows:List RowA} {xs:List AV} {x y:AV} (h:VOne Rw rows sz xs x) (he:Lr P t=some (el,sz,ag,by8)) (hz:(BB P el).isSome=true) (hs:0<sz)
  (hb:(xs.length+1)*by8≤140737488355328) (hb2:xs.length+1≤4611686018427387904) (hy:y.cells.length=sz∧AX y=true) (hp:y.pub=y) (hu:∀ c∈y.cells,∀ a b d,Under a b d c) (hxs:∀ z∈xs,z.cells.length=sz) :
  ∃ x' rows',VOne Rw rows' sz (xs++[y]) x'∧∀ (B:Ao) (L:As) (o2:Own),BH P ⟨B,rows,L⟩ t x (.list [y] o2)=(True,x',⟨B,rows',L⟩):=by
 have i:=h.len
 have g:CM P el sz by8 xs.length [y]=True:=by
  simp only [CM,hs,hz,List.length_singleton,hb,hb2,true_and,List.mem_singleton,forall_eq,hy,and_self]
 rcases h.at_ with ⟨rfl,rfl⟩ | ⟨id,ver,rfl,h1,h2,h3⟩
 ·refine ⟨.vec rows.length 0 0 1,rows++[.vec 0 sz y.cells],⟨h.pre.trans (List.prefix_append _ _),fun r hr z hz' a b c=>?_,.inr ⟨rows.length,0,rfl,by simp,i,by simp⟩⟩,fun B L o2=>?_⟩
  ·rw [List.drop_append_of_le_length i] at hr
   rcases List.mem_append.1 hr with hr | hr
   ·exact h.calm r hr z hz' a b c
   ·simp only [List.mem_singleton] at hr;subst hr;exact hu z hz' a b c
  ·simp only [BH,he,AP,Bv,List.length_singleton,List.length_nil,List.flatMap_cons,List.flatMap_nil,List.append_nil,hp]
   rw [show CM P el sz by8 0 [y]=True from g]
   simp
 ·have f:=(Ak.1 h3).1
  have e:(xs.flatMap AV.cells).length=xs.length*sz:=ZaM hxs
  refine ⟨.vec id (ver+1) 0 (xs.length+1),rows.set id (.vec (ver+1) sz (xs.flatMap AV.cells++y.cells)),⟨W7 h.pre h2 _,fun r hr z hz' a b c=>?_,.inr ⟨id,ver+1,by rw [List.length_append];rfl,by simp,h2,by simp [f,List.flatMap_append]⟩⟩,fun B L o2=>?_⟩
  ·rw [List.drop_set,Aa] at hr
   rcases List.mem_or_eq_of_mem_set hr with hr | rfl
   ·exact h.calm r hr z hz' a b c
   ·rcases List.mem_append.1 hz' with q | q
    ·exact h.calm (.vec ver sz (xs.flatMap AV.cells)) (by
      rw [List.mem_iff_getElem?]
      exact ⟨id-Rw.length,by rw [List.getElem?_drop,Nat.add_sub_cancel' h2];exact h3⟩) z q a b c
    ·exact hu z q a b c
  ·simp only [BH,he,AP,Bv,List.length_singleton,List.flatMap_cons,List.flatMap_nil,List.append_nil,hp,EJ,h3,if_true]
   rw [g]
   simp only [e,true_and,Nat.le_refl,and_self,Prod.mk.injEq,true_and,List.take_of_length_le (Nat.le_of_eq e)]
end Go.Ev
namespace Go.Proofs.YtmcnjijeocmkgaaGreatDoor
open Go Go.RowKit Go.Ev Go.Shelf Go.Sort Go.Lib
def N2:String:=(Rows.evolveWitnessRow.laid.map (·.1)).getD 2 default
abbrev Pow10 (w:World):Prop:=Lib.TabIs Tryz.prog w N2 .u64 Lib.pow10Tab
theorem Pow10.below {w0 w:World} (h:Pow10 w0) (hb:Below w0.heap.size w0 w):Pow10 w:=by
 unfold Pow10 Lib.TabIs World.var? at *
 cases hg:Tryz.prog.globalNamed N2 with
 | none=>rw [hg] at h;cases h
 | some g =>
  rw [hg] at h
  simp only [Af] at h ⊢
  cases hx:w0.heap[g]? with
  | none=>rw [hx] at h;cases h
  | some o =>
   rw [hb.block g (Array.getElem?_eq_some_iff.1 hx).1]
   exact h
theorem SN (u:Nat):Lib.nDigits u≤u / 10+1:=by
 induction u using Nat.strongRecOn with
 | _ u ih =>
  by_cases h:u<10
  ·rw [Lib.nDigits_small h];omega
  ·rw [Lib.nDigits_big h]
   have:=ih (u / 10) (by omega)
   omega
theorem ZaW (n:Int) (h : -9223372036854775808≤n∧n≤9223372036854775807):(Lib.itoa n).length≤maxLen:=by
 unfold Lib.itoa maxLen
 split
 ·rw [List.length_cons,Lib.decDigits_length];have:=SN n.natAbs;omega
 ·rw [Lib.decDigits_length];have:=SN n.toNat;omega
theorem YS (w0:World) (B:Ao) (Rw:Av) (L:As) (hP:Pow10 w0) (n:Int) (hn : -9223372036854775808≤n∧n≤9223372036854775807) :
  ACalls Tryz.prog w0 134 [Am n] ⟨B,Rw,L⟩ fun v s'=>v = .val (.string ⟨(Lib.itoa n).toArray⟩)∧s'=⟨B,Rw,L⟩ :=
 JX (AZ Tryz.func134 rfl (by decide)) (by
  show decide ((Lib.itoa n).toArray.size≤maxLen)=true
  rw [List.size_toArray]
  exact Ah (ZaW n hn)) fun M w c d a=>by
  have:=L9 (us:=[.int .i64 n]) a
  subst this
  refine (Any.strconv_Itoa Tryz.laysM171 n hn.1 hn.2 w (hP.below d)).mono ?_
  rintro e g ⟨rfl,k,b,rfl⟩
  refine ⟨rfl,rfl,rfl,rfl,by simp [grow],fun i f=>?_⟩
  show (grow (w.drewN k) b).heap[i]? = w.heap[i]?
  rw [heap_grow_old (w.drewN k) b f]
  rfl
end Go.Proofs.YtmcnjijeocmkgaaGreatDoor
namespace Go.Proofs.YtmcnjijeocmkgaaGreatDoor
open Go Go.RowKit Go.Ev
def Jn (b:Int × ByteArray × Int × Ty × List Vl) (g:ByteArray):Bool :=
 Gn b.2.1 g
theorem Xq (w0:World) (B:Ao) (Rw:Av) (L:As) (a0:Int × ByteArray × Int × Ty × List Vl) (la1:Nat) (a1:ByteArray) (hla1:B[la1]? = some ([.val (.string a1)])) (r:Bool) (h:Jn a0 a1=r) :
  ACalls Tryz.prog w0 214 [.agg (Am a0.1::(.val (.string a0.2.1)::(Am a0.2.2.1::((a0.2.2.2.1.cs)++([.list (a0.2.2.2.2.map Di) .none]))))),.box la1 0] ⟨B,Rw,L⟩ fun x st=>x = .val (.bool r)∧st=⟨B,Rw,L⟩:=by
 rw [Jn] at h
 refine hd [.tmp 3] Tryz.func214 Tryz.ntmps214 fun M0 W0 f c d a g e hs=>?_
 simp only [AA]
 have b:=(Ak.1 hla1).1
 have hs:=Ae (Ar hla1) hs
 refine rg [1,2] hs ?_
 refine rg [3] hs ?_
 exact rT h hs a e
theorem U6 (w0:World) (B:Ao) (Rw:Av) (L:As) (a0:Int × ByteArray × Int × Ty × List Vl) (la1:Nat) (a1:ByteArray) (hla1:B[la1]? = some ([.val (.string a1)])) :
  ACalls Tryz.prog w0 214 [.agg (Am a0.1::(.val (.string a0.2.1)::(Am a0.2.2.1::((a0.2.2.2.1.cs)++([.list (a0.2.2.2.2.map Di) .none]))))),.box la1 0] ⟨B,Rw,L⟩ fun x st=>x = .val (.bool (Jn a0 a1))∧st=⟨B,Rw,L⟩:=Xq w0 B Rw L a0 la1 a1 hla1 _ rfl
theorem tgh {α β:Type} {a:α} {b:β} (h:Tg (a,b)):Tg a:=trivial
theorem tgt {α β:Type} {a:α} {b:β} (h:Tg (a,b)):Tg b:=trivial
theorem bI2 {α β:Type} {o:Option α} {x:α} {f:α→Option β} {r:β} {p:Prop} (hx:o=some x) (k:f x=some r→p):o.bind f=some r→p:=fun h=>by
 rw [hx] at h
 exact k h
theorem bI {α β:Type} {o:Option α} {f:α→Option β} {r:β} {p:Prop} (k:∀ y,o=some y→f y=some r→p):o.bind f=some r→p:=fun h=>by
 obtain ⟨y,a,b⟩:=bind_some h
 exact k y a b
theorem gI {β:Type} {c:Prop} [Decidable c] {x:Option β} {r:β} {p:Prop} (k:c→x=some r→p):(if c then x else none)=some r→p:=fun h=>by
 obtain ⟨a,b⟩:=Au h
 exact k a b
theorem xI {α β:Type} {l:List α} {i:Int} {F:α→Option β} {r:β} {A p:Prop} (a:A) (k:∀ x,0≤i→i<l.length→((∀ g:α→AV,(l.map g).getD i.toNat .junk=g x)∧(∀ (g:α→AV) (j:Nat),i=(j:Int)→(l.map g).getD j .junk=g x)∧A)→F x=some r→p):(Cb l i).bind F=some r→p:=fun h=>by
 obtain ⟨x,d,h⟩:=bind_some h
 obtain ⟨a1,b,c⟩:=Bi d
 exact k x a1 b ⟨fun g=>Bj c,fun g j e=>by rw [show j=i.toNat by omega];exact Bj c,a⟩ h
section
variable {P:Program} {w0:World} {n:Nat} {M0:Mem} {W0:World} {ro:Option Nat} {e:Env} {st:St} {Q:AQ}
theorem cI {α β' β:Type} {ta:α} {tb:β'} {F:Prop} {b:Bool} {X Y r:β} (f:F) {c:Operand} {x y:Code} (ht:Tg ta→(b=true∧F)→X=r→D4 P w0 n M0 W0 ro x Q e st) (hf:Tg tb→(b=false∧F)→Y=r→D4 P w0 n M0 W0 ro y Q e st)
  (hc:AM e true c) (hb:Az e c = .val (.bool b)):(if b=true then X else Y)=r→Tg (ta,tb)→D4 P w0 n M0 W0 ro (.cond c x y) Q e st :=
 fun h _=>BQ h f (ht trivial) (hf trivial) hc (fun _=>hb)
theorem cT {c:Operand} {x y:Code} (c1:AM e true c) (c2:Az e c = .val (.bool true)) (c3:D4 P w0 n M0 W0 ro x Q e st):D4 P w0 n M0 W0 ro (.cond c x y) Q e st:=A4 true c1 c2 (fun _=>c3) (fun q=>Bool.noConfusion q)
theorem cF {c:Operand} {x y:Code} (c1:AM e true c) (c2:Az e c = .val (.bool false)) (c3:D4 P w0 n M0 W0 ro y Q e st):D4 P w0 n M0 W0 ro (.cond c x y) Q e st:=A4 false c1 c2 (fun q=>Bool.noConfusion q) (fun _=>c3)
theorem callG {f:FuncId} {c d:Bool} {cs args args':List AV} {k:AV→St→Prop} {v:AV}
  (hA:ACalls P w0 f args' st fun r s=>r=v∧s=st) (hE:(args++cs).map AV.pubA=args') (hk:k v st):JV P w0 c d (.clo f cs) args st k:=Aw v hA hE hk
theorem evI {c:Nat} {d:Bool} {all os:List Oper} {K:Env→St→Prop} (h:evS P w0 n d all (Su P w0 n d all K c) K os e st):Su P w0 n d all K (c+1) os e st:=h
theorem Zjo {m:Nat} {L:List Nat} (t:Tg (m::L)) (hm:P.follows .mixedOrders=true) {id:Nat} {l:List Oper}
  (hev:Su P w0 n true l (fun e1 s1=>Su P w0 n false l (fun e2 s2=>Q .normal (ED L e2) s2) 9 (l.drop m) e1 s1) 9 (l.take m) e st) (hB:Vo l m=true:=by kernel_rfl):D4 P w0 n M0 W0 ro (.region id l.toArray true) Q e st:=S1 hm m 9 9 L hB hev
theorem te {B0 B bs X:List (List AV)} {Rw rows:List RowA} {L:List LoopA} {l:List (Nat × Nat × Ev.Own)} {c:Code} (hq:M0.N=B0.length∧M0.NR=Rw.length∧M0.NL=L.length∧Ev.Calm B0.length Rw.length L.length ⟨B,Rw,L⟩) (ho:Owns Rw rows l)
  (hB:B.length=B0.length) (hbs:(∀ x∈l,x.2.2.under rows.length)→∀ cs∈bs,∀ x∈cs,Under (B0.length+bs.length) rows.length L.length x)
  (he:(∀ x∈l,x.2.2.under rows.length)→Jt (B0.length+bs.length) rows.length L.length e) (h:D4 P w0 n M0 W0 ro c Q e ⟨B++bs,rows,L⟩):D4 P w0 n M0 W0 ro c Q e ⟨B++(bs++X),rows,L⟩ :=
 A9 hq.1 hq.2.1 hq.2.2.1 hB hq.2.2.2 ho (hbs ho.unders) (he ho.unders) h
theorem fI {α β' β:Type} {ta:α} {tb:β'} {F:Prop} {b:Bool} {X Y r:β} {p:Prop} (f:F) (ht:Tg ta→(b=true∧F)→X=r→p) (hf:Tg tb→(b=false∧F)→Y=r→p):(if b=true then X else Y)=r→Tg (ta,tb)→p:=fun h _=>by
 cases b with
 | true=>exact ht trivial ⟨rfl,f⟩ h
 | false=>exact hf trivial ⟨rfl,f⟩ h
theorem ckA {a b c d:Prop} (cc:d) (co:c) (ce:a) (cs:b):a∧b∧c∧d:=⟨ce,cs,co,cc⟩
def preL:List (List AV)→List (List AV)→Prop
 | [],_=>True
 | _::_,[]=>False
 | b::bs,c::cs=>c=b∧preL bs cs
attribute [go_sem] preL.eq_1 preL.eq_2 preL.eq_3
theorem Zam:∀ {bs cs:List (List AV)},preL bs cs→cs=bs++cs.drop bs.length
 | [],_,_=>rfl
 | _::_,[],h=>h.elim
 | b::bs,c::cs,h=>by rw [h.1,List.length_cons,List.drop_succ_cons,List.cons_append,←Zam h.2]
theorem ckI {B bs cs:List (List AV)} {rows:List RowA} {L:List LoopA} (h:preL bs cs):(⟨B++cs,rows,L⟩:St)=⟨B++(bs++cs.drop bs.length),rows,L⟩:=by rw [←Zam h]
theorem ckB {B:List (List AV)} {rows:List RowA} {L:List LoopA}:(⟨B,rows,L⟩:St)=⟨B++([]++[]),rows,L⟩:=by simp
theorem Owns.n1 {Rw rows:List RowA} {sz n m:Nat} {o:Ev.Own} (h:Owns Rw rows [(sz,n,o)]) (e:n=m):Owns Rw rows [(sz,m,o)]:=e▸h
theorem Owns.n2 {Rw rows:List RowA} {sz n m sz' n' m':Nat} {o o':Ev.Own} (h:Owns Rw rows [(sz,n,o),(sz',n',o')]) (e:n=m) (e':n'=m'):Owns Rw rows [(sz,m,o),(sz',m',o')]:=e▸e'▸h
structure AE (P:Program) (t el:TypeId) (sz:Nat) (ag:Bool) (by8:Nat):Prop where
 he:Lr P t=some (el,sz,ag,by8)
 hz:(BB P el).isSome=true
 hs:0<sz
theorem ae {P:Program} {t el:TypeId} {sz by8:Nat} {ag:Bool} {z:List AV} (he:Lr P t=some (el,sz,ag,by8)) (hz:BB P el=some z) (hs:0<sz:=by decide):AE P t el sz ag by8:=⟨he,by rw [hz];rfl,hs⟩
theorem aI {P:Program} {t el:TypeId} {sz by8 n:Nat} {ag:Bool} {Rw rows:List RowA} {l:List (Nat × Nat × Ev.Own)} {o:Ev.Own} {β:Type} {x:Option β} {r:β} {A p:Prop} (a:AE P t el sz ag by8) (hO:Owns Rw rows ((sz,n,o)::l)) (f:A)
  (k:∀ o' rows',Owns Rw rows' ((sz,n+1,o')::l)→((n+1)*by8≤140737488355328∧n+1≤4611686018427387904) →
   ((∀ (xs:List AV) (y:AV) (B:Ao) (L:As) (o2:Ev.Own),xs.length=n→(∀ z∈xs,z.cells.length=sz)→BH P ⟨B,rows,L⟩ t (.list xs o) (.list [y] o2)=((y.cells.length=sz∧AX y=true),.list (xs++[y.pub]) o',⟨B,rows',L⟩))∧A)→x=some r→p) :
  (if (n+1)*by8≤140737488355328∧n+1≤4611686018427387904 then x else none)=some r→p:=fun h=>by
 obtain ⟨c,h⟩:=Au h
 obtain ⟨o',rows',b,q⟩:=hO.append (P:=P) a.he a.hz a.hs 1 c.1 c.2
 refine k o' rows' b c ⟨fun xs y B L o2 e d=>?_,f⟩ h
 have:=q xs [y] B L o2 e rfl d
 simpa only [List.mem_singleton,forall_eq,List.map_cons,List.map_nil] using this
theorem q1 {a:Prop} (x:a):a∧True:=⟨x,trivial⟩
theorem q2 {a b:Prop} (x:a) (y:b):a∧b∧True:=⟨x,y,trivial⟩
theorem q3 {a b c:Prop} (x:a) (y:b) (z:c):a∧b∧c∧True:=⟨x,y,z,trivial⟩
theorem skI {d:Bool} {fv:AV} {args:List AV} {k:AV→St→Prop} (h:k .junk st):JV P w0 false d fv args st k:=Hz h
theorem Zks {B:List (List AV)} {l:Nat} {c:List AV} (h:B[l]? = some c):B[l]? = some c:=h
theorem ZgK {f:FuncId} {c d:Bool} {cs args args':List AV} {k:AV→St→Prop} {v:AV}
  (hA:ACalls P w0 f args' st fun r s=>r=v∧s=st) (hE:args++cs=args') (hk:k v st):JV P w0 c d (.clo f cs) args st k:=Zfu v hA hE hk
end
theorem go {T F C1 C2 C3 C G H HC HK p:Prop} (tL:T) (h:H) (hs:F) (hN:C1) (hNR:C2) (hNL:C3) (hcalm:C) (hO:G) (hc:HC) (hk:HK) (k:T→H→F→C1→C2→C3→C→G→HC→HK→p:=by
    intro tL h hs hN hNR hNL hcalm hO hc hk
    try
      ((with_reducible apply te ⟨hN,hNR,hNL,hcalm⟩ hO)
       case' hB=>first | rfl | simp only [List.length_set]
       case' hbs=>(intro hU;(try simp only [List.mem_cons,List.not_mem_nil,or_false,forall_eq_or_imp,forall_eq] at hU);(first | simp +decide only [go_sem,Nat.reduceAdd,Jt,hU] | simp +decide only [go_sem,Nat.reduceAdd,Jt])<;>(try (repeat' apply Ae))<;>first | omega | assumption | exact hU.1 | exact hU.2 | exact hU.2.1 | exact hU.2.2)
       case' he=>(intro hU;(try simp only [List.mem_cons,List.not_mem_nil,or_false,forall_eq_or_imp,forall_eq] at hU);(first | simp +decide only [go_sem,Nat.reduceAdd,Jt,hU] | simp +decide only [go_sem,Nat.reduceAdd,Jt])<;>(try (repeat' apply Ae))<;>first | omega | assumption | exact hU.1 | exact hU.2 | exact hU.2.1 | exact hU.2.2))
    repeat' first
      | (revert h;(with_reducible refine xI hs ?_);intro x hxa hxb hs h)
      | (revert h;(with_reducible refine bI2 (by assumption) ?_);intro h)
      | (revert h;(with_reducible refine bI ?_);intro y hy h)
      | (revert h;(first | (with_reducible refine aI hc.1 hO hs ?_) | (with_reducible refine aI hc.2.1 hO hs ?_) | (with_reducible refine aI hc.2.2.1 hO hs ?_) | (with_reducible refine aI hc.2.2.2.1 hO hs ?_) | (with_reducible refine aI hc.2.2.2.2.1 hO hs ?_));intro o rows hO hg hs h)
      | (revert h;(first | (with_reducible refine aI hc.1 (hO.full _ 0) hs ?_) | (with_reducible refine aI hc.2.1 (hO.full _ 0) hs ?_) | (with_reducible refine aI hc.2.2.1 (hO.full _ 0) hs ?_) | (with_reducible refine aI hc.2.2.2.1 (hO.full _ 0) hs ?_) | (with_reducible refine aI hc.2.2.2.2.1 (hO.full _ 0) hs ?_));intro o rows hO hg hs h)
      | (revert h;(first | (with_reducible refine aI hc.1 (hO.swap (List.Perm.swap _ _ _)) hs ?_) | (with_reducible refine aI hc.2.1 (hO.swap (List.Perm.swap _ _ _)) hs ?_) | (with_reducible refine aI hc.2.2.1 (hO.swap (List.Perm.swap _ _ _)) hs ?_) | (with_reducible refine aI hc.2.2.2.1 (hO.swap (List.Perm.swap _ _ _)) hs ?_) | (with_reducible refine aI hc.2.2.2.2.1 (hO.swap (List.Perm.swap _ _ _)) hs ?_));intro o rows hO hg hs h)
      | (revert h;(first | (with_reducible refine aI hc.1 ((hO.full _ 0).swap (List.Perm.swap _ _ _)) hs ?_) | (with_reducible refine aI hc.2.1 ((hO.full _ 0).swap (List.Perm.swap _ _ _)) hs ?_) | (with_reducible refine aI hc.2.2.1 ((hO.full _ 0).swap (List.Perm.swap _ _ _)) hs ?_) | (with_reducible refine aI hc.2.2.2.1 ((hO.full _ 0).swap (List.Perm.swap _ _ _)) hs ?_) | (with_reducible refine aI hc.2.2.2.2.1 ((hO.full _ 0).swap (List.Perm.swap _ _ _)) hs ?_));intro o rows hO hg hs h)
      | (revert h;(with_reducible refine gI ?_);intro hg h)
      | (with_reducible apply Ae)
      | ((with_reducible refine hK _ _ ?_);clear hK)
      | (with_reducible refine hk.1 _ _ ?_)
      | (with_reducible refine hk.2.1 _ _ ?_)
      | (with_reducible refine hk.2.2.1 _ _ ?_)
      | (with_reducible exact hk.2.1 _ _ h)
      | (clear hK;(with_reducible refine hK _ _ ?_);clear hK)
      | (clear hK;clear hK;(with_reducible refine hK _ _ ?_);clear hK)
      | ((with_reducible refine evI ?_);simp +decide only [go_sem,Nat.reduceAdd,hs])
      | (with_reducible refine skI ?_)
      | ((with_reducible apply callG)
         case' hA=>first | apply hc.1 | apply hc.2.1 | apply hc.2.2.1 | apply hc.2.2.2.1 | apply hc.2.2.2.2.1 | apply hc.2.2.2.2.2.1 | apply hc.2.2.2.2.2.2.1 | apply hc.2.2.2.2.2.2.2.1
         case' hE=>rfl
         try (any_goals assumption))
      | ((with_reducible apply callG)
         case' hA=>first | apply hc.1 | apply hc.2.1 | apply hc.2.2.1 | apply hc.2.2.2.1 | apply hc.2.2.2.2.1 | apply hc.2.2.2.2.2.1 | apply hc.2.2.2.2.2.2.1 | apply hc.2.2.2.2.2.2.2.1
         any_goals (show _=some _;assumption)
         case' hE=>first | rfl | (simp +decide only [go_sem,Nat.reduceAdd,hs];done) | (simp +decide only [go_sem,Nat.reduceAdd,Vl.cs,Ty.cs,hs];done)
         try (any_goals assumption))
      | ((with_reducible apply ZgK)
         case' hA=>first | apply hc.1 | apply hc.2.1 | apply hc.2.2.1 | apply hc.2.2.2.1 | apply hc.2.2.2.2.1 | apply hc.2.2.2.2.2.1 | apply hc.2.2.2.2.2.2.1 | apply hc.2.2.2.2.2.2.2.1
         case' hE=>rfl
         try (any_goals first | assumption | exact List.prefix_append _ _ | exact List.prefix_refl _ | exact hO.pre))
      | ((with_reducible apply ZgK)
         case' hA=>first | apply hc.1 | apply hc.2.1 | apply hc.2.2.1 | apply hc.2.2.2.1 | apply hc.2.2.2.2.1 | apply hc.2.2.2.2.2.1 | apply hc.2.2.2.2.2.2.1 | apply hc.2.2.2.2.2.2.2.1
         any_goals (show _=some _;assumption)
         case' hE=>first | rfl | (simp +decide only [go_sem,Nat.reduceAdd,hs];done) | (simp +decide only [go_sem,Nat.reduceAdd,Vl.cs,Ty.cs,hs];done)
         try (any_goals first | assumption | exact List.prefix_append _ _ | exact List.prefix_refl _ | exact hO.pre))
      | ((with_reducible refine Zks ?_);first | rfl | (simp +decide only [go_sem,Nat.reduceAdd,hs];done))
      | ((with_reducible apply An);intro K hK)
      | ((with_reducible refine Jp (c:=9) tg (tgh tL) ?_);replace tL:=tgt tL)
      | (with_reducible apply Aq)
      | (revert tL;revert h;(with_reducible apply cI hs)
         case' hc=>simp +decide only [go_sem,Nat.reduceAdd]
         case' hb=>first | (simp +decide only [go_sem,Nat.reduceAdd,hs];done) | (simp +decide only [go_sem,Nat.reduceAdd,hs];rfl)
         case' ht=>intro tL hs h
         case' hf=>intro tL hs h)
      | ((with_reducible refine A1 ?_)
         simp +decide only [go_sem,Nat.reduceAdd,hs]
         first | (have hgt:=Option.some.inj h;subst hgt) | subst h
         first | refine C5 hcalm rfl hO.pre ?_ ⟨?_,?_⟩ | refine EP hcalm rfl hO.pre ?_ ⟨?_,?_⟩ | refine C5 (CO hcalm ?_) (List.length_set ..) hO.pre ?_ ⟨?_,?_⟩ | refine EP (CO hcalm ?_) (List.length_set ..) hO.pre ?_ ⟨?_,?_⟩ | exact hk.1 _ _ rfl _
         all_goals first | rfl | (simp +decide only [go_sem,Nat.reduceAdd,hs];done) | (simp +decide only [go_sem,Nat.reduceAdd,Vl.cs,Ty.cs,hs];done) | (simp_all;done))
      | ((with_reducible refine TS (tgh tL) ?_);replace tL:=tgt tL;first | (with_reducible refine Fv ?_) | (with_reducible refine Ks ?_)
         simp +decide only [go_sem,Nat.reduceAdd])
      | ((with_reducible refine Zjo (tgh tL) PH ?_);replace tL:=tgt tL)
      | ((with_reducible apply cT)
         case' c1=>simp +decide only [go_sem,Nat.reduceAdd]
         case' c2=>first | rfl | (simp +decide only [go_sem,Nat.reduceAdd,hs];done))
      | ((with_reducible apply cF)
         case' c1=>simp +decide only [go_sem,Nat.reduceAdd]
         case' c2=>first | rfl | (simp +decide only [go_sem,Nat.reduceAdd,hs];done))
      | (revert tL;revert h;(with_reducible refine fI hs ?_ ?_)<;>(intro tL hs h;(try have hs:=Ae (of_decide_eq_true hs.1) hs);(try have hs:=Ae (of_decide_eq_false hs.1) hs);try simp +decide only [go_sem,Nat.reduceAdd,hs]))
      | ((with_reducible apply Exists.intro)
         repeat (with_reducible apply Exists.intro)
         (with_reducible apply ckA)
         case' cc=>exact h
         case' co=>first | exact hO | (refine Owns.n1 hO ?_;first | rfl | simp only [List.length_append,List.length_cons,List.length_nil,List.length_map,Nat.zero_add,Nat.add_zero]) | (refine Owns.n2 (hO.swap (List.Perm.swap _ _ _)) ?_ ?_<;>(first | rfl | simp only [List.length_append,List.length_cons,List.length_nil,List.length_map,Nat.zero_add,Nat.add_zero])) | (refine Owns.n2 hO ?_ ?_<;>(first | rfl | simp only [List.length_append,List.length_cons,List.length_nil,List.length_map,Nat.zero_add,Nat.add_zero]))
         case' cs=>first | exact ckB | (refine ckI ?_;first | rfl | (simp +decide only [go_sem,Nat.reduceAdd,hs];done))
         case' ce=>first | rfl | (simp +decide only [go_sem,Nat.reduceAdd,hs];done))
      | exact cl):p:=k tL h hs hN hNR hNL hcalm hO hc hk
def LA (rec:Vl→Option Vl) (n:Nat) (b:Vl) (b2_k22_4:List Vl) (b2_k22_5:List (ByteArray × Vl)):Option Vl :=
 some (Vl.mk b.kind b.int b.scale b.text b2_k22_4 b2_k22_5)
def Gp (rec:Vl→Option Vl) (n:Nat) (h:Vl):Nat→Int→(List Vl)→(List (ByteArray × Vl))→Option Vl
 | 0,_,_,_=>none
 | m+1,b,b2_l25_4,b2_l25_5 =>
  if decide (b<(h.fields.length:Int)) then
   (Cb h.fields b).bind fun g =>
   (rec g.2).bind fun q =>
   if (b2_l25_5.length+1)*104≤140737488355328∧b2_l25_5.length+1≤4611686018427387904 then
    if A6 (b+1) then
     (Gp rec n h m) (b+1) b2_l25_4 (b2_l25_5++([(g.1,q)]))
    else none
   else none
  else
   LA rec n h b2_l25_4 b2_l25_5
def MZ (rec:Vl→Option Vl) (n:Nat) (b:Vl) (b2_k5_4:List Vl):Option Vl :=
 Gp rec n b n 0 b2_k5_4 ([])
def HE (rec:Vl→Option Vl) (n:Nat) (g:Vl):Nat→Int→(List Vl)→Option Vl
 | 0,_,_=>none
 | m+1,b,b2_l8_4 =>
  if decide (b<(g.list.length:Int)) then
   (Cb g.list b).bind fun h =>
   (rec h).bind fun q =>
   if (b2_l8_4.length+1)*88≤140737488355328∧b2_l8_4.length+1≤4611686018427387904 then
    if A6 (b+1) then
     (HE rec n g m) (b+1) (b2_l8_4++([q]))
    else none
   else none
  else
   MZ rec n g b2_l8_4
def N8 (rec:Vl→Option Vl) (n:Nat) (b:Vl):Option Vl :=
 HE rec n b n 0 ([])
def Dt:Nat→Vl→Option Vl
 | 0,_=>none
 | n+1,b=>N8 (Dt n) n b
def Q0 (w0:World) (F:Vl→Option Vl):Prop:=∀ (B:Ao) (Rw:Av) (L:As) (b:Vl) (r:Vl),F b=some r→ACalls Tryz.prog w0 56 [.agg (b.cs)] ⟨B,Rw,L⟩ fun x st=>x = .agg (r.cs)∧st=⟨B,Rw,L⟩
theorem W6 (w0:World) (rec:Vl→Option Vl) (ih:Q0 w0 rec) (n:Nat):Q0 w0 (N8 rec n):=by
 intro B Rw L a0 r h
 rw [N8] at h
 refine hd [.cell 2 34] Tryz.func56 Tryz.ntmps56 fun M0 W0 z y x t J w hs=>?_
 simp only [AA]
 refine rg [1,2] hs ?_
 refine rg [1,2,3] hs ?_
 have hs:=Ae (Vl.cs_eqs a0) hs
 refine rg [1,2,3] hs ?_
 refine AB (fun e st=>∃ (g:List Vl) (i:Ev.Own),Ck e st B Rw L [(1,true,.box B.length 0),(2,true,.box (B.length+1) 0),(3,true,.box (B.length+2) 0)] [a0.cs,Ln,[Am a0.kind,Am a0.int,Am a0.scale,.val (.string a0.text),.list (g.map Di) i,.list ([]) .full]] [(6,g.length,i)] (MZ rec n a0 g=some r)) ?_ ?_
 ·intro K6 F
  refine rg [1,2,3,12,13,14] hs ?_
  apply Aq
  refine AC (fun m e st=>∃ (v:Int) (p:List Vl) (q:Ev.Own),Ck e st B Rw L [(1,true,.box B.length 0),(2,true,.box (B.length+1) 0),(3,true,.box (B.length+2) 0),(12,true,.list (a0.list.map Di) .none),(13,true,Am (a0.list.length:Int)),(14,true,Am v)] [a0.cs,Ln,[Am a0.kind,Am a0.int,Am a0.scale,.val (.string a0.text),.list (p.map Di) q,.list ([]) .full]] [(6,p.length,q)] (HE rec n a0 m v p=some r)) n ⟨0,([]),.full,([]),Rw,ef hs,ef hs,Owns.of_eq ((w).full 6 0) D6,h⟩ ?_
  rintro ml8 e st ⟨v,p,q,Xl8,Rl8,rfl,rfl,w,h⟩ Ul8 Vl8
  cases ml8 with
  | zero=>cases h
  | succ ml8 =>
  rw [HE] at h
  exact go (tg (a:=([1,2,3,12,13,14,15],([1,2,3,12,13,14],[1,2,3,5,12,13,14],[5,1,2,3,12,13,14],[1,2,3,12,13,14],()),[1,2,3],()))) h hs z y x t w (q2 (ae LM Ha) ih) (q2 F (fun e s=>Vl8 ml8 e s (Nat.lt_succ_self _)))
 ·clear h;rintro e st ⟨g,i,Xk5,Rk5,rfl,rfl,w,h⟩
  rw [MZ] at h
  have E:=w.unders
  simp only [List.mem_cons,List.not_mem_nil,or_false,forall_eq_or_imp,forall_eq] at E
  refine td z y x t w ?_
  refine AB (fun e st=>∃ (j:List Vl) (k:List (ByteArray × Vl)) (o:Ev.Own) (l:Ev.Own),Ck e st B Rw L [(2,true,.box (B.length+1) 0),(3,true,.box (B.length+2) 0)] [a0.cs,Ln,[Am a0.kind,Am a0.int,Am a0.scale,.val (.string a0.text),.list (j.map Di) o,.list (k.map RO) l]] [(6,j.length,o),(7,k.length,l)] (LA rec n a0 j k=some r)) ?_ ?_
  ·intro K23 C
   refine rg [2,3,27,28,29] hs ?_
   apply Aq
   refine AC (fun m e st=>∃ (u:Int) (b:List Vl) (c:List (ByteArray × Vl)) (f:Ev.Own) (d:Ev.Own),Ck e st B Rw L [(2,true,.box (B.length+1) 0),(3,true,.box (B.length+2) 0),(27,true,.list (a0.fields.map RO) .none),(28,true,Am (a0.fields.length:Int)),(29,true,Am u)] [a0.cs,Ln,[Am a0.kind,Am a0.int,Am a0.scale,.val (.string a0.text),.list (b.map Di) f,.list (c.map RO) d]] [(6,b.length,f),(7,c.length,d)] (Gp rec n a0 m u b c=some r)) n ⟨0,g,([]),i,.full,([]),Rk5,ef hs,ef hs,Owns.of_eq (((w).full 7 0).swap (List.Perm.swap _ _ _)) D6,h⟩ ?_
   rintro ml25 e st ⟨u,b,c,f,d,Xl25,Rl25,rfl,rfl,w,h⟩ Ul25 Vl25
   cases ml25 with
   | zero=>cases h
   | succ ml25 =>
   rw [Gp] at h
   have E:=w.unders
   simp only [List.mem_cons,List.not_mem_nil,or_false,forall_eq_or_imp,forall_eq] at E
   obtain ⟨H,G⟩:=E
   refine td z y x t w ?_
   refine rg [2,3,27,28,29,30] hs ?_
   apply An;intro K27 D
   refine BQ h hs ?_ ?_<;>intro hs h
   rotate_left
   ·refine sx [2,3] hs C ?_
    exact ⟨b,c,f,d,([]),Rl25,ef hs,ef hs,Owns.of_eq (((w).swap (List.Perm.swap _ _ _)).swap (List.Perm.swap _ _ _)) D6,h⟩
   exact go (tg (a:=([2,3,27,28,29],[2,3,7,27,28,29],[9,2,3,27,28,29],[2,3,27,28,29],()))) h hs z y x t w (q2 (ae Zdm Yf) ih) (q2 D (fun e s=>Vl25 ml25 e s (Nat.lt_succ_self _)))
  ·clear h;rintro e st ⟨j,k,o,l,Xk22,Rk22,rfl,rfl,w,h⟩
   rw [LA] at h
   exact go (tg (a:=([2],()))) h hs z y x t w trivial trivial
theorem IJ (w0:World):∀ n:Nat,Q0 w0 (Dt n)
 | 0=>fun _ _ _ _ _ h=>(nomatch h)
 | n+1=>W6 w0 (Dt n) (IJ w0 n) n
end Go.Proofs.YtmcnjijeocmkgaaGreatDoor
