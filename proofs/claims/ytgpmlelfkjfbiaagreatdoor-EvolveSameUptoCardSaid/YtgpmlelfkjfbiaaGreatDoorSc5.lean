/-
  Part 5 of the proof: rules and walks that the claim's last text uses.
-/
import Derived.Deep.LoopGhost
import Derived.Deep.RegionLaw
import Derived.Lib.SliceRun
import Derived.Lib.Walk
import Derived.Shelf.RegionOpenPlain
import Derived.Shelf.SlBodiesN
import Derived.Shelf.Spec.SlicesInsertGrow
import Derived.WalkKit
import Derived.Test.YtgpmlelfkjfbiaaGreatDoorSc4
set_option linter.unusedSimpArgs false
set_option linter.unusedVariables false
set_option maxRecDepth 100000
set_option maxHeartbeats 4000000
namespace Go.Proofs.YtgpmlelfkjfbiaaGreatDoor
open Go Go.RowKit Go.Ev
def Z0 (x:ByteArray):Int:=NZ (Vl.mk 4 0 0 x [] [])
def Zz:Option ByteArray→List ByteArray→Int
 | _,[]=>0
 | none,x::r=>if Z0 x=0 then Zz (some x) r else Z0 x
 | some p,x::r=>if Z0 x=0 then (if DK x p=true then 7 else if Wq x p=true then 24 else Zz (some x) r) else Z0 x
def Z3 (l:List ByteArray):Nat→Option ByteArray
 | 0=>none
 | i+1=>l[i]?
theorem Zff (x:ByteArray) (h:x.size≤1048576):(Vl.mk 4 0 0 x [] []).ok∧(Vl.mk 4 0 0 x [] []).size=1:=⟨by simp [Vl.ok,ZL,Y6,h],by simp [Vl.size,GF,F9]⟩
theorem Zji (n:Nat) (hn:4≤n) (x:ByteArray) (h:x.size≤1048576):EX n (Gj x)=some (Z0 x):=by
 obtain ⟨b,a⟩:=Zff x h
 have e:Gj x=Vl.mk 4 0 0 x [] []:=rfl
 rw [e]
 exact VF n _ (by rw [a];omega) (by rw [a];omega) b
theorem Zb9 (n:Nat) (hn:4≤n) (t:Ty) (hl:t.words.length≤1000000000) (hz:∀ x∈t.words,x.size≤1048576):∀ (k m i:Nat),i+k=t.words.length→k<m→FQ n t m i=some (Zz (Z3 t.words i) (t.words.drop i))
 | k,0,i,_,h=>absurd h (Nat.not_lt_zero _)
 | 0,m+1,i,hi,_=>by
  rw [FQ,As,Ac (by omega)]
  simp only [Bool.false_eq_true,if_false,KW]
  rw [List.drop_eq_nil_of_le (by omega)]
  cases Z3 t.words i<;>rfl
 | k+1,m+1,i,hi,hm=>by
  have a:i<t.words.length:=by omega
  have ih:=Zb9 n hn t hl hz k m (i+1) (by omega) (by omega)
  rw [FQ,As,Ad a]
  simp only [if_true,Ax a,Ab]
  rw [Zji n hn _ (hz _ (List.getElem_mem a)),List.drop_eq_getElem_cons a]
  simp only [Ab]
  have c:Z3 t.words (i+1)=some t.words[i]:=by simp only [Z3,List.getElem?_eq_getElem a]
  rw [c] at ih
  cases i with
  | zero =>
   simp only [Z3,Zz]
   by_cases hb:Z0 t.words[0]=0
   ·rw [Ae hb,Ad hb]
    simp only [Bool.not_true,Bool.false_eq_true,if_false]
    rw [Af (by decide),Ae (Aw (by omega))]
    exact ih
   ·rw [Af hb,Ac hb];rfl
  | succ j =>
   have b:j<t.words.length:=by omega
   have d:Z3 t.words (j+1)=some t.words[j]:=by simp only [Z3,List.getElem?_eq_getElem b]
   rw [d]
   simp only [Zz]
   by_cases hb:Z0 t.words[j+1]=0
   ·rw [Ae hb,Ad hb]
    simp only [Bool.not_true,Bool.false_eq_true,if_false,Zam,if_true,XF]
    have e:BV (j:Int):=Zaq (by omega)
    simp only [Ae e,Ax b,Ab]
    by_cases h1:DK t.words[j+1] t.words[j]=true
    ·rw [Ae h1,Ae h1]
    ·rw [Af h1,Af h1]
     by_cases h2:Wq t.words[j+1] t.words[j]=true
     ·rw [Ae h2,Ae h2]
     ·rw [Af h2,Af h2,Ae (Aw (by omega))]
      exact ih
   ·rw [Af hb,Ac hb];rfl
def Oa (t:Ty):Int:=if t.min≠0∨t.max≠0 then 3 else if 64<t.words.length then 9 else Zz none t.words
theorem Za9 (n:Nat) (hn:4≤n) (t:Ty) (hw:t.words.length<n) (hl:t.words.length≤1000000000) (hz:∀ x∈t.words,x.size≤1048576):MI n t=some (Oa t):=by
 have e:=Zb9 n hn t hl hz t.words.length n 0 (by omega) hw
 rw [List.drop_zero] at e
 rw [MI,Oa]
 by_cases h:t.min≠0∨t.max≠0
 ·rw [Ae h,Ae (by simpa using h)]
 ·rw [Af h,Af (by simpa using h)]
  by_cases h2:64<t.words.length
  ·rw [Ae h2,Ae (Ad (by omega))]
  ·rw [Af h2,Af (by rw [decide_eq_true_eq];omega)]
   exact e
theorem X6 (n:Nat) (l:List TF) (p:TF→Bool) (hl:l.length≤1000000000) (hn:l.length<n):AD n l (fun x=>some (p x))=some (l.any p):=by
 have e:=Q5 n l p hl l.length n 0 (by omega) hn
 have a:AW n l (fun x=>some (p x))=some (N5 p l 0):=e
 rw [AD,a,Ab]
 congr 1
 have := @List.findIdx_lt_length _ p l
 unfold N5
 rw [List.drop_zero]
 by_cases h:l.findIdx p<l.length
 ·rw [Ae h,Ad (by omega),List.any_eq_true.2 (this.1 h)]
 ·rw [Af h,Ac (by omega)]
  exact (Bool.eq_false_iff.2 fun q=>h (this.2 (List.any_eq_true.1 q))).symm
def JI (k:Int) (b:List TF) (x:TF):Int :=
 if E8 x.2.1=true then
  if ¬ (1≤x.1∧x.1≤9999) then 2
  else if (b.any fun q=>D1 q x)=true then 7
  else if ¬ (1≤x.2.2.1∧x.2.2.1≤3)∨(k=10∧x.2.2.1≠1) then 11
  else if x.2.2.1=3∧x.2.2.2.2.length=0 then 4
  else if 1<x.2.2.2.2.length∨(x.2.2.1≠3∧0<x.2.2.2.2.length) then 3
  else 0
 else 12
def Hi (k:Int):List TF→List TF→Int
 | _,[]=>0
 | b,x::r=>if JI k b x=0 then Hi k (b++[x]) r else JI k b x
theorem Xk {α:Type} (l:List α) (i:Nat) (h:i<l.length):l.take i++[l[i]]=l.take (i+1):=by rw [List.take_succ_eq_append_getElem h]
theorem ZbE (n:Nat) (t:Ty) (i:Nat) (h:i<t.fields.length) (hl:t.fields.length≤1000000000) (hn:t.fields.length<n) (hz:∀ p∈t.fields,p.2.1.size≤1048576):MD n t i=some (JI t.kind (t.fields.take i) t.fields[i]):=by
 rw [MD,Ax h]
 simp only [Ab]
 rw [Ae (Tm (by have:=hz _ (List.getElem_mem h);omega)),JI,Int.toNat_natCast,X6 n _ _ (by rw [List.length_take];omega) (by rw [List.length_take];omega)]
 simp only [Ab]
 by_cases h1:E8 t.fields[i].2.1=true
 rotate_left
 ·rw [Af h1,Bool.eq_false_iff.2 h1];rfl
 rw [Ae h1,h1]
 simp only [Bool.not_true,Bool.false_eq_true,if_false]
 by_cases h2:1≤t.fields[i].1∧t.fields[i].1≤9999
 rotate_left
 ·rw [Ae (show (!(decide (1≤t.fields[i].1)&&decide (t.fields[i].1≤9999)))=true by simp;omega),Ae h2]
 rw [Af (show ¬ (!(decide (1≤t.fields[i].1)&&decide (t.fields[i].1≤9999)))=true by simp;omega),Af (fun q:¬ _=>q h2),Ae (by omega)]
 by_cases h3:((t.fields.take i).any fun q=>D1 q t.fields[i])=true
 ·rw [Ae h3,Ae h3]
 rw [Af h3,Af h3]
 by_cases h4:¬ (1≤t.fields[i].2.2.1∧t.fields[i].2.2.1≤3)∨(t.kind=10∧t.fields[i].2.2.1≠1)
 ·rw [Ae h4,Ae (by simp;omega)]
 rw [Af h4,Af (by simp;omega)]
 by_cases h5:t.fields[i].2.2.1=3∧t.fields[i].2.2.2.2.length=0
 ·rw [Ae h5,Ae (by simp;exact ⟨h5.1,List.length_eq_zero_iff.1 h5.2⟩)]
 rw [Af h5,Af (by simp;intro a b;exact h5 ⟨a,by rw [b];rfl⟩)]
 by_cases h6:1<t.fields[i].2.2.2.2.length∨(t.fields[i].2.2.1≠3∧0<t.fields[i].2.2.2.2.length)
 ·rw [Ae h6,Ae (by simp only [Bool.or_eq_true,Bool.and_eq_true,decide_eq_true_eq,Bool.not_eq_true',decide_eq_false_iff_not];omega)]
 ·rw [Af h6,Af (by simp only [Bool.or_eq_true,Bool.and_eq_true,decide_eq_true_eq,Bool.not_eq_true',decide_eq_false_iff_not];omega)]
theorem XG (n:Nat) (t:Ty) (hl:t.fields.length≤1000000000) (hn:t.fields.length<n) (hz:∀ p∈t.fields,p.2.1.size≤1048576):∀ (k m i:Nat),i+k=t.fields.length→k<m→H6 n t m i=some (Hi t.kind (t.fields.take i) (t.fields.drop i))
 | k,0,i,_,h=>absurd h (Nat.not_lt_zero _)
 | 0,m+1,i,hi,_=>by
  rw [H6,As,Ac (by omega)]
  rw [List.drop_eq_nil_of_le (by omega)];rfl
 | k+1,m+1,i,hi,hm=>by
  have a:i<t.fields.length:=by omega
  rw [H6,As,Ad a,ZbE n t i a hl hn hz,List.drop_eq_getElem_cons a,Hi]
  simp only [if_true,Ab]
  by_cases h:JI t.kind (t.fields.take i) t.fields[i]=0
  ·rw [Ad h,Ae h]
   simp only [Bool.not_true,Bool.false_eq_true,if_false]
   rw [Ae (Aw (by omega)),Xk _ _ a]
   exact XG n t hl hn hz k m (i+1) (by omega) (by omega)
  ·rw [Ac h,Af h];rfl
def QJ (t:Ty):Int :=
 if t.kind<1∨10<t.kind then 11
 else if BE t=true then 3
 else if t.kind=4∧0<t.words.length then Oa t
 else if ((2≤t.kind∧t.kind≤8)∧CH t (AO t.kind).1 (AO t.kind).2=false)∨¬ (0≤t.scale∧t.scale≤12) then 2
 else if (t.kind=8∧t.elem.length=0)∨(t.kind=10∧t.fields.length=0) then 4
 else if 1<t.elem.length then 3
 else if 64<t.fields.length then 9
 else Hi t.kind [] t.fields
def Ty.fit (t:Ty) (n:Nat):Prop:=4≤n∧t.words.length<n∧t.fields.length<n∧t.words.length≤1000000000∧t.fields.length≤1000000000∧t.elem.length≤1000000000∧(∀ x∈t.words,x.size≤1048576)∧∀ p∈t.fields,p.2.1.size≤1048576
def TW (k:Int):Lim:=(H5[k.toNat]?).getD (Lim.mk ⟨#[]⟩ 0 0 false false false false false)
theorem Zfu (k:Int) (h:¬ (k<1∨10<k)):Cb H5 k=some (TW k):=by
 rcases HC h with hk | hk | hk | hk | hk | hk | hk | hk | hk | hk<;>subst hk<;>rfl
theorem ZfD (t:Ty) (h:¬ (t.kind<1∨10<t.kind)):Ky t (TW t.kind)=if BE t=true then 3 else 0:=by
 have a:∀ x:Nat,decide (0<(x:Int)) = !decide ((x:Int)=0):=fun x=>by
  by_cases h:x=0
  ·subst h;rfl
  ·rw [Ad (show 0<(x:Int) by omega),Ac (show ¬ (x:Int)=0 by omega)];rfl
 have b:decide (t.min=0)=true∨decide (t.min=0)=false:=by cases decide (t.min=0)<;>simp
 rw [Ky,BE]
 simp only [a,H3]
 generalize decide (t.min=0)=b1
 generalize decide (t.max=0)=b2
 generalize decide (t.scale=0)=b3
 generalize decide ((t.words.length:Int)=0)=b4
 generalize decide ((t.elem.length:Int)=0)=b5
 generalize decide ((t.fields.length:Int)=0)=b6
 clear b a
 rcases HC h with hk | hk | hk | hk | hk | hk | hk | hk | hk | hk<;>simp only [hk]<;>cases b1<;>cases b2<;>cases b3<;>cases b4<;>cases b5<;>cases b6<;>rfl
theorem Zfs (n:Nat) (t:Ty) (h:t.fit n):Qs n t=some (QJ t):=by
 obtain ⟨D,s,m,v,w,F,x,C⟩:=h
 have o:=Za9 n D t s v x
 have k:=XG n t w m C t.fields.length n 0 (by omega) m
 rw [List.drop_zero,List.take_zero] at k
 have i:H6 n t n 0=some (Hi t.kind [] t.fields):=k
 have u:H9 n t false=some (if 1<t.elem.length∧t.kind=8 then 3 else if 64<t.fields.length then 9 else Hi t.kind [] t.fields):=by
  rw [H9,Af (by decide)]
  by_cases q:1<t.elem.length∧t.kind=8
  ·rw [Ae q,Ae (by simp only [Bool.and_eq_true,decide_eq_true_eq];omega)]
  ·rw [Af q,Af (by simp only [Bool.and_eq_true,decide_eq_true_eq];omega)]
   by_cases q2:64<t.fields.length
   ·rw [Ae q2,Ae (Ad (by omega))]
   ·rw [Af q2,Af (by rw [decide_eq_true_eq];omega),i]
 have l:H9 n t true=some 4:=by rw [H9,Ae rfl]
 have j:¬ BE t=true→J4 n t=some (if (t.kind=8∧t.elem.length=0)∨(t.kind=10∧t.fields.length=0) then 4 else if 1<t.elem.length then 3 else if 64<t.fields.length then 9 else Hi t.kind [] t.fields):=fun r=>by
  have p:1<t.elem.length→t.kind=8:=fun q=>by
   by_cases k8:t.kind=8
   ·exact k8
   ·exfalso;apply r;rw [BE,Ac k8,Ad (show 0<(t.elem.length:Int) by omega)];simp
  rw [J4]
  by_cases q1:t.kind=8∧t.elem.length=0
  ·rw [Ae (by simp only [Bool.and_eq_true,decide_eq_true_eq];omega),l,Ae (.inl q1)]
  rw [Af (by simp only [Bool.and_eq_true,decide_eq_true_eq];omega)]
  by_cases q2:t.kind=10∧t.fields.length=0
  ·rw [Ad q2.1,Ad (show (t.fields.length:Int)=0 by omega),show (true&&true)=true from rfl,l,Ae (.inr q2)]
  ·have e:(decide (t.kind=10)&&decide ((t.fields.length:Int)=0))=false:=by
    rw [Bool.eq_false_iff];simp only [ne_eq,Bool.and_eq_true,decide_eq_true_eq];omega
   rw [e,u,Af (show ¬ ((t.kind=8∧t.elem.length=0)∨(t.kind=10∧t.fields.length=0)) by omega)]
   by_cases q3:1<t.elem.length
   ·rw [Ae ⟨q3,p q3⟩,Ae q3]
   ·rw [Af (fun q=>q3 q.1),Af q3]
 rw [Qs,QJ]
 by_cases q1:t.kind<1∨10<t.kind
 ·rw [Ae q1,Ae (by simp;omega)]
 rw [Af q1,Af (by simp;omega),Zfu _ q1]
 simp only [Ab]
 rw [ZfD t q1]
 by_cases q2:BE t=true
 ·rw [Ae q2,Ae q2];rfl
 rw [Af q2,Af q2,Af (by decide)]
 have d:=j q2
 by_cases q3:t.kind=4∧0<t.words.length
 ·rw [Ae q3,Ae (by simp only [Bool.and_eq_true,decide_eq_true_eq];omega),o]
  simp only [Ab]
  by_cases z:Oa t=0
  ·rw [Ad z,z,Af (by decide),d]
   have G:t.elem.length=0:=by
    rcases Nat.eq_zero_or_pos t.elem.length with e | e
    ·exact e
    ·exfalso;apply q2;rw [BE,Ac (show ¬ t.kind=8 by omega),Ad (show 0<(t.elem.length:Int) by omega)];simp
   have y:t.fields.length=0:=by
    rcases Nat.eq_zero_or_pos t.fields.length with e | e
    ·exact e
    ·exfalso;apply q2;rw [BE,Ac (show ¬ t.kind=9 by omega),Ac (show ¬ t.kind=10 by omega),Ad (show 0<(t.fields.length:Int) by omega)];simp
   rw [Af (by omega),Af (by omega),Af (by omega),List.length_eq_zero_iff.1 y];rfl
  ·rw [Ac z];rfl
 rw [Af q3,Af (by simp only [Bool.and_eq_true,decide_eq_true_eq];omega)]
 have g:t.kind≠3→t.scale=0:=fun c=>by
  by_cases z:t.scale=0
  ·exact z
  ·exfalso;apply q2;rw [BE,Ac c,Ac z];simp
 have E:((TW t.kind).bounds&&(((decide (t.max<t.min))||(decide (t.min<(TW t.kind).low)))||(decide ((TW t.kind).high<t.max))))=((decide (2≤t.kind∧t.kind≤8)) && !(CH t (AO t.kind).1 (AO t.kind).2)):=by
  have g1:∀ a b:Int,decide (a<b) = !decide (b≤a):=fun a b=>by
   by_cases q:a<b
   ·rw [Ad q,Ac (by omega)];rfl
   ·rw [Ac q,Ad (by omega)];rfl
  simp only [g1,CH]
  rcases HC q1 with hk | hk | hk | hk | hk | hk | hk | hk | hk | hk<;>simp only [hk] <;>
   simp [TW,H5,AO,Nw,LF,Bool.or_comm,Bool.or_left_comm,Bool.or_assoc]
 have hs:(TW t.kind).scale=decide (t.kind=3):=by
  rcases HC q1 with hk | hk | hk | hk | hk | hk | hk | hk | hk | hk<;>simp only [hk]<;>rfl
 rw [E,hs]
 by_cases q4:(2≤t.kind∧t.kind≤8)∧CH t (AO t.kind).1 (AO t.kind).2=false
 ·rw [Ad q4.1,Ae (Or.inl q4),q4.2];rfl
 have f:(decide (2≤t.kind∧t.kind≤8) && !(CH t (AO t.kind).1 (AO t.kind).2))=false:=by
  rw [Bool.eq_false_iff];simp only [ne_eq,Bool.and_eq_true,decide_eq_true_eq,Bool.not_eq_true'];exact q4
 rw [f,Af (by decide)]
 by_cases q5:¬ (0≤t.scale∧t.scale≤12)
 ·have c:t.kind=3:=by
   by_cases c:t.kind=3
   ·exact c
   ·exact absurd (g c) (by omega)
  have e:(decide (t.kind=3) && !(decide (0≤t.scale)&&decide (t.scale≤12)))=true:=by simp [c];omega
  rw [Ae (Or.inr q5),e];rfl
 ·have e:(decide (t.kind=3) && !(decide (0≤t.scale)&&decide (t.scale≤12)))=false:=by
   rw [Bool.eq_false_iff];simp;omega
  rw [Af (fun q:_∨_=>q.elim q4 q5),e,MH,Af (by decide),d]
inductive Ty.Good:Ty→Prop
 | mk (t:Ty) (h:QJ t=0) (he:∀ x∈t.elem,Ty.Good x) (hf:∀ p∈t.fields,Ty.Good p.2.2.2.1):Ty.Good t
inductive Vl.Good:Vl→Prop
 | mk (v:Vl) (h:FK v=0) (hp:∀ x∈BL v,Vl.Good x):Vl.Good v
theorem YP:∀ (l:List (Nat × Vl)) (c:Int),RX l c=0→∀ p∈l,FK p.2=0
 | [],_,_,p,hp=>by simp at hp
 | q::r,c,h,p,hp=>by
  rw [RX] at h
  split at h
  ·cases h
  ·split at h
   ·cases h
   ·split at h
    ·rename_i h0
     rcases List.mem_cons.1 hp with rfl | hp
     ·exact h0
     ·exact YP r (c+1) h p hp
    ·rename_i h0;exact absurd h h0
theorem R7:∀ (k:Nat) (v:Vl) (lv:Nat),v.size≤k→(∀ p∈Fa lv v,FK p.2=0)→v.Good
 | 0,v,lv,h,_=>absurd h (by have:=v.size_eq;omega)
 | k+1,v,lv,h,hp=>by
  rw [ML] at hp
  refine .mk v (hp (lv,v) (List.mem_cons_self ..)) fun x a=>?_
  have:=IV a
  exact R7 k x (lv+1) (by omega) fun p b=>hp p (List.mem_cons_of_mem _ (List.mem_flatMap.2 ⟨x,a,b⟩))
theorem N8 {v:Vl} (h:NZ v=0):v.Good:=R7 v.size v 1 (Nat.le_refl _) (YP _ _ h)
theorem O0 {v:Vl} (h:FK v=0):¬ (v.kind<1∨10<v.kind)∧¬ Dh v=true:=by
 rw [FK] at h
 by_cases h1:B1 v=true
 ·rw [Ae h1] at h;exact absurd h (by decide)
 rw [Af h1] at h
 by_cases h2:v.kind<1∨10<v.kind
 ·rw [Ae h2] at h;exact absurd h (by decide)
 rw [Af h2] at h
 by_cases h3:Dh v=true
 ·rw [Ae h3] at h;exact absurd h (by decide)
 exact ⟨h2,h3⟩
theorem Q3 {t:Ty} (h:QJ t=0):¬ (t.kind<1∨10<t.kind)∧¬ BE t=true∧¬ ((t.kind=8∧t.elem.length=0)∨(t.kind=10∧t.fields.length=0)):=by
 rw [QJ] at h
 by_cases h1:t.kind<1∨10<t.kind
 ·rw [Ae h1] at h;exact absurd h (by decide)
 rw [Af h1] at h
 by_cases h2:BE t=true
 ·rw [Ae h2] at h;exact absurd h (by decide)
 rw [Af h2] at h
 refine ⟨h1,h2,?_⟩
 by_cases h3:t.kind=4∧0<t.words.length
 ·omega
 rw [Af h3] at h
 by_cases h4:((2≤t.kind∧t.kind≤8)∧CH t (AO t.kind).1 (AO t.kind).2=false)∨¬ (0≤t.scale∧t.scale≤12)
 ·rw [Ae h4] at h;exact absurd h (by decide)
 rw [Af h4] at h
 by_cases h5:(t.kind=8∧t.elem.length=0)∨(t.kind=10∧t.fields.length=0)
 ·rw [Ae h5] at h;exact absurd h (by decide)
 exact h5
theorem Ty.scale0 {t:Ty} (h:¬ BE t=true) (k:t.kind≠3):t.scale=0:=by
 by_cases z:t.scale=0
 ·exact z
 ·exfalso;apply h;rw [BE,Ac k,Ac z];simp
theorem Vl.scale0 {v:Vl} (h:¬ Dh v=true) (k:v.kind≠3):v.scale=0:=by
 by_cases z:v.scale=0
 ·exact z
 ·exfalso;apply h;rw [Dh,Ac k,Ac z];simp
theorem MK {α:Type} (p:α→Bool) (l:List α):decide (0≤N5 p l 0)=l.any p:=by
 have := @List.findIdx_lt_length _ p l
 unfold N5
 rw [List.drop_zero]
 by_cases h:l.findIdx p<l.length
 ·rw [Ae h,Ad (by omega),List.any_eq_true.2 (this.1 h)]
 ·rw [Af h,Ac (by omega)]
  exact (Bool.eq_false_iff.2 fun q=>h (this.2 (List.any_eq_true.1 q))).symm
theorem Zak {α:Type} (p:α→Bool) (l:List α):decide (N5 p l 0<0) = !l.any p:=by
 rw [←MK]
 by_cases h:0≤N5 p l 0
 ·rw [Ad h,Ac (by omega)];rfl
 ·rw [Ac h,Ad (by omega)];rfl
theorem ZcO (n:Nat) (l:List (Vl)) (f:Vl→Option Bool) (p:Vl→Bool) (hf:∀ x∈l,f x=some (p x)) (hl:l.length≤1000000000):∀ (k m i:Nat),i+k=l.length→k<m→B6 n l f m i=some (N5 p l i)
 | k,0,i,_,h=>absurd h (Nat.not_lt_zero _)
 | 0,m+1,i,hi,_=>by
  rw [B6,As,Ac (by omega),Lm p l i (by omega)]
  rfl
 | k+1,m+1,i,hi,hm=>by
  have a:i<l.length:=by omega
  rw [B6,As,Ad a,Jn p l i a]
  simp only [if_true,Ax a,Ab,hf _ (List.getElem_mem a)]
  by_cases h:p l[i]=true
  ·rw [Ae h,Ae h]
  ·rw [Af h,Af h,Ae (Aw (by omega))]
   exact ZcO n l f p hf hl k m (i+1) (by omega) (by omega)
theorem WF (n:Nat) (l:List (ByteArray × Vl)) (f:ByteArray × Vl→Option Bool) (p:ByteArray × Vl→Bool) (hf:∀ x∈l,f x=some (p x)) (hl:l.length≤1000000000):∀ (k m i:Nat),i+k=l.length→k<m→BF n l f m i=some (N5 p l i)
 | k,0,i,_,h=>absurd h (Nat.not_lt_zero _)
 | 0,m+1,i,hi,_=>by
  rw [BF,As,Ac (by omega),Lm p l i (by omega)]
  rfl
 | k+1,m+1,i,hi,hm=>by
  have a:i<l.length:=by omega
  rw [BF,As,Ad a,Jn p l i a]
  simp only [if_true,Ax a,Ab,hf _ (List.getElem_mem a)]
  by_cases h:p l[i]=true
  ·rw [Ae h,Ae h]
  ·rw [Af h,Af h,Ae (Aw (by omega))]
   exact WF n l f p hf hl k m (i+1) (by omega) (by omega)
theorem Zm (n:Nat) (l:List (TF)) (f:TF→Option Bool) (p:TF→Bool) (hf:∀ x∈l,f x=some (p x)) (hl:l.length≤1000000000):∀ (k m i:Nat),i+k=l.length→k<m→AN n l f m i=some (N5 p l i)
 | k,0,i,_,h=>absurd h (Nat.not_lt_zero _)
 | 0,m+1,i,hi,_=>by
  rw [AN,As,Ac (by omega),Lm p l i (by omega)]
  rfl
 | k+1,m+1,i,hi,hm=>by
  have a:i<l.length:=by omega
  rw [AN,As,Ad a,Jn p l i a]
  simp only [if_true,Ax a,Ab,hf _ (List.getElem_mem a)]
  by_cases h:p l[i]=true
  ·rw [Ae h,Ae h]
  ·rw [Af h,Af h,Ae (Aw (by omega))]
   exact Zm n l f p hf hl k m (i+1) (by omega) (by omega)
theorem Zct (n:Nat) (l:List ByteArray) (w:ByteArray) (hl:(l).length≤1000000000):∀ (k m i:Nat),i+k=(l).length→k<m→C5 n l w m i=some (N5 (fun x=>DK w x) (l) i)
 | k,0,i,_,h=>absurd h (Nat.not_lt_zero _)
 | 0,m+1,i,hi,_=>by
  rw [C5,As,Ac (by omega),Lm _ (l) i (by omega)]
  rfl
 | k+1,m+1,i,hi,hm=>by
  have a:i<(l).length:=by omega
  rw [C5,As,Ad a,Jn _ (l) i a]
  simp only [if_true,Ax a,Ab]
  by_cases h:(fun x=>DK w x) (l)[i]=true
  ·rw [Ae h,Ae h]
  ·rw [Af h,Af h,Ae (Aw (by omega))]
   exact Zct n l w hl k m (i+1) (by omega) (by omega)
theorem Qd (n:Nat) (l:List ByteArray) (w:ByteArray) (hl:l.length≤1000000000) (hn:l.length<n):Bz n l w=some (l.any fun x=>DK w x):=by
 have e:Gy n l w=some (N5 (fun x=>DK w x) l 0):=Zct n l w hl l.length n 0 (by omega) hn
 rw [Bz,e,Ab,MK]
theorem Xd (n:Nat) (l:List Vl) (f:Vl→Option Bool) (p:Vl→Bool) (hf:∀ x∈l,f x=some (p x)) (hl:l.length≤1000000000) (hn:l.length<n):Dj n l f=some (l.any p):=by
 have e:E1 n l f=some (N5 p l 0):=ZcO n l f p hf hl l.length n 0 (by omega) hn
 rw [Dj,e,Ab,MK]
theorem JU (n:Nat) (l:List TF) (f:TF→Option Bool) (p:TF→Bool) (hf:∀ x∈l,f x=some (p x)) (hl:l.length≤1000000000) (hn:l.length<n):AD n l f=some (l.any p):=by
 have e:AW n l f=some (N5 p l 0):=Zm n l f p hf hl l.length n 0 (by omega) hn
 rw [AD,e,Ab,MK]
def ZcQ (v:Vl) (w:ByteArray):Bool:=v.fields.any fun x=>DK x.1 w
theorem ZbH (n:Nat) (v:Vl) (w:ByteArray) (hk:v.kind=9) (hs:v.size≤1000000000) (hn:v.size<n):∃ u,G5 n v w=some (u,ZcQ v w):=by
 have a:=OQ v
 have e:Ce n v.fields (fun x=>some (GM x w))=some (N5 (fun x:ByteArray × Vl=>DK x.1 w) v.fields 0):=WF n v.fields _ _ (fun x _=>rfl) (by omega) v.fields.length n 0 (by omega) (by omega)
 rw [G5,ME,e]
 simp only [Ab]
 rw [Ad hk,Zak]
 cases h:ZcQ v w with
 | false =>
  unfold ZcQ at h
  rw [h]
  exact ⟨_,rfl⟩
 | true =>
  unfold ZcQ at h
  rw [h]
  simp only [Bool.not_true,Bool.or_self,Bool.false_eq_true,if_false]
  rcases Rk (fun x:ByteArray × Vl=>DK x.1 w) v.fields v.fields.length 0 (by omega) with q | ⟨i,hi,q,_⟩
  ·have:=MK (fun x:ByteArray × Vl=>DK x.1 w) v.fields
   rw [q,h] at this
   cases this
  ·rw [q,Ax hi]
   simp only [Ab]
   have:=v.field_size _ (List.getElem_mem hi)
   rw [Rj n _ (by omega) (by omega)]
   exact ⟨_,rfl⟩
theorem Zbo (a b:ByteArray):DK a b=DK b a:=by rw [Bool.eq_iff_iff,E3,E3];exact eq_comm
def XI (t:Ty) (k:Nat):Bool:=decide (t.min≤(k:Int))&&decide ((k:Int)≤t.max)
def Zdq (v:Vl) (x:TF):Bool:=(!ZcQ v x.2.1)&&(!(decide (x.2.2.1=2)))
theorem Ty.small_elem {t x:Ty} (h:t.small) (hx:x∈t.elem):x.small:=by
 obtain ⟨g,f,e⟩:=h
 have a:=t.elem_size x hx
 have b:=t.depth_eq
 have c:=(Nv t.elem (D9 t.elem)).1 (Nat.le_refl _) x hx
 have d:D9 t.elem≤Max.max (D9 t.elem) (Db t.fields):=Nat.le_max_left _ _
 exact ⟨by omega,by omega,(t.ok_eq.1 e).2.2.1 x hx⟩
theorem Ty.small_field {t:Ty} {p:TF} (h:t.small) (hx:p∈t.fields):p.2.2.2.1.small:=by
 obtain ⟨g,f,e⟩:=h
 have a:=t.field_size p hx
 have b:=t.depth_eq
 have c:=(K0 t.fields (Db t.fields)).1 (Nat.le_refl _) p hx
 have d:Db t.fields≤Max.max (D9 t.elem) (Db t.fields):=Nat.le_max_right _ _
 exact ⟨by omega,by omega,((t.ok_eq.1 e).2.2.2 p hx).2.1⟩
theorem ET {t x:Ty} (h:t.Good) (hx:x∈t.elem):x.Good:=by cases h with | mk _ a b c=>exact b x hx
theorem BK {t:Ty} {p:TF} (h:t.Good) (hx:p∈t.fields):p.2.2.2.1.Good:=by cases h with | mk _ a b c=>exact c p hx
theorem Ta {t:Ty} (h:t.Good):QJ t=0:=by cases h with | mk _ a b c=>exact a
theorem L6 {v:Vl} (h:v.Good):FK v=0:=by cases h with | mk _ a b=>exact a
theorem M6 {v x:Vl} (h:v.Good) (hx:x∈BL v):x.Good:=by cases h with | mk _ a b=>exact b x hx
def TX (k:Int) (x:TF):Prop:=(1≤x.2.2.1∧x.2.2.1≤3)∧(k=10→x.2.2.1=1)∧(x.2.2.1=3→x.2.2.2.2.length=1)∧(x.2.2.1≠3→x.2.2.2.2.length=0)
theorem Zl {k:Int} {b:List TF} {x:TF} (h:JI k b x=0):TX k x:=by
 rw [JI] at h
 by_cases h1:E8 x.2.1=true
 rotate_left
 ·rw [Af h1] at h;exact absurd h (by decide)
 rw [Ae h1] at h
 by_cases h2:¬ (1≤x.1∧x.1≤9999)
 ·rw [Ae h2] at h;exact absurd h (by decide)
 rw [Af h2] at h
 by_cases h3:(b.any fun q=>D1 q x)=true
 ·rw [Ae h3] at h;exact absurd h (by decide)
 rw [Af h3] at h
 by_cases h4:¬ (1≤x.2.2.1∧x.2.2.1≤3)∨(k=10∧x.2.2.1≠1)
 ·rw [Ae h4] at h;exact absurd h (by decide)
 rw [Af h4] at h
 by_cases h5:x.2.2.1=3∧x.2.2.2.2.length=0
 ·rw [Ae h5] at h;exact absurd h (by decide)
 rw [Af h5] at h
 by_cases h6:1<x.2.2.2.2.length∨(x.2.2.1≠3∧0<x.2.2.2.2.length)
 ·rw [Ae h6] at h;exact absurd h (by decide)
 unfold TX
 omega
theorem RL {k:Int}:∀ (l b:List TF),Hi k b l=0→∀ x∈l,TX k x
 | [],_,_,x,hx=>by simp at hx
 | y::r,b,h,x,hx=>by
  rw [Hi] at h
  by_cases q:JI k b y=0
  ·rw [Ae q] at h
   rcases List.mem_cons.1 hx with rfl | hx
   ·exact Zl q
   ·exact RL r _ h x hx
  ·rw [Af q] at h;exact absurd h q
theorem Zb {t:Ty} (h:¬ BE t=true):(t.kind≠8→t.elem.length=0)∧(t.kind≠9→t.kind≠10→t.fields.length=0):=by
 refine ⟨fun k=>?_,fun a b=>?_⟩
 ·rcases Nat.eq_zero_or_pos t.elem.length with e | e
  ·exact e
  ·exfalso;apply h;rw [BE,Ac k,Ad (show 0<(t.elem.length:Int) by omega)];simp
 ·rcases Nat.eq_zero_or_pos t.fields.length with e | e
  ·exact e
  ·exfalso;apply h;rw [BE,Ac a,Ac b,Ad (show 0<(t.fields.length:Int) by omega)];simp
theorem Um {t:Ty} (h:QJ t=0):¬ (t.kind<1∨10<t.kind)∧(t.kind≠8→t.elem.length=0)∧(t.kind=8→t.elem.length=1∧0≤t.min∧t.min≤256)∧(t.kind≠9→t.kind≠10→t.fields.length=0)∧(t.kind=10→0<t.fields.length)∧∀ x∈t.fields,TX t.kind x:=by
 obtain ⟨a,c,f⟩:=Q3 h
 obtain ⟨e,b⟩:=Zb c
 rw [QJ,Af a,Af c] at h
 by_cases h3:t.kind=4∧0<t.words.length
 ·have:=b (by omega) (by omega)
  have j:t.fields=[]:=List.length_eq_zero_iff.1 this
  exact ⟨a,e,by omega,b,by omega,by rw [j];simp⟩
 rw [Af h3] at h
 by_cases h4:((2≤t.kind∧t.kind≤8)∧CH t (AO t.kind).1 (AO t.kind).2=false)∨¬ (0≤t.scale∧t.scale≤12)
 ·rw [Ae h4] at h;exact absurd h (by decide)
 rw [Af h4,Af f] at h
 by_cases h6:1<t.elem.length
 ·rw [Ae h6] at h;exact absurd h (by decide)
 rw [Af h6] at h
 by_cases h7:64<t.fields.length
 ·rw [Ae h7] at h;exact absurd h (by decide)
 rw [Af h7] at h
 refine ⟨a,e,fun i=>?_,b,by omega,RL _ _ h⟩
 have d:CH t (AO t.kind).1 (AO t.kind).2=true:=by
  cases q:CH t (AO t.kind).1 (AO t.kind).2
  ·exact absurd (Or.inl ⟨by omega,q⟩) h4
  ·rfl
 have g:(AO t.kind)=(0,256):=by rw [i];rfl
 rw [g,CH] at d
 simp only [Bool.and_eq_true,decide_eq_true_eq] at d
 omega
theorem Ty.fit_of {t:Ty} {n:Nat} (ht:t.small) (hn:t.size+2600000≤n):t.fit n:=by
 have e:=t.lens
 obtain ⟨f,_,b⟩:=ht
 obtain ⟨h,d,g,c⟩:=t.ok_eq.1 b
 exact ⟨by omega,by omega,by omega,by omega,by omega,by omega,d,fun p a=>(c p a).1⟩
theorem PO:∀ (k:Nat) (v:Vl) (lv:Nat),v.size≤k→(Fa lv v).length≤v.size
 | 0,v,lv,h=>absurd h (by have:=v.size_eq;omega)
 | k+1,v,lv,h=>by
  have c:=Za8 v
  rw [ML,List.length_cons,List.length_flatMap]
  have:((BL v).map fun x=>(Fa (lv+1) x).length).sum≤((BL v).map Vl.size).sum:=by
   have hall:∀ x∈BL v,(Fa (lv+1) x).length≤x.size:=fun x b=>PO k x (lv+1) (by have:=IV b;omega)
   clear c
   generalize BL v=l at hall
   induction l with
   | nil=>simp
   | cons a r ih =>
    have:=hall a (List.mem_cons_self ..)
    have:=ih fun x b=>hall x (List.mem_cons_of_mem _ b)
    simp only [List.map_cons,List.sum_cons]
    omega
  omega
theorem Ys:∀ (l:List (Nat × Vl)) (c:Int),0≤c→c+l.length≤1000000000→H7 l c=some (c+l.length)
 | [],c,_,_=>by rw [H7];simp
 | p::r,c,h1,h2=>by
  rw [List.length_cons] at h2
  rw [H7,Ae (by unfold BV;omega),Ys r (c+1) (by omega) (by omega),List.length_cons]
  congr 1
  omega
theorem YU (v:Vl) (hs:v.size≤1048576):MC v=some ((Fa 1 v).length:Int):=by
 have:=PO v.size v 1 (Nat.le_refl _)
 rw [MC,Ae ⟨by have:=v.depth_size;omega,G3 _ v (Nat.le_refl _) (by omega)⟩,Ys _ 0 (by omega) (by omega)]
 congr 1
 omega
theorem XS {s:ByteArray} (h:E8 s=true):s.size≤32:=by
 unfold E8 ZaB at h
 simp only [Bool.and_eq_true,decide_eq_true_eq] at h
 have:s.size=s.data.toList.length:=by simp
 omega
theorem Zbb {s:ByteArray} (h:DK s ⟨#[]⟩=true):s.size=0:=by
 rw [Zan] at h;exact of_decide_eq_true h
theorem Zai (k:Int):∀ (l b:List TF),Hi k b l=0→∀ x∈l,∃ b',JI k b' x=0
 | [],_,_,x,hx=>absurd hx (by simp)
 | y::r,b,h,x,hx=>by
  rw [Hi] at h
  by_cases q:JI k b y=0
  ·rw [Ae q] at h
   rcases List.mem_cons.1 hx with rfl | hx
   ·exact ⟨b,q⟩
   ·exact Zai k r _ h x hx
  ·rw [Af q] at h;exact absurd h q
theorem YF {k:Int} {b:List TF} {x:TF} (h:JI k b x=0):E8 x.2.1=true∧(1≤x.1∧x.1≤9999)∧(1≤x.2.2.1∧x.2.2.1≤3)∧(k=10→x.2.2.1=1)∧(x.2.2.1=3→x.2.2.2.2.length=1)∧(x.2.2.1≠3→x.2.2.2.2=[]):=by
 unfold JI at h
 by_cases h1:E8 x.2.1=true
 ·rw [Ae h1] at h
  by_cases h2:¬ (1≤x.1∧x.1≤9999)
  ·rw [Ae h2] at h;exact absurd h (by decide)
  rw [Af h2] at h
  by_cases h3:(b.any fun q=>D1 q x)=true
  ·rw [Ae h3] at h;exact absurd h (by decide)
  rw [Af h3] at h
  by_cases h4:¬ (1≤x.2.2.1∧x.2.2.1≤3)∨(k=10∧x.2.2.1≠1)
  ·rw [Ae h4] at h;exact absurd h (by decide)
  rw [Af h4] at h
  by_cases h5:x.2.2.1=3∧x.2.2.2.2.length=0
  ·rw [Ae h5] at h;exact absurd h (by decide)
  rw [Af h5] at h
  by_cases h6:1<x.2.2.2.2.length∨(x.2.2.1≠3∧0<x.2.2.2.2.length)
  ·rw [Ae h6] at h;exact absurd h (by decide)
  refine ⟨h1,by omega,by omega,by omega,by omega,fun q=>?_⟩
  have:x.2.2.2.2.length=0:=by omega
  exact List.length_eq_zero_iff.1 this
 ·rw [Af h1] at h;exact absurd h (by decide)
structure Ty.Own (t:Ty):Prop where
 kind:1≤t.kind∧t.kind≤10
 words:t.kind=4→0<t.words.length→t.min=0∧t.max=0∧t.words.length≤64∧Zz none t.words=0
 nowords:t.kind≠4→t.words=[]
 noelem:t.kind≠8→t.elem=[]
 nofields:t.kind≠9→t.kind≠10→t.fields=[]
 noscale:t.kind≠3→t.scale=0
 nobounds:¬ (2≤t.kind∧t.kind≤8)→t.min=0∧t.max=0
 scale:0≤t.scale∧t.scale≤12
 bounds:(2≤t.kind∧t.kind≤8)→¬ (t.kind=4∧0<t.words.length)→(AO t.kind).1≤t.min∧t.max≤(AO t.kind).2∧t.min≤t.max
 elem:t.kind=8→∃ e,t.elem=[e]
 cases:t.kind=10→0<t.fields.length
 fields:t.fields.length≤64
 each:∀ x∈t.fields,E8 x.2.1=true∧(1≤x.1∧x.1≤9999)∧(1≤x.2.2.1∧x.2.2.1≤3)∧(t.kind=10→x.2.2.1=1)∧(x.2.2.1=3→x.2.2.2.2.length=1)∧(x.2.2.1≠3→x.2.2.2.2=[])
 apart:Hi t.kind [] t.fields=0
theorem Ty.own_of {t:Ty} (h:QJ t=0):t.Own:=by
 have p:=Q3 h
 obtain ⟨o,g,s⟩:=p
 simp only [BE,Bool.or_eq_true,Bool.and_eq_true,Bool.not_eq_true',Bool.and_eq_false_iff,decide_eq_false_iff_not,decide_eq_true_eq,not_or,not_and] at g
 obtain ⟨⟨⟨⟨j,f⟩,m⟩,k⟩,l⟩:=g
 have i:t.kind≠4→t.words=[]:=fun q=>List.length_eq_zero_iff.1 (by have:=m q;omega)
 have ne:t.kind≠8→t.elem=[]:=fun q=>List.length_eq_zero_iff.1 (by have:=k q;omega)
 have c:t.kind≠9→t.kind≠10→t.fields=[]:=fun q r=>List.length_eq_zero_iff.1 (by have:=l ⟨q,r⟩;omega)
 have d:t.kind≠3→t.scale=0:=fun q=>by
  have:=f q
  by_cases z:t.scale=0
  ·exact z
  ·exact absurd z this
 have n:¬ (2≤t.kind∧t.kind≤8)→t.min=0∧t.max=0:=fun q=>by
  have:=j (by omega)
  omega
 have v:=h
 rw [QJ,Af o,Af (by
  intro q
  simp only [BE,Bool.or_eq_true,Bool.and_eq_true,Bool.not_eq_true',Bool.and_eq_false_iff,decide_eq_false_iff_not,decide_eq_true_eq] at q
  rcases q with (((q | q) | q) | q) | q
  ·have:=j q.1;have:=q.2;omega
  ·exact f q.1 q.2
  ·exact m q.1 q.2
  ·exact k q.1 q.2
  ·exact l q.1 q.2)] at h
 by_cases h3:t.kind=4∧0<t.words.length
 ·rw [Ae h3,Oa] at h
  by_cases w1:t.min≠0∨t.max≠0
  ·rw [Ae w1] at h;exact absurd h (by decide)
  rw [Af w1] at h
  by_cases w2:64<t.words.length
  ·rw [Ae w2] at h;exact absurd h (by decide)
  rw [Af w2] at h
  have ef:t.fields=[]:=c (by omega) (by omega)
  exact { kind:=by omega,words:=fun _ _=>⟨by omega,by omega,by omega,h⟩,nowords:=i,noelem:=ne,nofields:=c,noscale:=d,nobounds:=n,scale:=by have:=d (by omega);omega,bounds:=fun _ q=>absurd h3 q,elem:=fun q=>by omega,cases:=fun q=>by omega,fields:=by rw [ef];simp,each:=fun x hx=>by rw [ef] at hx;simp at hx,apart:=by rw [ef];rfl }
 rw [Af h3] at h
 by_cases h4:((2≤t.kind∧t.kind≤8)∧CH t (AO t.kind).1 (AO t.kind).2=false)∨¬ (0≤t.scale∧t.scale≤12)
 ·rw [Ae h4] at h;exact absurd h (by decide)
 rw [Af h4] at h
 by_cases h5:(t.kind=8∧t.elem.length=0)∨(t.kind=10∧t.fields.length=0)
 ·rw [Ae h5] at h;exact absurd h (by decide)
 rw [Af h5] at h
 by_cases h6:1<t.elem.length
 ·rw [Ae h6] at h;exact absurd h (by decide)
 rw [Af h6] at h
 by_cases h7:64<t.fields.length
 ·rw [Ae h7] at h;exact absurd h (by decide)
 rw [Af h7] at h
 refine { kind:=by omega,words:=fun a b=>absurd ⟨a,b⟩ h3,nowords:=i,noelem:=ne,nofields:=c,noscale:=d,nobounds:=n,scale:=by omega,bounds:=fun q _=>?_,elem:=fun q=>?_,cases:=fun q=>by omega,fields:=by omega,each:=fun x hx=>?_,apart:=h }
 ·have hb:CH t (AO t.kind).1 (AO t.kind).2=true:=by
   cases hb:CH t (AO t.kind).1 (AO t.kind).2 with
   | true=>rfl
   | false=>exact absurd (Or.inl ⟨q,hb⟩) h4
  unfold CH at hb
  simp only [Bool.and_eq_true,decide_eq_true_eq] at hb
  exact ⟨hb.1.1,hb.1.2,hb.2⟩
 ·match he:t.elem with
  | []=>exact absurd (Or.inl ⟨q,by rw [he];rfl⟩) h5
  | [e]=>exact ⟨e,rfl⟩
  | _::_::_=>rw [he] at h6;simp at h6
 ·obtain ⟨u,hb⟩:=Zai _ _ _ h x hx
  exact YF hb
theorem Ty.Good.own {t:Ty} (h:t.Good):t.Own:=Ty.own_of (Ta h)
theorem Qf {α:Type} (p:α→Bool) (l:List α):∀ (k j:Nat),j+k=l.length→(l.drop j).find? p=Cb l (N5 p l j)
 | 0,j,h=>by rw [Lm p l j (by omega),List.drop_eq_nil_of_le (by omega)];rfl
 | k+1,j,h=>by
  have a:j<l.length:=by omega
  rw [Jn p l j a,List.drop_eq_getElem_cons a,List.find?_cons]
  cases hp:p l[j] with
  | true=>rw [Ae rfl,Ax a]
  | false=>rw [Af (by decide)];exact Qf p l k (j+1) (by omega)
theorem Ye {α:Type} (p:α→Bool) (l:List α):l.find? p=Cb l (N5 p l 0):=Qf p l l.length 0 (by omega)
def B5 (t:Ty) (w:ByteArray):Option TF:=t.fields.find? fun x=>DK x.2.1 w
theorem EE {t:Ty} {w:ByteArray} {p:TF} (h:B5 t w=some p):p∈t.fields∧p.2.1=w:=⟨List.mem_of_find?_eq_some h,(E3 _ _).1 (List.find?_some (p:=fun x:TF=>DK x.2.1 w) h)⟩
def MP:Nat→Ty→Vl→Bool
 | 0,_,_=>false
 | d+1,t,v =>
  if t.kind≠v.kind then false
  else if t.kind=2∨t.kind=6∨t.kind=7 then decide (t.min≤v.int)&&decide (v.int≤t.max)
  else if t.kind=3 then decide (v.scale=t.scale)&&(decide (t.min≤v.int)&&decide (v.int≤t.max))
  else if t.kind=4 then (t.words.any fun x=>DK x v.text)||(decide ((t.words.length:Int)=0)&&XI t v.text.size)
  else if t.kind=5 then XI t v.text.size
  else if t.kind=8 then (v.list.all fun x=>t.elem.all fun e=>MP d e x)&&XI t v.list.length
  else if t.kind=10 then match B5 t v.text with
   | some p=>v.list.all fun x=>MP d p.2.2.2.1 x
   | none=>false
  else if t.kind=9 then (v.fields.all fun q=>match B5 t q.1 with
   | some p=>MP d p.2.2.2.1 q.2
   | none=>false) && !(t.fields.any (Zdq v))
  else true
theorem Ty.depth_elem {t x:Ty} (hx:x∈t.elem):x.depth<t.depth:=by
 have:=t.depth_eq
 have:=(Nv t.elem (D9 t.elem)).1 (Nat.le_refl _) x hx
 omega
theorem Ty.depth_field {t:Ty} {p:TF} (hx:p∈t.fields):p.2.2.2.1.depth<t.depth:=by
 have:=t.depth_eq
 have:=(K0 t.fields (Db t.fields)).1 (Nat.le_refl _) p hx
 omega
theorem Za2 {v:Vl} (gv:v.Good) (vk:v.kind=10):∃ x,v.list=[x]:=by
 obtain ⟨_,a⟩:=O0 (L6 gv)
 have q:=L6 gv
 rw [FK] at q
 by_cases p1:B1 v=true
 ·rw [Ae p1] at q;exact absurd q (by decide)
 rw [Af p1,Af (by omega),Af a,Af (by omega),Af (by omega),Af (by omega),Af (by omega),Af (by omega),Af (by omega),Af (by omega),Af (by omega),Af (by omega)] at q
 by_cases p2:E8 v.text=true
 ·rw [Ae p2] at q
  by_cases p3:v.list.length=0
  ·rw [Ae p3] at q;exact absurd q (by decide)
  rw [Af p3] at q
  by_cases p4:1<v.list.length
  ·rw [Ae p4] at q;exact absurd q (by decide)
  exact List.length_eq_one_iff.1 (by omega)
 ·rw [Af p2] at q;exact absurd q (by decide)
def Zje (d:Nat) (t:Ty) (q:ByteArray × Vl):Bool:=match B5 t q.1 with
 | some p=>MP d p.2.2.2.1 q.2
 | none=>false
def EW (g:Int × ByteArray × Int × Ty × List Vl) (b:Int):Bool :=
 decide (g.1=b)
theorem Q0 (w0:World) (B:List (List AV)) (Rw:List RowA) (L:List LoopA) (a0:Int × ByteArray × Int × Ty × List Vl) (la1:Nat) (a1:Int) (hla1:B[la1]? = some ([.val (.int .i64 a1)])) (r:Bool) (h:EW a0 a1=r) :
  ACalls Tryz.prog w0 191 [.agg (.val (.int .i64 a0.1)::(.val (.string a0.2.1)::(.val (.int .i64 a0.2.2.1)::((a0.2.2.2.1.cs)++([.list (a0.2.2.2.2.map Bo) .none]))))),.box la1 0] ⟨B,Rw,L⟩ fun x st=>x = .val (.bool r)∧st=⟨B,Rw,L⟩:=by
 rw [EW] at h
 refine hd [.tmp 3] Tryz.func191 Tryz.ntmps191 fun M0 W0 g e d a f c hs=>?_
 simp only [Au]
 have b:=(Ag.1 hla1).1
 have hs:=Aa (An hla1) hs
 refine rg [1,2] hs ?_
 refine rg [3] hs ?_
 exact rT h hs a c
theorem QN (w0:World) (B:List (List AV)) (Rw:List RowA) (L:List LoopA) (a0:Int × ByteArray × Int × Ty × List Vl) (la1:Nat) (a1:Int) (hla1:B[la1]? = some ([.val (.int .i64 a1)])) :
  ACalls Tryz.prog w0 191 [.agg (.val (.int .i64 a0.1)::(.val (.string a0.2.1)::(.val (.int .i64 a0.2.2.1)::((a0.2.2.2.1.cs)++([.list (a0.2.2.2.2.map Bo) .none]))))),.box la1 0] ⟨B,Rw,L⟩ fun x st=>x = .val (.bool (EW a0 a1))∧st=⟨B,Rw,L⟩:=Q0 w0 B Rw L a0 la1 a1 hla1 _ rfl
def CV (n:Nat) (g:List (Int × ByteArray × Int × Ty × List Vl)) (q:Int):Option ((Int × ByteArray × Int × Ty × List Vl) × Bool) :=
 (AW n g (fun (h:Int × ByteArray × Int × Ty × List Vl)=>some (EW h q))).bind fun b =>
 if decide (b<0) then
  some (((0,(⟨#[]⟩:ByteArray),0,Ty.mk 0 0 0 0 ([]) ([]) ([]),[]),false))
 else
  (Cb g b).bind fun s =>
  some ((s,true))
theorem ED (w0:World) (n:Nat) (B:List (List AV)) (Rw:List RowA) (L:List LoopA) (a0:List (Int × ByteArray × Int × Ty × List Vl)) (a1:Int) (r:(Int × ByteArray × Int × Ty × List Vl) × Bool) (h:CV n a0 a1=some r) :
  ACalls Tryz.prog w0 133 [.list (a0.map Da) .none,.val (.int .i64 a1)] ⟨B,Rw,L⟩ fun x st=>x = .tup [.agg (.val (.int .i64 r.1.1)::(.val (.string r.1.2.1)::(.val (.int .i64 r.1.2.2.1)::((r.1.2.2.2.1.cs)++([.list (r.1.2.2.2.2.map Bo) .none]))))),.val (.bool r.2)]∧st=⟨B,Rw,L⟩:=by
 rw [CV] at h
 refine hd [.cell 4 54,.tmp 5] Tryz.func133 Tryz.ntmps133 fun M0 W0 v o m a s j hs=>?_
 simp only [Au]
 refine rg [0,3,4] hs ?_
 obtain ⟨u,hy3,h⟩:=bind_some h
 refine rc 2 [0,4,6] hs ?_;intro K2 c
 refine Ai _ (DC w0 n _ _ _ a0 191 [.box B.length 0] (fun (x0:Int × ByteArray × Int × Ty × List Vl)=>some (EW x0 a1)) (fun x0 r hx q i hB' p=>by cases hx;exact QN w0 _ _ _ x0 _ a1 (DI hB' ev)) _ hy3) (hv hs) ?_
 refine ne hs c ?_
 clear c
 apply Ah;intro K4 b
 refine rg [0,4,6,11] hs ?_
 refine AL h hs (fun hs h=>?_) (fun hs h=>?_)
 ·refine rg [4,5] hs ?_
  exact rt h hs a j
 refine sk [0,4,6] hs b ?_
 clear b
 obtain ⟨t,g,h⟩:=bind_some h
 obtain ⟨l,k,d⟩:=AA g
 have e:=AB (f:=Da) d
 have hs:=Aa e hs
 refine rg [4,5] hs ?_
 exact rt h hs a j
def HU (n:Nat)  (b:Int):Option (Int × Bool) :=
 some ((b,true))
def C6 (n:Nat) (h:Int):Nat→Int→Int→Option (Int × Bool)
 | 0,_,_=>none
 | m+1,b,g =>
  if decide (h<g) then
   if !(decide ((b.tmod 10)=0)) then
    some ((0,false))
   else
    if BV (b.tdiv 10) then
     if BV (g-1) then
      (C6 n h m) (b.tdiv 10) (g-1)
     else none
    else none
  else
   HU n b
def D8 (n:Nat) (h:Int) (b:Int) (g:Int):Option (Int × Bool) :=
 C6 n h n b g
def CJ (n:Nat) (h:Int):Nat→Int→Int→Option (Int × Bool)
 | 0,_,_=>none
 | m+1,b,g =>
  if decide (g<h) then
   if BV (b*10) then
    if (decide (999999999999999<(b*10)))||(decide ((b*10)<((-999999999999999)))) then
     some ((0,false))
    else
     if BV (g+1) then
      (CJ n h m) (b*10) (g+1)
     else none
   else none
  else
   D8 n h b g
def Di (n:Nat) (g:Int) (b:Int) (h:Int):Option (Int × Bool) :=
 CJ n h n g b
theorem Ii (w0:World) (n:Nat) (B:List (List AV)) (Rw:List RowA) (L:List LoopA) (a0:Int) (a1:Int) (a2:Int) (r:Int × Bool) (h:Di n a0 a1 a2=some r) :
  ACalls Tryz.prog w0 129 [.val (.int .i64 a0),.val (.int .i64 a1),.val (.int .i64 a2)] ⟨B,Rw,L⟩ fun x st=>x = .tup [.val (.int .i64 r.1),.val (.bool r.2)]∧st=⟨B,Rw,L⟩:=by
 rw [Di] at h
 refine hd [.tmp 6,.tmp 7] Tryz.func129 Tryz.ntmps129 fun M0 W0 y l o a G k hs=>?_
 simp only [Au]
 refine rg [0,1,2] hs ?_
 refine Av (fun e st=>∃ (j:Int) (i:Int),Ck e st B Rw L [(0,true,.val (.int .i64 j)),(1,true,.val (.int .i64 i)),(2,true,.val (.int .i64 a2))] [] [] (D8 n a2 j i=some r)) ?_ ?_
 ·intro K4 z
  apply Ak
  refine AC (fun m e st=>∃ (d:Int) (f:Int),Ck e st B Rw L [(0,true,.val (.int .i64 d)),(1,true,.val (.int .i64 f)),(2,true,.val (.int .i64 a2))] [] [] (CJ n a2 m d f=some r)) n ⟨a0,a1,([]),Rw,ef hs,ef hs,k,h⟩ ?_
  rintro ml5 e st ⟨d,f,Xl5,Rl5,rfl,rfl,k,h⟩ Ul5 Vl5
  cases ml5 with
  | zero=>cases h
  | succ ml5 =>
  rw [CJ] at h
  refine td y l o a k ?_
  apply Ah;intro K6 w
  refine rg [0,1,2,10] hs ?_
  refine AL h hs (fun hs h=>?_) (fun hs h=>?_)
  rotate_left
  ·refine sx [0,1,2] hs z ?_
   exact ⟨d,f,([]),Rl5,ef hs,ef hs,k,h⟩
  refine sk [0,1,2] hs w ?_
  clear w
  apply Ah;intro K9 u
  apply Ak
  obtain ⟨C,h⟩:=Aj h
  refine rg [0,1,2] hs ?_
  refine rg [0,1,2,20] hs ?_
  refine AL h hs (fun hs h=>?_) (fun hs h=>?_)
  ·refine rg [6,7] hs ?_
   exact rt h hs a k
  refine sk [0,1,2] hs u ?_
  clear u
  obtain ⟨E,h⟩:=Aj h
  refine rl [0,1,2] hs (fun e s=>Vl5 ml5 e s (Nat.lt_succ_self _)) ?_
  exact ⟨(d*10),(f+1),([]),Rl5,ef hs,ef hs,k,h⟩
 ·clear h;rintro e st ⟨j,i,Xk3,Rk3,rfl,rfl,k,h⟩
  rw [D8] at h
  refine td y l o a k ?_
  refine Av (fun e st=>∃ (g:Int),Ck e st B Rw L [(0,true,.val (.int .i64 g))] [] [] (HU n g=some r)) ?_ ?_
  ·intro K18 v
   apply Ak
   refine AC (fun m e st=>∃ (b:Int) (c:Int),Ck e st B Rw L [(0,true,.val (.int .i64 b)),(1,true,.val (.int .i64 c)),(2,true,.val (.int .i64 a2))] [] [] (C6 n a2 m b c=some r)) n ⟨j,i,([]),Rk3,ef hs,ef hs,k,h⟩ ?_
   rintro ml19 e st ⟨b,c,Xl19,Rl19,rfl,rfl,k,h⟩ Ul19 Vl19
   cases ml19 with
   | zero=>cases h
   | succ ml19 =>
   rw [C6] at h
   refine td y l o a k ?_
   apply Ah;intro K20 p
   refine rg [0,1,2,23] hs ?_
   refine AL h hs (fun hs h=>?_) (fun hs h=>?_)
   rotate_left
   ·refine sx [0] hs v ?_
    exact ⟨b,([]),Rl19,ef hs,ef hs,k,h⟩
   refine sk [0,1,2] hs p ?_
   clear p
   apply Ah;intro K23 q
   apply Ak
   apply Ah;intro K24 t
   refine rg [0,1,2,28] hs ?_
   refine AL h hs (fun hs h=>?_) (fun hs h=>?_)
   ·refine rg [6,7] hs ?_
    exact rt h hs a k
   refine sk [0,1,2] hs t ?_
   clear t
   obtain ⟨F,h⟩:=Aj h
   refine rl [0,1,2] hs q ?_
   clear q
   obtain ⟨D,h⟩:=Aj h
   refine rl [0,1,2] hs (fun e s=>Vl19 ml19 e s (Nat.lt_succ_self _)) ?_
   exact ⟨(b.tdiv 10),(c-1),([]),Rl19,ef hs,ef hs,k,h⟩
  ·clear h;rintro e st ⟨g,Xk17,Rk17,rfl,rfl,k,h⟩
   rw [HU] at h
   refine td y l o a k ?_
   refine rg [6,7] hs ?_
   exact rt h hs a k
def Xs (n:Nat)  (b:Int):Option (Int × Bool) :=
 some ((b,true))
def Ha (n:Nat)  : Nat→Int→Int→Option (Int × Bool)
 | 0,_,_=>none
 | m+1,b,g =>
  if decide (g<0) then
   if !(decide ((b.tmod 10)=0)) then
    some ((0,false))
   else
    if BV (b.tdiv 10) then
     if BV (g+1) then
      (Ha n m) (b.tdiv 10) (g+1)
     else none
    else none
  else
   Xs n b
def Jd (n:Nat)  (b:Int) (g:Int):Option (Int × Bool) :=
 Ha n n b g
def GH (n:Nat)  : Nat→Int→Int→Option (Int × Bool)
 | 0,_,_=>none
 | m+1,b,g =>
  if decide (0<g) then
   if (decide (999999999999999<b))||(decide (b<((-999999999999999)))) then
    some ((b,true))
   else
    if BV (10*b) then
     if BV (g-1) then
      (GH n m) (10*b) (g-1)
     else none
    else none
  else
   Jd n b g
def GL (n:Nat) (g:Int) (b:Int):Option (Int × Bool) :=
 GH n n g b
def UV (n:Nat)  : Option ((Int × ByteArray × Int × Ty × List Vl) × Bool) :=
 some (((0,(⟨#[]⟩:ByteArray),0,Ty.mk 0 0 0 0 ([]) ([]) ([]),[]),false))
def G1 (n:Nat) (h:Ty) (q:Int):Nat→Int→Option ((Int × ByteArray × Int × Ty × List Vl) × Bool)
 | 0,_=>none
 | m+1,b =>
  if decide (b<(h.fields.length:Int)) then
   (Cb h.fields b).bind fun g =>
   if decide (g.1=q) then
    some ((g,true))
   else
    if BV (b+1) then
     (G1 n h q m) (b+1)
    else none
  else
   UV n 
def Gm (n:Nat) (g:Ty) (b:Int):Option ((Int × ByteArray × Int × Ty × List Vl) × Bool) :=
 G1 n g b n 0
def Yt (n:Nat)  : Option (Vl × Bool) :=
 some ((Vl.mk 0 0 0 ((⟨#[]⟩:ByteArray)) ([]) ([]),false))
def Ju (n:Nat) (h:Vl) (q:ByteArray):Nat→Int→Option (Vl × Bool)
 | 0,_=>none
 | m+1,b =>
  if decide (b<(h.fields.length:Int)) then
   (Cb h.fields b).bind fun g =>
   if DK g.1 q then
    some ((g.2,true))
   else
    if BV (b+1) then
     (Ju n h q m) (b+1)
    else none
  else
   Yt n 
def UU (n:Nat) (g:Vl) (b:ByteArray):Option (Vl × Bool) :=
 Ju n g b n 0
def Bd (g:Int) (b:Ty):Bool :=
 (decide (b.min≤g))&&(decide (g≤b.max))
def Uw (n:Nat) (g:ByteArray) (b:Ty):Option Bool :=
 some ((decide ((b.words.length:Int)=0))&&(Bd (g.size:Int) b))
def KI (n:Nat) (q:ByteArray) (g:Ty):Nat→Int→Option Bool
 | 0,_=>none
 | m+1,b =>
  if decide (b<(g.words.length:Int)) then
   (Cb g.words b).bind fun h =>
   if DK h q then
    some (true)
   else
    if BV (b+1) then
     (KI n q g m) (b+1)
    else none
  else
   Uw n q g 
def OZ (n:Nat) (g:ByteArray) (b:Ty):Option Bool :=
 KI n g b n 0
def D5 (g:Int × ByteArray × Int × Ty × List Vl) (b:ByteArray):Bool :=
 DK g.2.1 b
theorem P2 (w0:World) (B:List (List AV)) (Rw:List RowA) (L:List LoopA) (a0:Int × ByteArray × Int × Ty × List Vl) (la1:Nat) (a1:ByteArray) (hla1:B[la1]? = some ([.val (.string a1)])) (r:Bool) (h:D5 a0 a1=r) :
  ACalls Tryz.prog w0 203 [.agg (.val (.int .i64 a0.1)::(.val (.string a0.2.1)::(.val (.int .i64 a0.2.2.1)::((a0.2.2.2.1.cs)++([.list (a0.2.2.2.2.map Bo) .none]))))),.box la1 0] ⟨B,Rw,L⟩ fun x st=>x = .val (.bool r)∧st=⟨B,Rw,L⟩:=by
 rw [D5] at h
 refine hd [.tmp 3] Tryz.func203 Tryz.ntmps203 fun M0 W0 g e d a f c hs=>?_
 simp only [Au]
 have b:=(Ag.1 hla1).1
 have hs:=Aa (An hla1) hs
 refine rg [1,2] hs ?_
 refine rg [3] hs ?_
 exact rT h hs a c
theorem O4 (w0:World) (B:List (List AV)) (Rw:List RowA) (L:List LoopA) (a0:Int × ByteArray × Int × Ty × List Vl) (la1:Nat) (a1:ByteArray) (hla1:B[la1]? = some ([.val (.string a1)])) :
  ACalls Tryz.prog w0 203 [.agg (.val (.int .i64 a0.1)::(.val (.string a0.2.1)::(.val (.int .i64 a0.2.2.1)::((a0.2.2.2.1.cs)++([.list (a0.2.2.2.2.map Bo) .none]))))),.box la1 0] ⟨B,Rw,L⟩ fun x st=>x = .val (.bool (D5 a0 a1))∧st=⟨B,Rw,L⟩:=P2 w0 B Rw L a0 la1 a1 hla1 _ rfl
def C3 (n:Nat) (g:Ty) (q:ByteArray):Option ((Int × ByteArray × Int × Ty × List Vl) × Bool) :=
 (AW n g.fields (fun (h:Int × ByteArray × Int × Ty × List Vl)=>some (D5 h q))).bind fun b =>
 if decide (b<0) then
  some (((0,(⟨#[]⟩:ByteArray),0,Ty.mk 0 0 0 0 ([]) ([]) ([]),[]),false))
 else
  (Cb g.fields b).bind fun s =>
  some ((s,true))
theorem Fz (w0:World) (n:Nat) (B:List (List AV)) (Rw:List RowA) (L:List LoopA) (a0:Ty) (a1:ByteArray) (r:(Int × ByteArray × Int × Ty × List Vl) × Bool) (h:C3 n a0 a1=some r) :
  ACalls Tryz.prog w0 159 [.agg (a0.cs),.val (.string a1)] ⟨B,Rw,L⟩ fun x st=>x = .tup [.agg (.val (.int .i64 r.1.1)::(.val (.string r.1.2.1)::(.val (.int .i64 r.1.2.2.1)::((r.1.2.2.2.1.cs)++([.list (r.1.2.2.2.2.map Bo) .none]))))),.val (.bool r.2)]∧st=⟨B,Rw,L⟩:=by
 rw [C3] at h
 refine hd [.cell 4 54,.tmp 5] Tryz.func159 Tryz.ntmps159 fun M0 W0 v o m a s j hs=>?_
 simp only [Au]
 refine rg [2,3,4] hs ?_
 obtain ⟨u,hy3,h⟩:=bind_some h
 refine rc 2 [2,4,6] hs ?_;intro K2 c
 refine Ai _ (DC w0 n _ _ _ a0.fields 203 [.box (B.length+1) 0] (fun (x0:Int × ByteArray × Int × Ty × List Vl)=>some (D5 x0 a1)) (fun x0 r hx q i hB' p=>by cases hx;exact O4 w0 _ _ _ x0 _ a1 (DI hB' ev)) _ hy3) (hv hs) ?_
 refine ne hs c ?_
 clear c
 apply Ah;intro K4 b
 refine rg [2,4,6,12] hs ?_
 refine AL h hs (fun hs h=>?_) (fun hs h=>?_)
 ·refine rg [4,5] hs ?_
  exact rt h hs a j
 refine sk [2,4,6] hs b ?_
 clear b
 obtain ⟨t,g,h⟩:=bind_some h
 obtain ⟨l,k,d⟩:=AA g
 have e:=AB (f:=Da) d
 have hs:=Aa e hs
 refine rg [4,5] hs ?_
 exact rt h hs a j
abbrev nilV:Vl:=Vl.mk 0 0 0 (⟨#[]⟩:ByteArray) [] []
def Fv (l:List TF) (k:Int):Option TF:=l.find? fun p=>decide (p.1=k)
def Eb (v:Vl) (w:ByteArray):Option Vl:=(v.fields.find? fun q=>DK q.1 w).map (·.2)
theorem Ud {α β:Type} (p:α→Bool) (l:List α) (A:β) (B:α→Option β):(if decide (N5 p l 0<0)=true then some A else (Cb l (N5 p l 0)).bind B)=match l.find? p with | none=>some A | some x=>B x:=by
 rw [Zak,←Ye]
 cases h:l.find? p with
 | none=>rw [Ae];simpa [List.find?_eq_none] using h
 | some x =>
  rw [Af];rfl
  have:=List.find?_some h
  have:=List.mem_of_find?_eq_some h
  simp only [Bool.not_eq_true',Bool.not_eq_false]
  exact List.any_eq_true.2 ⟨x,this,by assumption⟩
theorem Zj1 (n:Nat) (l:List TF) (f:TF→Option Bool) (p:TF→Bool) (hf:∀ x,f x=some (p x)) (hl:l.length≤1000000000) (hn:l.length<n):AW n l f=some (N5 p l 0):=Zm n l f p (fun x _=>hf x) hl l.length n 0 (by omega) hn
theorem M4 (n:Nat) (l:List TF) (k:Int) (hl:l.length≤1000000000) (hn:l.length<n):CV n l k=some ((Fv l k).getD MN,(Fv l k).isSome):=by
 rw [CV,Zj1 n l (fun a=>some (EW a k)) (fun p=>decide (p.1=k)) (fun x=>rfl) hl hn,Ab,Ud (fun p:TF=>decide (p.1=k))]
 rw [Fv]
 cases l.find? (fun p:TF=>decide (p.1=k))<;>rfl
theorem J0 (n:Nat) (t:Ty) (w:ByteArray) (hl:t.fields.length≤1000000000) (hn:t.fields.length<n):C3 n t w=some ((B5 t w).getD MN,(B5 t w).isSome):=by
 rw [C3,Zj1 n t.fields (fun a=>some (D5 a w)) (fun p=>DK p.2.1 w) (fun x=>rfl) hl hn,Ab,Ud (fun p:TF=>DK p.2.1 w)]
 rw [B5]
 cases t.fields.find? (fun p:TF=>DK p.2.1 w)<;>rfl
theorem Zmy (n:Nat) (l:List (ByteArray × Vl)) (f:ByteArray × Vl→Option Bool) (p:ByteArray × Vl→Bool) (hf:∀ x,f x=some (p x)) (hl:l.length≤1000000000) (hn:l.length<n):Ce n l f=some (N5 p l 0):=WF n l f p (fun x _=>hf x) hl l.length n 0 (by omega) hn
theorem YT (n:Nat) (v:Vl) (w:ByteArray) (hk:v.kind=9) (hl:v.fields.length≤1000000000) (hn:v.fields.length<n) (hc:∀ q∈v.fields,BN n q.2=some q.2):G5 n v w=some ((Eb v w).getD nilV,(Eb v w).isSome):=by
 rw [G5,ME,Zmy n v.fields (fun a=>some (GM a w)) (fun q=>DK q.1 w) (fun x=>rfl) hl hn]
 simp only [Ab]
 rw [show ((!decide (v.kind=9))||decide (N5 (fun q:ByteArray × Vl=>DK q.1 w) v.fields 0<0))=decide (N5 (fun q:ByteArray × Vl=>DK q.1 w) v.fields 0<0) by simp [hk],Ud (fun q:ByteArray × Vl=>DK q.1 w),Eb]
 cases h:v.fields.find? (fun q:ByteArray × Vl=>DK q.1 w) with
 | none=>rfl
 | some q =>
  have b:=List.mem_of_find?_eq_some h
  simp only [hc q b,Ab]
  rfl
theorem Sl (n:Nat) (t:Ty) (k:Int) (hl:t.fields.length≤1000000000):∀ (c m i:Nat),i+c=t.fields.length→c<m→G1 n t k m i=some ((Fv (t.fields.drop i) k).getD MN,(Fv (t.fields.drop i) k).isSome)
 | c,0,i,_,h=>absurd h (Nat.not_lt_zero _)
 | 0,m+1,i,hi,_=>by
  rw [G1,As,Ac (by omega),List.drop_eq_nil_of_le (by omega)];rfl
 | c+1,m+1,i,hi,hm=>by
  have a:i<t.fields.length:=by omega
  rw [G1,As,Ad a,Ae rfl,Ax a,Ab,List.drop_eq_getElem_cons a,Fv,List.find?_cons]
  by_cases q:t.fields[i].1=k
  ·rw [Ad q,Ae rfl];rfl
  ·rw [Ac q,Af (by decide),Ae (Aw (by omega))]
   exact Sl n t k hl c m (i+1) (by omega) (by omega)
theorem Jb (n:Nat) (t:Ty) (k:Int) (hl:t.fields.length≤1000000000) (hn:t.fields.length<n):Gm n t k=some ((Fv t.fields k).getD MN,(Fv t.fields k).isSome):=Sl n t k hl t.fields.length n 0 (by omega) hn
theorem Wa (n:Nat) (v:Vl) (w:ByteArray) (hl:v.fields.length≤1000000000):∀ (c m i:Nat),i+c=v.fields.length→c<m→Ju n v w m i=some ((((v.fields.drop i).find? fun q=>DK q.1 w).map (·.2)).getD nilV,(((v.fields.drop i).find? fun q=>DK q.1 w).map (·.2)).isSome)
 | c,0,i,_,h=>absurd h (Nat.not_lt_zero _)
 | 0,m+1,i,hi,_=>by
  rw [Ju,As,Ac (by omega),List.drop_eq_nil_of_le (by omega)];rfl
 | c+1,m+1,i,hi,hm=>by
  have a:i<v.fields.length:=by omega
  rw [Ju,As,Ad a,Ae rfl,Ax a,Ab,List.drop_eq_getElem_cons a,List.find?_cons]
  cases q:DK v.fields[i].1 w with
  | true=>rw [Ae rfl];rfl
  | false =>
   rw [Af (by decide),Ae (Aw (by omega))]
   exact Wa n v w hl c m (i+1) (by omega) (by omega)
theorem ZaW (n:Nat) (v:Vl) (w:ByteArray) (hl:v.fields.length≤1000000000) (hn:v.fields.length<n):UU n v w=some ((Eb v w).getD nilV,(Eb v w).isSome):=Wa n v w hl v.fields.length n 0 (by omega) hn
def NM (n:Int) (t:Ty):Bool:=decide (t.min≤n)&&decide (n≤t.max)
def Jl (s:ByteArray) (t:Ty):Bool:=if t.words=[] then NM s.size t else t.words.any fun x=>DK x s
theorem Zad (n:Nat) (s:ByteArray) (t:Ty) (hl:t.words.length≤1000000000):∀ (c m i:Nat),i+c=t.words.length→c<m→KI n s t m i=some (((t.words.drop i).any fun x=>DK x s)||(decide (t.words.length=0)&&NM s.size t))
 | c,0,i,_,h=>absurd h (Nat.not_lt_zero _)
 | 0,m+1,i,hi,_=>by
  rw [KI,As,Ac (by omega),List.drop_eq_nil_of_le (by omega),Af (by decide),Uw,Bd,NM,List.any_nil,Bool.false_or,show decide ((t.words.length:Int)=0)=decide (t.words.length=0) by rw [decide_eq_decide];omega]
 | c+1,m+1,i,hi,hm=>by
  have a:i<t.words.length:=by omega
  rw [KI,As,Ad a,Ae rfl,Ax a,Ab,List.drop_eq_getElem_cons a,List.any_cons]
  cases q:DK t.words[i] s with
  | true=>rw [Ae rfl];rfl
  | false =>
   rw [Af (by decide),Ae (Aw (by omega)),Bool.false_or]
   exact Zad n s t hl c m (i+1) (by omega) (by omega)
theorem WB (n:Nat) (s:ByteArray) (t:Ty) (hl:t.words.length≤1000000000) (hn:t.words.length<n):OZ n s t=some (Jl s t):=by
 refine (Zad n s t hl t.words.length n 0 (by omega) hn).trans ?_
 rw [List.drop_zero,Jl]
 cases h:t.words with
 | nil=>simp
 | cons a r=>simp
theorem ZcD (a b:ByteArray):DK a b=DK b a:=by
 cases h:DK b a with
 | true=>rw [(E3 _ _).1 h];exact Mc _
 | false =>
  cases h2:DK a b with
  | false=>rfl
  | true=>rw [(E3 _ _).1 h2,Mc] at h;cases h
theorem I2 (n:Nat) (s:ByteArray) (t:Ty) (hl:t.words.length≤1000000000) (hn:t.words.length<n):Bz n t.words s=some (t.words.any fun x=>DK x s):=by
 rw [Qd n t.words s hl hn]
 congr 2
 funext x
 exact ZcD _ _
def upN:Nat→Int→Option Int
 | 0,x=>some x
 | k+1,x=>if -999999999999999≤x*10∧x*10≤999999999999999 then upN k (x*10) else none
def dnN:Nat→Int→Option Int
 | 0,x=>some x
 | k+1,x=>if x.tmod 10=0 then dnN k (x.tdiv 10) else none
def MZ (x a b:Int):Option Int:=if a≤b then upN (b-a).toNat x else dnN (a-b).toNat x
theorem Zb6 {x:Int} (h : -999999999999999≤x∧x≤999999999999999) : -999999999999999≤x.tdiv 10∧x.tdiv 10≤999999999999999:=by
 rcases Int.le_total 0 x with q | q
 ·rw [Int.tdiv_eq_ediv_of_nonneg q];omega
 ·obtain ⟨z,rfl⟩:∃ z,x = -z:=⟨-x,by omega⟩
  rw [Int.neg_tdiv,Int.tdiv_eq_ediv_of_nonneg (by omega)];omega
theorem S1 (n:Nat) (b:Int):∀ (k m:Nat) (x a:Int),-999999999999999≤x∧x≤999999999999999 → -200≤a→a≤100→a-b≤k→b≤a → -100≤b→k<m→C6 n b m x a=some ((dnN (a-b).toNat x).getD 0,(dnN (a-b).toNat x).isSome)
 | k,0,x,a,_,_,_,_,_,_,h=>absurd h (Nat.not_lt_zero _)
 | 0,m+1,x,a,hx,h0,h1,hk,hb,hb2,_=>by
  rw [C6,Ac (by omega),Af (by decide),show (a-b).toNat=0 by omega];rfl
 | k+1,m+1,x,a,hx,h0,h1,hk,hb,hb2,hm=>by
  rw [C6]
  by_cases q:b<a
  ·obtain ⟨j,hj⟩:∃ j,(a-b).toNat=j+1:=⟨(a-b).toNat-1,by omega⟩
   rw [Ad q,Ae rfl,hj,dnN]
   by_cases c:x.tmod 10=0
   ·have d:=Zb6 hx
    rw [Ad c,Af (by decide),Ae c,Ae (by unfold BV;omega),Ae (by unfold BV;omega),S1 n b k m (x.tdiv 10) (a-1) d (by omega) (by omega) (by omega) (by omega) hb2 (by omega),show (a-1-b).toNat=j by omega]
   ·rw [Ac c,Ae (by rfl),Af c];rfl
  ·rw [Ac q,Af (by decide),show (a-b).toNat=0 by omega];rfl
theorem Zc0 (n:Nat) (b:Int):∀ (k m:Nat) (x a:Int),-999999999999999≤x∧x≤999999999999999→0≤a→a≤100→b-a≤k→a≤b→b≤100→k<m→200<n→CJ n b m x a=some ((upN (b-a).toNat x).getD 0,(upN (b-a).toNat x).isSome)
 | k,0,x,a,_,_,_,_,_,_,h,_=>absurd h (Nat.not_lt_zero _)
 | 0,m+1,x,a,hx,h0,h1,hk,hb,hb2,_,hn=>by
  rw [CJ,Ac (by omega),Af (by decide),show (b-a).toNat=0 by omega,D8,S1 n b 0 n x a hx (by omega) h1 (by omega) (by omega) (by omega) (by omega),show (a-b).toNat=0 by omega];rfl
 | k+1,m+1,x,a,hx,h0,h1,hk,hb,hb2,hm,hn=>by
  rw [CJ]
  by_cases q:a<b
  ·obtain ⟨j,hj⟩:∃ j,(b-a).toNat=j+1:=⟨(b-a).toNat-1,by omega⟩
   rw [Ad q,Ae rfl,hj,upN,Ae (by unfold BV;omega)]
   by_cases c : -999999999999999≤x*10∧x*10≤999999999999999
   ·rw [Ac (by omega),Ac (by omega),Af (by decide),Ae c,Ae (by unfold BV;omega),Zc0 n b k m (x*10) (a+1) c (by omega) (by omega) (by omega) (by omega) hb2 (by omega) hn,show (b-(a+1)).toNat=j by omega]
   ·rw [Ae (by rw [Bool.or_eq_true,decide_eq_true_eq,decide_eq_true_eq];omega),Af c];rfl
  ·rw [Ac q,Af (by decide),show (b-a).toNat=0 by omega,D8,S1 n b 0 n x a hx (by omega) h1 (by omega) (by omega) (by omega) (by omega),show (a-b).toNat=0 by omega];rfl
theorem PS (n:Nat) (x a b:Int) (hx : -999999999999999≤x∧x≤999999999999999) (ha:0≤a∧a≤100) (hb:0≤b∧b≤100) (hn:200<n):Di n x a b=some ((MZ x a b).getD 0,(MZ x a b).isSome):=by
 rw [Di,MZ]
 by_cases q:a≤b
 ·rw [Ae q,Zc0 n b 100 n x a hx ha.1 ha.2 (by omega) q hb.2 (by omega) hn]
 ·rw [Af q]
  obtain ⟨m,rfl⟩:∃ m,n=m+1:=⟨n-1,by omega⟩
  rw [CJ,Ac (by omega),Af (by decide),D8,S1 _ b 100 _ x a hx (by omega) ha.2 (by omega) (by omega) (by omega) (by omega)]
def Zhv (o:Option Int) (y:Int × Bool):Prop:=match o with | some m=>y=(m,true) | none=>y.2=false∨(y.2=true∧(999999999999999<y.1∨y.1 < -999999999999999))
theorem WV (n:Nat):∀ (k m:Nat) (x d:Int),-999999999999999≤x∧x≤999999999999999 → -d≤k→d≤0 → -100≤d→k<m→Ha n m x d=some ((dnN (-d).toNat x).getD 0,(dnN (-d).toNat x).isSome)
 | k,0,x,d,_,_,_,_,h=>absurd h (Nat.not_lt_zero _)
 | 0,m+1,x,d,hx,h0,h1,h2,_=>by
  rw [Ha,Ac (by omega),Af (by decide),show (-d).toNat=0 by omega];rfl
 | k+1,m+1,x,d,hx,h0,h1,h2,hm=>by
  rw [Ha]
  by_cases q:d<0
  ·obtain ⟨j,hj⟩:∃ j,(-d).toNat=j+1:=⟨(-d).toNat-1,by omega⟩
   rw [Ad q,Ae rfl,hj,dnN]
   by_cases c:x.tmod 10=0
   ·have a:=Zb6 hx
    rw [Ad c,Af (by decide),Ae c,Ae (by unfold BV;omega),Ae (by unfold BV;omega),WV n k m (x.tdiv 10) (d+1) a (by omega) (by omega) (by omega) (by omega),show (-(d+1)).toNat=j by omega]
   ·rw [Ac c,Ae (by rfl),Af c];rfl
  ·rw [Ac q,Af (by decide),show (-d).toNat=0 by omega];rfl
theorem ZfZ (n:Nat) (hn:200<n):∀ (k m:Nat) (x d:Int),-999999999999999≤x∧x≤999999999999999→d≤k→0≤d→d≤100→k<m→∃ y,GH n m x d=some y∧Zhv (upN d.toNat x) y
 | k,0,x,d,_,_,_,_,h=>absurd h (Nat.not_lt_zero _)
 | 0,m+1,x,d,hx,h0,h1,h2,_=>by
  rw [GH,Ac (by omega),Af (by decide),show d.toNat=0 by omega,Jd,WV n 0 n x d hx (by omega) (by omega) (by omega) (by omega),show (-d).toNat=0 by omega]
  exact ⟨_,rfl,rfl⟩
 | k+1,m+1,x,d,hx,h0,h1,h2,hm=>by
  rw [GH]
  by_cases q:0<d
  ·obtain ⟨j,hj⟩:∃ j,d.toNat=j+1:=⟨d.toNat-1,by omega⟩
   rw [Ad q,Ae rfl,hj,upN,Ac (by omega),Ac (by omega),Af (by decide),Ae (by unfold BV;omega),Ae (by unfold BV;omega),Int.mul_comm 10 x]
   by_cases c : -999999999999999≤x*10∧x*10≤999999999999999
   ·rw [Ae c]
    obtain ⟨y,b,a⟩:=ZfZ n hn k m (x*10) (d-1) c (by omega) (by omega) (by omega) (by omega)
    rw [show (d-1).toNat=j by omega] at a
    exact ⟨y,b,a⟩
   ·rw [Af c]
    obtain ⟨m,rfl⟩:∃ q,m=q+1:=⟨m-1,by omega⟩
    rw [GH]
    by_cases q2:0<d-1
    ·rw [Ad q2,Ae rfl,Ae (by rw [Bool.or_eq_true,decide_eq_true_eq,decide_eq_true_eq];omega)]
     exact ⟨_,rfl,.inr ⟨rfl,by simp only;omega⟩⟩
    ·rw [Ac q2,Af (by decide),Jd]
     obtain ⟨n,rfl⟩:∃ q,n=q+1:=⟨n-1,by omega⟩
     rw [Ha,Ac (by omega),Af (by decide)]
     exact ⟨_,rfl,.inr ⟨rfl,by simp only;omega⟩⟩
  ·rw [Ac q,Af (by decide),show d.toNat=0 by omega,Jd,WV n 0 n x d hx (by omega) (by omega) (by omega) (by omega),show (-d).toNat=0 by omega]
   exact ⟨_,rfl,rfl⟩
theorem Tu (n:Nat) (x a b:Int) (hx : -999999999999999≤x∧x≤999999999999999) (ha:0≤a∧a≤100) (hb:0≤b∧b≤100) (hn:200<n):∃ y,GL n x (b-a)=some y∧Zhv (MZ x a b) y:=by
 rw [GL,MZ]
 by_cases q:a≤b
 ·rw [Ae q]
  exact ZfZ n hn 100 n x (b-a) hx (by omega) (by omega) (by omega) (by omega)
 ·rw [Af q]
  obtain ⟨m,rfl⟩:∃ m,n=m+1:=⟨n-1,by omega⟩
  rw [GH,Ac (by omega),Af (by decide),Jd,WV _ 100 _ x (b-a) hx (by omega) (by omega) (by omega) (by omega),show (-(b-a)).toNat=(a-b).toNat by omega]
  refine ⟨_,rfl,?_⟩
  cases h:dnN (a-b).toNat x with
  | none=>exact .inl rfl
  | some m=>rfl
theorem Qg:∀ a b:List UInt8,Op.bytesLess a b=decide (VH a b<0)
 | [],[]=>rfl
 | _::_,[]=>rfl
 | [],_::_=>rfl
 | x::a,y::b=>by
  have ih:=Qg a b
  simp only [Op.bytesLess,VH,Lib.compareBytes] at *
  by_cases h1:x<y
  ·simp [h1]
  ·by_cases h2:y<x
   ·have:¬ x=y:=fun e=>by rw [e] at h2;exact UInt8.lt_irrefl _ h2
    simp [h1,h2,this]
   ·have:x=y:=by
     rw [UInt8.lt_iff_toNat_lt] at h1 h2
     exact UInt8.toNat.inj (by omega)
    subst this
    simp [h1,ih]
theorem Z8 (x y:ByteArray):Wq x y=decide (EM x y<0):=Qg _ _
theorem Rm (x y:ByteArray):EM y x = - EM x y:=Qp _ _
theorem OX (x:ByteArray):EM x x=0:=SV _
theorem QS {x y z:ByteArray} (h1:EM x y<0) (h2:EM y z<0):EM x z<0:=(Qu _ _ _ (Int.le_of_lt h1) (Int.le_of_lt h2)).2 (.inl h1)
def SS (l:List (ByteArray × Vl)):Prop:=l.Pairwise fun p q=>EM p.1 q.1<0
theorem Q6:∀ (l m:List (ByteArray × Vl)),l.Perm m→SS l→SS m→l=m
 | [],m,h,_,_=>(List.nil_perm.1 h).symm▸rfl
 | p::l,[],h,_,_=>absurd h.length_eq (by simp)
 | p::l,q::m,h,h1,h2=>by
  obtain ⟨a1,a2⟩:=List.pairwise_cons.1 h1
  obtain ⟨a,b⟩:=List.pairwise_cons.1 h2
  have e:p=q:=by
   have hp:p∈q::m:=h.mem_iff.1 (List.mem_cons_self ..)
   have hq:q∈p::l:=h.mem_iff.2 (List.mem_cons_self ..)
   rcases List.mem_cons.1 hp with e | hp
   ·exact e
   rcases List.mem_cons.1 hq with e | hq
   ·exact e.symm
   have c:=a p hp
   have d:=a1 q hq
   have:=Rm p.1 q.1
   omega
  subst e
  rw [Q6 l m ((List.perm_cons _).1 h) a2 b]
theorem Tn {α:Type} (d:α):∀ xs:List α,(List.range xs.length).map (fun i=>xs.getD i d)=xs:=fun xs=>by
 apply List.ext_getElem
 ·simp
 ·intro i b a
  simp [List.getD,List.getElem?_eq_getElem a]
theorem IU (l:List (ByteArray × Vl)):(BZ l).Perm l:=by
 have h:=((Ns (fun i=>(l.getD i NJ).1) l.length).1).map fun i=>l.getD i NJ
 rw [Tn] at h
 exact h
theorem Qm (l:List (ByteArray × Vl)) (hd:(l.map Prod.fst).Nodup):SS (BZ l):=by
 have f:=IU l
 have o:=Gh l
 have h:((BZ l).map Prod.fst).Nodup:=(f.map Prod.fst).nodup_iff.2 hd
 unfold SS
 rw [List.pairwise_iff_getElem]
 intro i j c d a
 have m:=(Ns (fun i=>(l.getD i NJ).1) l.length).2 i j a (by omega)
 have n:(Ic (fun i=>(l.getD i NJ).1) l.length).length=l.length:=Hf _ _
 have g:∀ k (e:k<(BZ l).length),(BZ l)[k].1=(l.getD ((Ic (fun i=>(l.getD i NJ).1) l.length)[k]!) NJ).1:=fun k e=>by
  have b:k<(Ic (fun i=>(l.getD i NJ).1) l.length).length:=by omega
  rw [getElem!_pos _ k b]
  show ((L8 Prod.fst NJ l)[k]'e).1=_
  simp only [L8,List.getElem_map]
 rw [g i c,g j d]
 have ne:(BZ l)[i].1≠(BZ l)[j].1:=by
  have:=List.pairwise_iff_getElem.1 h i j (by simpa using c) (by simpa using d) a
  simpa using this
 rw [g i c,g j d] at ne
 have r:=Rm (l.getD ((Ic (fun i=>(l.getD i NJ).1) l.length)[i]!) NJ).1 (l.getD ((Ic (fun i=>(l.getD i NJ).1) l.length)[j]!) NJ).1
 have p:EM (l.getD ((Ic (fun i=>(l.getD i NJ).1) l.length)[i]!) NJ).1 (l.getD ((Ic (fun i=>(l.getD i NJ).1) l.length)[j]!) NJ).1≠0:=fun q=>ne ((J5 _ _).1 q)
 change ¬ EM _ _<0 at m
 omega
theorem ZaC (n:Nat) (l:List (ByteArray × Vl)) (hl:l.length≤1000000) (hn:l.length<n) (hnul:∀ p∈l,B1 p.2=false) (hd:(l.map Prod.fst).Nodup):∀ (k m i:Nat),i+k=l.length→k<m→Ek n l m i (l.take i)=Jo n l
 | k,0,i,_,h=>absurd h (Nat.not_lt_zero _)
 | 0,m+1,i,hi,_=>by
  rw [Ek,As,Ac (by omega),List.take_of_length_le (by omega)]
  rfl
 | k+1,m+1,i,hi,hm=>by
  have a:i<l.length:=by omega
  have r:¬ (((l.length:Nat):Int)<(i:Int)+1):=by omega
  rw [Ek,As,Ad a]
  rw [Ae rfl,Ax a,Ab]
  rw [Ae (Aw (by omega)),Ae (by omega)]
  have o:((i:Int)+1).toNat=i+1:=by omega
  have d:Dm n (l.drop (i+1)) (fun b=>some (DW b l[i]))=some false:=by
   rw [Dm,Ce]
   have e:=WF n (l.drop (i+1)) (fun b=>some (DW b l[i])) (fun b=>DW b l[i]) (fun _ _=>rfl) (by rw [List.length_drop];omega) (l.drop (i+1)).length n 0 (by omega) (by rw [List.length_drop];omega)
   have f:BF n (l.drop (i+1)) (fun b=>some (DW b l[i])) n 0=_:=e
   rw [f,Ab,MK]
   congr 1
   rw [List.any_eq_false]
   intro p c
   rw [DW]
   have ne:¬ DK p.1 l[i].1=true:=by
    rw [E3]
    intro q
    obtain ⟨j,g,rfl⟩:=List.mem_iff_getElem.1 c
    rw [List.length_drop] at g
    have:=List.pairwise_iff_getElem.1 hd i (i+1+j) (by simpa using a) (by simp;omega) (by omega)
    apply this
    simp only [List.getElem_map]
    rw [List.getElem_drop] at q
    exact q.symm
   simp [Bool.eq_false_iff.2 ne]
  rw [o,d,Ab,hnul _ (List.getElem_mem a)]
  rw [Ae (by rfl),Ae (by rw [List.length_take];omega),Im,Ae (Aw (by omega))]
  have e:l.take i++[l[i]]=l.take (i+1):=by rw [List.take_succ_eq_append_getElem a]
  rw [e]
  exact ZaC n l hl hn hnul hd k m (i+1) (by omega) (by omega)
theorem Zbu {b:List (ByteArray × Vl)} (hb:SS b) (x:ByteArray × Vl) (hx:∀ p∈b,p.1≠x.1) {j:Nat} (h1:∀ p∈b.take j,EM p.1 x.1<0) (h2:∀ h:j<b.length,¬ EM b[j].1 x.1<0):SS (b.take j++[x]++b.drop j):=by
 unfold SS at *
 rw [List.append_assoc,List.singleton_append]
 have a:=hb
 rw [←List.take_append_drop j b] at a
 obtain ⟨k,c,i⟩:=List.pairwise_append.1 a
 have hd:∀ q∈b.drop j,EM x.1 q.1<0:=by
  by_cases hj:j<b.length
  ·have e:=List.drop_eq_getElem_cons hj
   rw [e] at c ⊢
   obtain ⟨f,l⟩:=List.pairwise_cons.1 c
   have g:EM x.1 b[j].1<0:=by
    have:=h2 hj
    have n:=Rm b[j].1 x.1
    have m:EM b[j].1 x.1≠0:=fun q=>hx _ (List.getElem_mem hj) ((J5 _ _).1 q)
    omega
   intro q hq
   rcases List.mem_cons.1 hq with rfl | hq
   ·exact g
   ·exact QS g (f q hq)
  ·rw [List.drop_eq_nil_of_le (by omega)];simp
 refine List.pairwise_append.2 ⟨k,List.pairwise_cons.2 ⟨hd,c⟩,fun p d q hq=>?_⟩
 rcases List.mem_cons.1 hq with rfl | hq
 ·exact h1 p d
 ·exact i p d q hq
theorem La {B:List (List AV)} {l:Nat} {cs:List AV} (h:B[l]? = some cs) (i:Nat):∀ (X:List (List AV)) (c c':List AV),(B.set i c++X).set l c'=(B.set i c).set l c'++X:=fun X c c'=>List.set_append_left _ _ (by rw [List.length_set];exact (Ag.1 h).1)
theorem Aq {B:List (List AV)} {l:Nat} {c:List AV} (h:B[l]? = some c):B.set l c=B:=by
 apply List.ext_getElem?
 intro i
 by_cases q:l=i
 ·subst q
  rw [List.getElem?_set_self (Ag.1 h).1,h]
 ·rw [List.getElem?_set_ne q]
@[go_sem] theorem ZjV:F4 Tryz.prog 119=none:=by kernel_rfl
@[go_sem] theorem ZkT:F4 Tryz.prog 69=none:=by kernel_rfl
@[go_sem] theorem ZhG:IH Tryz.prog 249=false:=by kernel_rfl
@[go_sem] theorem Zeu (xs ys:List AV):NW Tryz.prog .eql 106 xs ys=(obK [(none,true),(some .i64,false)] xs ys,NY xs ys):=ZaS (by kernel_rfl) xs ys
@[go_sem] theorem Zg4:Fb Tryz.prog 122 0=some (0,1,false):=by kernel_rfl
@[go_sem] theorem Zhm:Fb Tryz.prog 122 1=some (1,1,false):=by kernel_rfl
@[go_sem] theorem ZjP:Nq Tryz.prog 249=some .u64:=by kernel_rfl
@[go_sem] theorem Zgw:Ea Tryz.prog 119=some [(0,1),(1,1)]:=by kernel_rfl
@[go_sem] theorem Zjy:EA Tryz.prog 249=false:=by kernel_rfl
@[go_sem] theorem Zlw:IB Tryz.prog 106=some (2,true):=by kernel_rfl
@[go_sem] theorem ZkB:IB Tryz.prog 120=some (1,false):=by kernel_rfl
@[go_sem] theorem Zk1:IB Tryz.prog 249=some (1,false):=by kernel_rfl
@[go_sem] theorem Zh0:CW Tryz.prog 119=some [.val (.string ⟨#[]⟩),.val (.int .i64 0)]:=by kernel_rfl
@[go_sem] theorem ZiO:CW Tryz.prog 249=some [.val (.int .u64 0)]:=by kernel_rfl
end Go.Proofs.YtgpmlelfkjfbiaaGreatDoor
namespace Go.Ev
open Go Go.RowKit
section
variable {o:VO} {n:Nat}
@[go_sem] theorem Zip:(Ll o n).cells=[Ll o n]:=by cases o<;>rfl
@[go_sem] theorem Zlz:(Ll o n).one=true:=by cases o<;>rfl
@[go_sem] theorem Zhn:A4 (Ll o n)=true:=by cases o<;>rfl
@[go_sem] theorem Zix:Gx (Ll o n)=false:=by cases o<;>rfl
@[go_sem] theorem Zlv:Vr (Ll o n)=false:=by cases o<;>rfl
@[go_sem] theorem Zfl (id ver:Nat):Ll (.row id ver) n = .vec id ver 0 n:=rfl
def VO.under:VO→Nat→Prop
 | .nil,_=>True
 | .row id _,k=>id<k
@[go_sem] theorem Zik {nb nr nl:Nat}:Under nb nr nl (Ll o n)↔o.under nr:=by
 cases o with
 | nil=>exact ⟨fun _=>trivial,fun _ => .list (by simp) trivial⟩
 | row id ver=>exact ⟨fun h=>by cases h;assumption,fun h => .vec h⟩
@[go_sem] theorem ZfC (k:Nat):VO.nil.under k=True:=rfl
@[go_sem] theorem QO (id ver k:Nat):(VO.row id ver).under k=(id<k):=rfl
end
def Pj:VO→List RowA→VO
 | .nil,rows => .row rows.length 0
 | .row id ver,_ => .row id (ver+1)
def QB:VO→List RowA→Nat→List AV→List RowA
 | .nil,rows,sz,cs=>rows++[.vec 0 sz cs]
 | .row id ver,rows,sz,cs=>rows.set id (.vec (ver+1) sz cs)
section
variable {Rw rows:List RowA} {l:List (Nat × Nat × Own)} {ho:Own} {v:List VE} {o:VO} {sz:Nat} {cs:List AV}
theorem OwnsAt.up {lo:Nat} {x:Nat × Nat × Own} (h:OwnsAt lo ho rows x) (r:List RowA):OwnsAt lo ho (rows++r) x:=by
 rcases h with h | ⟨id,h1,h2,h3⟩
 ·exact .inl h
 ·exact .inr ⟨id,h1,h2,by rw [List.getElem?_append_left (Ag.1 h3).1];exact h3⟩
theorem OwnsAt.set {lo:Nat} {x:Nat × Nat × Own} (h:OwnsAt lo ho rows x) {i:Nat} {a s:Nat} {c:List AV} (hi:rows[i]? = some (.vec a s c)) (r:RowA):OwnsAt lo ho (rows.set i r) x:=by
 rcases h with h | ⟨id,h1,h2,h3⟩
 ·exact .inl h
 ·refine .inr ⟨id,h1,h2,?_⟩
  rw [List.getElem?_set_ne (fun e=>by rw [e,h3] at hi;cases hi)]
  exact h3
theorem VAt.lt {lo:Nat} {x:VE} (h:VAt lo rows x):x.1.under rows.length:=by
 rcases h with h | ⟨id,ver,h1,h2,h3⟩
 ·rw [h.1];trivial
 ·rw [h1];exact (Ag.1 h3).1
theorem Owns.nilV (h:Owns Rw rows l ho v) (sz:Nat):Owns Rw rows l ho ((.nil,sz,[])::v) :=
 ⟨h.len,h.keep,fun i r b q a=>h.calm i r b q fun x hx=>a x (List.mem_cons_of_mem _ hx),h.each,h.apart,fun x hx=>by
  rcases List.mem_cons.1 hx with rfl | hx
  ·exact .inl ⟨rfl,rfl⟩
  ·exact h.veach x hx,List.pairwise_cons.2 ⟨fun _ _ _ _ _ q=>(nomatch q),h.vapart⟩⟩
theorem Owns.newV (h:Owns Rw rows l ho v) (sz:Nat) (cs:List AV):Owns Rw (rows++[.vec 0 sz cs]) l ho ((.row rows.length 0,sz,cs)::v):=by
 have g:=h.len
 refine ⟨by simp;omega,fun i c j=>?_,fun i r d q f=>?_,fun x hx=>(h.each x hx).up _,h.apart,fun x hx=>?_,List.pairwise_cons.2 ⟨fun y m id a b q k=>?_,h.vapart⟩⟩
 ·rw [List.getElem?_append_left (by omega)];exact h.keep i c j
 ·by_cases c:i<rows.length
  ·rw [List.getElem?_append_left c] at d
   exact h.calm i r d q fun x hx=>f x (List.mem_cons_of_mem _ hx)
  ·have e:i=rows.length:=by
    have:=(Ag.1 d).1
    simp at this;omega
   exact absurd (by rw [e]) (f _ (List.mem_cons_self ..) 0)
 ·rcases List.mem_cons.1 hx with rfl | hx
  ·exact .inr ⟨_,_,rfl,g,by simp⟩
  ·exact (h.veach x hx).up _
 ·cases q
  have:=(h.veach y m).lt
  rw [k] at this
  exact Nat.lt_irrefl _ this
theorem Owns.setV {id ver:Nat} (h:Owns Rw rows l ho ((.row id ver,sz,cs)::v)) (ver':Nat) (cs':List AV):Owns Rw (rows.set id (.vec ver' sz cs')) l ho ((.row id ver',sz,cs')::v):=by
 obtain ⟨t,s,o,n,u,g,w⟩:=h
 obtain ⟨hid,hrow⟩:Rw.length≤id∧rows[id]? = some (.vec ver sz cs):=by
  rcases g _ (List.mem_cons_self ..) with q | ⟨c,ver',q1,q2,q3⟩
  ·cases q.1
  ·cases q1;exact ⟨q2,q3⟩
 have d:=(Ag.1 hrow).1
 obtain ⟨p1,p2⟩:=List.pairwise_cons.1 w
 refine ⟨by simpa using t,fun i p m=>?_,fun i r j q f=>?_,fun x hx=>(n x hx).set hrow _,u,fun x hx=>?_,List.pairwise_cons.2 ⟨fun y hy c a b q=>by cases q;exact p1 y hy id ver b rfl,p2⟩⟩
 ·rw [List.getElem?_set_ne (by omega)];exact s i p m
 ·by_cases e:id=i
  ·exact absurd (by rw [e]) (f _ (List.mem_cons_self ..) ver')
  ·rw [List.getElem?_set_ne e] at j
   refine o i r j q fun x hx=>?_
   rcases List.mem_cons.1 hx with rfl | hx
   ·intro a k;cases k;exact e rfl
   ·exact f x (List.mem_cons_of_mem _ hx)
 ·rcases List.mem_cons.1 hx with rfl | hx
  ·exact .inr ⟨id,ver',rfl,hid,by simp [d]⟩
  ·exact (g x (List.mem_cons_of_mem _ hx)).set (fun a k=>p1 x hx id ver a rfl k) _
theorem Owns.bump (h:Owns Rw rows l ho ((o,sz,cs)::v)) (cs':List AV):Owns Rw (QB o rows sz cs') l ho ((Pj o rows,sz,cs')::v):=by
 cases o with
 | nil =>
  have d:Owns Rw rows l ho v:=⟨h.len,h.keep,fun i r c q b=>h.calm i r c q fun x hx=>by
   rcases List.mem_cons.1 hx with rfl | hx
   ·intro a k;cases k
   ·exact b x hx,h.each,h.apart,fun x hx=>h.veach x (List.mem_cons_of_mem _ hx),(List.pairwise_cons.1 h.vapart).2⟩
  exact d.newV sz cs'
 | row id ver=>exact h.setV (ver+1) cs'
theorem Owns.eqV {v':List VE} (h:Owns Rw rows l ho v) (he:v=v'):Owns Rw rows l ho v':=he▸h
theorem Owns.nilZ (h:Owns Rw rows l ho ((o,sz,cs)::v)) (hs:0<sz) {n:Nat} (hn:cs.length=n*sz):o = .nil→n=0:=fun e=>by
 rcases h.veach _ (List.mem_cons_self ..) with q | ⟨id,ver,q1,a,q3⟩
 ·have a:cs=[]:=q.2
  rw [a] at hn
  rcases Nat.eq_zero_or_pos n with w | w
  ·exact w
  ·have:=Nat.mul_pos w hs
   simp at hn;omega
 ·rw [e] at q1;cases q1
theorem Owns.lenV (h:Owns Rw rows l ho ((o,sz,cs)::v)) (hs:0<sz) {n:Nat} (hn:cs.length=n*sz) (P:Program) (t:TypeId):RU P t (Ll o n)=((JX P t).isSome=true,.val (.int .i64 n)):=by
 cases o with
 | nil=>rw [h.nilZ hs hn rfl];rfl
 | row id ver=>rfl
theorem Owns.underV (h:Owns Rw rows l ho v):∀ x∈v,x.1.under rows.length:=fun x a=>(h.veach x a).lt
theorem Owns.appendV {P:Program} {t el:TypeId} {by8 n m:Nat} {ag:Bool} (h:Owns Rw rows l ho ((o,sz,cs)::v)) (he:JX P t=some (el,sz,ag,by8)) (hz:(CW P el).isSome=true) (hs:0<sz) (hn:cs.length=n*sz) (hm:0<m)
  (hb:(n+m)*by8≤140737488355328) (hb2:n+m≤4611686018427387904) (ys:List AV) (hy:ys.length=m) (cs':List AV) (hc:cs++ys.flatMap (fun y=>y.pub.cells)=cs') :
  ∃ o' rows',Owns Rw rows' l ho ((o',sz,cs')::v)∧∀ (B:List (List AV)) (L:List LoopA) (o2:Own),Bq P ⟨B,rows,L⟩ t (Ll o n) (.list ys o2)=((∀ y∈ys,y.cells.length=sz∧A4 y=true),Ll o' (n+m),⟨B,rows',L⟩):=by
 subst hc
 refine ⟨_,_,h.bump _,fun B L o2=>?_⟩
 cases o with
 | nil =>
  have e0:=h.nilZ hs hn rfl
  subst e0
  have ec:cs=[]:=List.length_eq_zero_iff.1 (by simpa using hn)
  subst ec
  simp only [Ll,Bq,he,AX,Cc,Cm,hs,hz,hy,hm,Pj,QB,List.length_nil,List.nil_append,Nat.zero_add,true_and,and_true,Prod.mk.injEq,eq_iff_iff,and_self]
  rw [Nat.zero_add] at hb hb2
  exact ⟨fun q=>q.2.2,fun q=>⟨hb,hb2,q⟩⟩
 | row id ver =>
  obtain ⟨id',ver',e,hlt,hv⟩:∃ id' ver',VO.row id ver = .row id' ver'∧id'<rows.length∧EQ rows id' ver'=some (sz,cs):=by
   rcases h.veach _ (List.mem_cons_self ..) with q | ⟨id,ver,q1,q2,q3⟩
   ·cases q.1
   ·refine ⟨id,ver,q1,(Ag.1 q3).1,?_⟩
    simp only [EQ,q3,if_true]
  cases e
  have a:cs.take (n*sz)=cs:=List.take_of_length_le (by omega)
  have b:=hb
  simp only [Ll,Bq,he,hv,AX,Cc,Cm,hs,hz,hy,Pj,QB,a,Nat.le_of_eq hn.symm,true_and,and_true,Prod.mk.injEq,eq_iff_iff]
  exact ⟨fun q=>q.2.2,fun q=>⟨hb,hb2,q⟩⟩
theorem Owns.callV {rows':List RowA} {v':List VE} (h:Owns Rw rows l ho v) (hc:Owns rows rows' [] .none v'):Owns Rw rows' l ho (v'++v):=by
 have p:=h.len
 have s:=hc.len
 have keep:∀ i,i<rows.length→rows'[i]? = rows[i]? := fun i f=>hc.keep i f (fun q=>by cases q)
 have d:∀ x∈v,x.1.under rows.length:=h.underV
 have new:∀ x∈v',∀ id c,x.1 = .row id c→rows.length≤id:=fun x hx id c e=>by
  rcases hc.veach x hx with q | ⟨id',ver',q1,q2,q3⟩
  ·rw [q.1] at e;cases e
  ·rw [q1] at e;cases e;exact q2
 refine ⟨by omega,fun i f n=>?_,fun i r g q j=>?_,fun x hx=>?_,h.apart,fun x hx=>?_,List.pairwise_append.2 ⟨hc.vapart,h.vapart,fun x hx y o id a b e k=>?_⟩⟩
 ·rw [keep i (by omega)];exact h.keep i f n
 ·by_cases e:rows.length≤i
  ·exact hc.calm i r g (.inl e) fun x hx=>j x (List.mem_append_left _ hx)
  ·rw [keep i (by omega)] at g
   exact h.calm i r g q fun x hx=>j x (List.mem_append_right _ hx)
 ·rcases h.each x hx with q | ⟨id,q1,q2,q3⟩
  ·exact .inl q
  ·exact .inr ⟨id,q1,q2,by rw [keep id (Ag.1 q3).1];exact q3⟩
 ·rcases List.mem_append.1 hx with hx | hx
  ·rcases hc.veach x hx with q | ⟨id,c,q1,q2,q3⟩
   ·exact .inl q
   ·exact .inr ⟨id,c,q1,by omega,q3⟩
  ·rcases h.veach x hx with q | ⟨id,c,q1,q2,q3⟩
   ·exact .inl q
   ·exact .inr ⟨id,c,q1,q2,by rw [keep id (Ag.1 q3).1];exact q3⟩
 ·have t:=new x hx id a e
  have m:=d y o
  rw [k] at m
  exact absurd m (by simp only [VO.under];omega)
theorem Owns.dropV {x:VE} (h:Owns Rw rows l ho ((.nil,sz,cs)::v)):Owns Rw rows l ho v :=
 ⟨h.len,h.keep,fun i r c q b=>h.calm i r c q fun x hx=>by
  rcases List.mem_cons.1 hx with rfl | hx
  ·intro a k;cases k
  ·exact b x hx,h.each,h.apart,fun x hx=>h.veach x (List.mem_cons_of_mem _ hx),(List.pairwise_cons.1 h.vapart).2⟩
theorem Owns.deadV {id ver:Nat} (h:Owns Rw rows l ho ((.row id ver,sz,cs)::v)):Owns Rw (rows.set id (.dead (ver+1))) l ho v:=by
 obtain ⟨p,o,j,g,t,c,u⟩:=h
 obtain ⟨hid,hrow⟩:Rw.length≤id∧rows[id]? = some (.vec ver sz cs):=by
  rcases c _ (List.mem_cons_self ..) with q | ⟨id',ver',q1,q2,q3⟩
  ·cases q.1
  ·cases q1;exact ⟨q2,q3⟩
 have b:=(Ag.1 hrow).1
 obtain ⟨n,s⟩:=List.pairwise_cons.1 u
 refine ⟨by simpa using p,fun i m f=>?_,fun i r hr q d=>?_,fun x hx=>(g x hx).set hrow _,t,fun x hx=>?_,s⟩
 ·rw [List.getElem?_set_ne (by omega)];exact o i m f
 ·by_cases e:id=i
  ·subst e
   rw [List.getElem?_set_self b] at hr
   cases hr;rfl
  ·rw [List.getElem?_set_ne e] at hr
   refine j i r hr q fun x hx=>?_
   rcases List.mem_cons.1 hx with rfl | hx
   ·intro a k;cases k;exact e rfl
   ·exact d x hx
 ·exact (c x (List.mem_cons_of_mem _ hx)).set (fun a k=>n x hx id ver a rfl k) _
end
section
variable {P:Program} {w0:World} {n:Nat} {e:Env} {st:St} {M0:Mem} {W0:World} {ro:Option Nat} {Q:AQ} {c:Code}
variable {Rw:List RowA} {lw:List (Nat × Nat × Own)} {oh:Own} {v:List VE} {o:VO} {sz m:Nat} {cs xs:List AV}
theorem YG (l i:Nat) {bs:List AV} (hl:st.boxes[l]? = some bs) (hi:bs[i]? = some (Ll o m)) (ho:Owns Rw st.rows lw oh ((o,sz,cs)::v)) (ag:Bool) (hag:ag=true∨sz=1) (hs:0<sz) (hn:cs.length=m*sz) (hx:O2 sz ag cs 0 m=xs)
  (h:∀ rows',Owns Rw rows' lw oh v→GE P w0 n M0 W0 ro c Q e { st with boxes:=st.boxes.set l (bs.set i (.list xs .none)),rows:=rows' }):GE P w0 n M0 W0 ro c Q e st:=by
 cases o with
 | nil =>
  have e0:=ho.nilZ hs hn rfl
  subst e0
  have ex:xs=[]:=by rw [←hx];rfl
  subst ex
  exact RO l i hl hi rfl (h _ (ho.dropV (x:=(.nil,0,[]))))
 | row id ver =>
  rcases ho.veach _ (List.mem_cons_self ..) with q | ⟨id',ver',q1,q2,q3⟩
  ·cases q.1
  ·cases q1
   subst hx
   exact Ox l i ag hl hi (by simp only [EQ,q3,if_true]) hag (by rw [Nat.zero_add];omega) (h _ ho.deadV)
end
theorem Zfw {α:Type} {f:α→AV} {g:α→List AV} (sz:Nat) (hf:∀ x,f x = .agg (g x)) (hg:∀ x,(g x).length=sz) (xs:List α):O2 sz true (xs.flatMap fun x=>(f x).cells) 0 xs.length=xs.map f:=by
 have b:(xs.flatMap fun x=>(f x).cells)=xs.flatMap g:=by
  congr 1;funext x;rw [hf];rfl
 rw [b]
 refine List.ext_getElem (by simp [O2]) fun i c a=>?_
 simp only [List.length_map] at a
 simp only [O2,List.getElem_map,List.getElem_range,Nat.zero_add,Ph,if_true]
 rw [G9 sz hg (List.getElem?_eq_getElem a),hf]
theorem Jc {α:Type} {f:α→AV} {sz:Nat} (hf:∀ x,(f x).cells.length=sz) (xs:List α):(xs.flatMap fun x=>(f x).cells).length=xs.length*sz:=by
 induction xs with
 | nil=>simp
 | cons x xs ih=>rw [List.flatMap_cons,List.length_append,ih,hf,List.length_cons,Nat.succ_mul,Nat.add_comm]
theorem YV {α:Type} {f:α→AV} {sz:Nat} (hf:∀ x,(f x).cells.length=sz) {xs:List α} {i:Nat} {x:α} (h:xs[i]? = some x) :
  (∀ j,j<sz→XD (xs.flatMap fun x=>(f x).cells) (i*sz+j)=XD (f x).cells j)∧(∀ j k,j+k≤sz→((xs.flatMap fun x=>(f x).cells).drop (i*sz+j)).take k=((f x).cells.drop j).take k):=by
 have a:=G9 (f:=fun x=>(f x).cells) sz hf h
 have b:∀ j k,j+k≤sz→((xs.flatMap fun x=>(f x).cells).drop (i*sz+j)).take k=((f x).cells.drop j).take k:=fun j k d=>by
  rw [←a,List.drop_take,List.take_take,List.drop_drop,Nat.min_eq_left (by omega)]
 refine ⟨fun j e=>?_,b⟩
 have:=b j 1 (by omega)
 simp only [XD,List.getD_eq_getElem?_getD]
 have c:∀ (l:List AV) (q:Nat),l[q]? = ((l.drop q).take 1)[0]? := fun l q=>by simp [List.getElem?_take_of_lt,List.getElem?_drop]
 rw [c,c (f x).cells,this]
section
variable {P:Program} {w0:World} {f:FuncId} {st:St}
def finV (st:St) (Post:AV→St→Prop) (r:AV) (s:St):Prop :=
 st.boxes.length≤s.boxes.length∧st.rows.length≤s.rows.length∧st.loops.length≤s.loops.length∧Calm st.boxes.length s.rows.length st.loops.length (s.cut st.boxes.length s.rows.length st.loops.length) ∧
  Under st.boxes.length s.rows.length st.loops.length r∧Post r (s.cut st.boxes.length s.rows.length st.loops.length)
theorem ACalls.finV {args:List AV} {Post:AV→St→Prop} (h:ACalls P w0 f args st (finV st Post)):ACalls P w0 f args st Post:=by
 refine ⟨h.1,fun M w c a b=>(h.2 M w c a b).mono ?_⟩
 rintro en m ⟨v,M',r,d,j,⟨k,n,e,i,g,l⟩,h3,h4,h5⟩
 exact ⟨v,M'.cut st.boxes.length d.rows.length st.loops.length,r,_,j,l,h3.cut (by have:=a.N;omega) (by have:=a.NR;omega) (by have:=a.loop.NL;omega) (by rw [h4.loop.NL];exact e),h4.cut k (Nat.le_refl _) e i,h5.cut g⟩
theorem ZjS {B B' X:List (List AV)} {R0 rows:List RowA} {L l:List LoopA} {Post:AV→St→Prop} {r:AV} {ow:List (Nat × Nat × Own)} {v:List VE} (ho:Owns R0 rows ow .none v) (hc:Calm B.length R0.length L.length ⟨B',R0,L⟩) (hB:B'.length=B.length) (hu:Under B.length rows.length L.length r)
  (hv:∀ x∈v,∀ y∈x.2.2,Under B.length rows.length L.length y) (hp:Post r ⟨B',rows,L⟩):Go.Ev.finV ⟨B,R0,L⟩ Post r ⟨B'++X,rows,L++l⟩:=by
 have e:St.cut ⟨B'++X,rows,L++l⟩ B.length rows.length L.length=⟨B',rows,L⟩:=by simp [St.cut,←hB]
 have d:=ho.len
 refine ⟨by simp [hB],d,by simp,?_,hu,by simp only [e];exact hp⟩
 simp only [e]
 exact ⟨ho.rowsCalm (Nat.le_refl _) hc.rows hv,fun cs a x b=>CX (Nat.le_refl _) d (Nat.le_refl _) (hc.boxes cs a x b),fun f a k x b c=>CX (Nat.le_refl _) d (Nat.le_refl _) (hc.loops f a k x b c)⟩
theorem Zhr {B B' X:List (List AV)} {R0 rows:List RowA} {L:List LoopA} {Post:AV→St→Prop} {r:AV} {ow:List (Nat × Nat × Own)} {v:List VE} (ho:Owns R0 rows ow .none v) (hc:Calm B.length R0.length L.length ⟨B',R0,L⟩) (hB:B'.length=B.length) (hu:Under B.length rows.length L.length r)
  (hv:∀ x∈v,∀ y∈x.2.2,Under B.length rows.length L.length y) (hp:Post r ⟨B',rows,L⟩):Go.Ev.finV ⟨B,R0,L⟩ Post r ⟨B'++X,rows,L⟩:=by
 have:=ZjS (X:=X) (l:=[]) ho hc hB hu hv hp
 rwa [List.append_nil] at this
end
abbrev VP (Rw:List RowA) (o:VO) (sz:Nat) (cs:List AV):Prop:=VAt 0 Rw (o,sz,cs)
theorem Owns.vp {Rw rows:List RowA} {l:List (Nat × Nat × Own)} {ho:Own} {v:List VE} {o:VO} {sz:Nat} {cs:List AV} (h:Owns Rw rows l ho ((o,sz,cs)::v)):VP rows o sz cs:=by
 rcases h.veach _ (List.mem_cons_self ..) with q | ⟨id,ver,q1,q2,q3⟩
 ·exact .inl q
 ·exact .inr ⟨id,ver,q1,Nat.zero_le _,q3⟩
theorem VP.up {Rw rows:List RowA} {o:VO} {sz:Nat} {cs:List AV} {l:List (Nat × Nat × Own)} {v:List VE} (h:VP Rw o sz cs) (ho:Owns Rw rows l .none v):VP rows o sz cs:=by
 rcases h with q | ⟨id,ver,q1,q2,q3⟩
 ·exact .inl q
 ·refine .inr ⟨id,ver,q1,q2,?_⟩
  rw [ho.keep id (Ag.1 q3).1 (fun e=>by cases e)]
  exact q3
theorem VP.row {rows:List RowA} {o:VO} {sz:Nat} {cs:List AV} (h:VP rows o sz cs) (hne:0<cs.length):∃ id ver,o = .row id ver∧id<rows.length∧EQ rows id ver=some (sz,cs):=by
 rcases h with q | ⟨id,ver,q1,a,q3⟩
 ·have a:cs=[]:=q.2
  rw [a] at hne;simp at hne
 ·refine ⟨id,ver,q1,(Ag.1 q3).1,?_⟩
  simp only [EQ,q3,if_true]
theorem VP.lenV {rows:List RowA} {o:VO} {sz:Nat} {cs:List AV} (h:VP rows o sz cs) (hs:0<sz) {n:Nat} (hn:cs.length=n*sz) (P:Program) (t:TypeId):RU P t (Ll o n)=((JX P t).isSome=true,.val (.int .i64 n)):=by
 cases o with
 | nil =>
  rcases h with q | ⟨id,ver,q1,a,q3⟩
  ·have a:cs=[]:=q.2
   rw [a] at hn
   rcases Nat.eq_zero_or_pos n with w | w
   ·rw [w];rfl
   ·have:=Nat.mul_pos w hs
    simp at hn;omega
  ·cases q1
 | row id ver=>rfl
theorem VP.under {rows:List RowA} {o:VO} {sz:Nat} {cs:List AV} (h:VP rows o sz cs):o.under rows.length:=VAt.lt h
end Go.Ev
namespace Go.Ev
open Go Go.RowKit Go.Shelf Go.Lib Go.Proofs
structure InsLay (P:Program) (ρ:Ren) (nm:String) (sz bytes:Nat) (z:Value):Prop where
 mixed:P.follows .mixedOrders=true
 nmo:nm ≠ "runtime.NumGoroutine"
 f22:P.funcs[ρ.f 22]? = some { Body2.n22 ρ with name:=nm }
 ov:∀ (w:World) (x y:Value),(Extern.SlicesOverlaps.overlaps #[ρ.t 24,ρ.t 24] #[ρ.t 4] #[x,y]).run P w = .ok (.bool false) w→(callFunc (ρ.f 29) #[x,y]).run P w = .ok (.value (.bool false)) w
 t0:P.underlying (ρ.t 0)=some (TypeDesc.tuple #[])
 a0:∀ w,(isAgg (ρ.t 0)).run P w = .ok false w
 z0:∀ w,(Go.sizeOf (ρ.t 0)).run P w = .ok 1 w
 v0:∀ w,(zeroValue (ρ.t 0)).run P w = .ok (Value.tuple #[]) w
 t3:P.underlying (ρ.t 3)=some (TypeDesc.int IntKind.i64)
 a3:∀ w,(isAgg (ρ.t 3)).run P w = .ok false w
 z3:∀ w,(Go.sizeOf (ρ.t 3)).run P w = .ok 1 w
 v3:∀ w,(zeroValue (ρ.t 3)).run P w = .ok (Value.int IntKind.i64 0) w
 t4:P.underlying (ρ.t 4)=some (TypeDesc.bool)
 a4:∀ w,(isAgg (ρ.t 4)).run P w = .ok false w
 z4:∀ w,(Go.sizeOf (ρ.t 4)).run P w = .ok 1 w
 v4:∀ w,(zeroValue (ρ.t 4)).run P w = .ok (Value.bool false) w
 z9:∀ w,(Go.sizeOf (ρ.t 9)).run P w = .ok sz w
 t24:P.underlying (ρ.t 24)=some (TypeDesc.slice (ρ.t 9))
 a24:∀ w,(isAgg (ρ.t 24)).run P w = .ok false w
 z24:∀ w,(Go.sizeOf (ρ.t 24)).run P w = .ok 1 w
 v24:∀ w,(zeroValue (ρ.t 24)).run P w = .ok (Value.slice none 0 0) w
 i9:(P.info? (ρ.t 9)).map (fun i=>(i.zero,i.size,i.bytes))=some (some z,sz,bytes)
theorem QZ {P:Program} (w:World) (tS tR e:TypeId) (ht:P.underlying tS=some (.slice e)) (size:Nat) (hz:∀ w,(Go.sizeOf e).run P w = .ok size w)
  (a b:Addr) (la ca lb cb:Nat) (hne:a.block≠b.block) (tA tB:TypeId) (kA kB:Nat)
  (hsa:w.shape? a.block=some (tA,kA)) (hsb:w.shape? b.block=some (tB,kB)) (hkA:kA≠0) (hkB:kB≠0)
  (hfb:∀ j,w.frozen? { block:=b.block,off:=j }=false) (hb:b.spot=none) :
  (Extern.SlicesOverlaps.overlaps #[tS,tS] #[tR] #[.slice (some a) la ca,.slice (some b) lb cb]).run P w = .ok (.bool false) w:=by
 have d:(a.block != b.block)=true:=by simpa using hne
 have c:(a.block == b.block)=false:=by simpa using hne
 have f:w.frozen? b=false:=by
  obtain ⟨h,g,i⟩:=b
  cases hb
  exact hfb g
 change Sem.run P (α:=Value) (do
  let some t:=(#[tS,tS]:Array TypeId)[0]? | stuck "slices.overlaps: no parameter types"
  let .slice elem ← underlying t | stuck "slices.overlaps: slice type expected"
  let size ← sizeOf elem
  match (some a:Option Addr),(some b:Option Addr) with
  | some a,some b =>
   if la=0∨lb=0∨size=0 then pure (Value.bool false)
   else if a.block != b.block&&(← frozen a)&&(← frozen b) then unsupported .addressObserved
   else do
    if a.block != b.block then do
     noView a;noView b
     if ← mayBeOne a b then return Value.bool ((← choose (.extern "sameAddr.stringBytes" 2)) == 1)
    pure (Value.bool (a.block == b.block&&a.off<b.off+lb*size&&b.off<a.off+la*size))
  | _,_=>pure (Value.bool false)) w=_
 by_cases h0:la=0∨lb=0∨size=0
 ·simp [run_underlying ht,hz,h0]
 ·cases kB with
  | zero=>exact absurd rfl hkB
  | succ kB =>
  cases kA with
  | zero=>exact absurd rfl hkA
  | succ kA =>
   cases hfa:w.frozen? a<;>cases hfe:w.frozen? { block:=a.block,off:=kA+1 } <;>
    simp [run_underlying ht,hz,h0,d,c,frozen,noView,viewAt,mayBeOne,stringish,shape,Sem.run,hsa,hsb,hfa,hfe,f,hfb]
section
variable {P:Program} {ρ:Ren} {nm:String} {sz bytes:Nat} {z:Value}
theorem Lt (w:World) (dT sT ty elem:TypeId) (b o dLen dCap:Nat) (a:Addr) (sLen sCap:Nat) (cs:List Value)
  (hu:P.underlying dT=some (.slice elem)) (hs:(P.info? elem).map (·.size)=some sz) (hn:cs.length=Nat.min sLen dLen*sz)
  (hsrc:∀ j v,cs[j]? = some v→w.cell? (a.add j)=some v) (hc:∀ j,j<cs.length→(w.cell? ⟨b,o+j,none⟩).isSome=true) (hf:∀ j,j<cs.length→w.frozen? ⟨b,o+j,none⟩=false) (h1:∀ v∈cs,v.oneCell'=true) :
  (Builtin.copy_ #[dT,sT] ty #[.slice (some ⟨b,o,none⟩) dLen dCap,.slice (some a) sLen sCap]).run P w = .ok (goInt (Nat.min sLen dLen)) (w.setCells b o cs):=by
 have d:=run_loadCells_list (P:=P) w a cs hsrc
 have c:=run_storeCells_cells (P:=P) b o cs 0 w (by simpa using hc) (by simpa using hf) h1
 rw [Nat.add_zero] at c
 rw [hn] at d
 cases hq:P.info? elem with
 | none=>simp [hq] at hs
 | some i =>
  have e:i.size=sz:=by simpa [hq] using hs
  simp [Builtin.copy_,run_underlying hu,Builtin.lenOf,Builtin.firstCells,sizeOf,typeInfo,hq,e,d,c]
theorem Zbc (L:InsLay P ρ nm sz bytes z) (b off n c i vb voff m vc:Nat) (cs vs:List Value) (w:World) (hi:i<n) (hm:0<m) (hroom:n+m≤c) (hc63:c≤9223372036854775807) (hvb:vb≠b)
  (hcl:cs.length=n*sz) (hvl:vs.length=m*sz)
  (hcs:∀ j v,cs[j]? = some v→w.cell? ⟨b,off+j,none⟩=some v) (hsp:∀ j,j<n*sz+m*sz→(w.cell? ⟨b,off+j,none⟩).isSome=true) (hfz:∀ j,j<n*sz+m*sz→w.frozen? ⟨b,off+j,none⟩=false)
  (hvs:∀ j v,vs[j]? = some v→w.cell? ⟨vb,voff+j,none⟩=some v) (h1c:∀ v∈cs,v.oneCell'=true) (h1v:∀ v∈vs,v.oneCell'=true)
  (tA tB:TypeId) (kA kB:Nat) (hsa:w.shape? vb=some (tA,kA)) (hsb:w.shape? b=some (tB,kB)) (hkA:kA≠0) (hkB:kB≠0) (hfb:∀ j,w.frozen? ⟨b,j,none⟩=false) :
  Calls P (ρ.f 22) #[.slice (some ⟨b,off,none⟩) n c,.int .i64 i,.slice (some ⟨vb,voff,none⟩) m vc] w fun e w' =>
   e = .returned (.slice (some ⟨b,off,none⟩) (n+m) c)∧w'=(w.drew.setCells b (off+(i*sz+m*sz)) (cs.drop (i*sz))).setCells b (off+i*sz) vs:=by
 have t0:=L.t0;have a0:=L.a0;have z0:=L.z0;have v0:=L.v0;have t3:=L.t3;have a3:=L.a3;have z3:=L.z3;have v3:=L.v3;have t4:=L.t4;have a4:=L.a4;have z4:=L.z4;have v4:=L.v4;have z9:=L.z9;have Z:=L.t24;have aj:=L.a24;have ag:=L.z24;have af:=L.v24
 have u0:=run_underlying L.t0;have u3:=run_underlying L.t3;have u4:=run_underlying L.t4;have ab:=run_underlying L.t24
 have O:¬ ((m:Int)=0):=by omega
 have ae:¬ ((i:Int)=(n:Int)):=by omega
 have r:(P.info? (ρ.t 9)).map (·.size)=some sz:=by
  obtain ⟨i0,E,h0,h1,h2⟩:=info_parts L.i9
  rw [E];simp [h1]
 have H:=L.mixed
 have U:IntKind.i64.wrap ((i:Int)+(m:Int))=(i:Int)+(m:Int):=by rw [IntKind.wrap_i64];omega
 have ai:(0:Int)≤(i:Int)+(m:Int):=by omega
 have C:i≤n:=by omega
 have N:((i:Int)+(m:Int)).toNat=i+m:=by omega
 have ad:¬ (c=i+m):=by omega
 have V:(i:Int)≤(n:Int)+(m:Int):=by omega
 have aa:¬ (c=i):=by omega
 have Q:(i+m)*sz=i*sz+m*sz:=Nat.add_mul ..
 have ah:i*sz≤n*sz:=Nat.mul_le_mul_right _ C
 have p:(n-i)*sz=n*sz-i*sz:=Nat.sub_mul ..
 have G:∀ D J,(callFunc (ρ.f 29) #[.slice (some ⟨vb,voff,none⟩) m vc,.slice (some ⟨b,off+(i*sz+m*sz),none⟩) D J]).run P w = .ok (.value (.bool false)) w:=fun D J =>
  L.ov _ _ _ (QZ w (ρ.t 24) (ρ.t 4) (ρ.t 9) L.t24 sz L.z9 ⟨vb,voff,none⟩ ⟨b,off+(i*sz+m*sz),none⟩ m vc D J hvb tA tB kA kB hsa hsb hkA hkB hfb rfl)
 have K:(cs.drop (i*sz)).length=n*sz-i*sz:=by rw [List.length_drop,hcl]
 have g:∀ l o y,(Builtin.copy_ #[(ρ.t 24),(ρ.t 24)] l #[.slice (some ⟨b,off+(i*sz+m*sz),none⟩) (n+m-(i+m)) o,.slice (some ⟨b,off+i*sz,none⟩) (n+m-i) y]).run P w.drew = .ok (goInt ((n-i:Nat):Int)) (w.drew.setCells b (off+(i*sz+m*sz)) (cs.drop (i*sz))):=fun l o y=>by
  have a:Nat.min (n+m-i) (n+m-(i+m))=n-i:=by simp only [Nat.min_def];split<;>omega
  have:=Lt (P:=P) w.drew (ρ.t 24) (ρ.t 24) l (ρ.t 9) b (off+(i*sz+m*sz)) (n+m-(i+m)) o ⟨b,off+i*sz,none⟩ (n+m-i) y (cs.drop (i*sz)) L.t24 r (by rw [K,a,p])
   (fun j v d=>by rw [Addr.add_lit,Nat.add_assoc];exact hcs (i*sz+j) v (by rwa [List.getElem?_drop] at d))
   (fun j d=>by rw [Nat.add_assoc];exact hsp _ (by omega)) (fun j d=>by rw [Nat.add_assoc];exact hfz _ (by omega)) (fun v hv=>h1c v (List.mem_of_mem_drop hv))
  rwa [a] at this
 obtain ⟨W1,hW1⟩:∃ W1,W1=w.drew.setCells b (off+(i*sz+m*sz)) (cs.drop (i*sz)):=⟨_,rfl⟩
 have s:∀ k,k<n*sz+m*sz→(W1.cell? ⟨b,off+k,none⟩).isSome=true:=fun k Y=>by
  rw [hW1]
  exact isSome_setCells b _ _ _ (fun j d=>by rw [Nat.add_assoc];exact hsp _ (by omega)) _ (hsp k Y)
 have u:∀ (W:World),(∀ x,W.cell? x=W1.cell? x)→(∀ x,W.frozen? x=W1.frozen? x)→∀ l o,(Builtin.copy_ #[(ρ.t 24),(ρ.t 24)] l #[.slice (some ⟨b,off+i*sz,none⟩) (n+m-i) o,.slice (some ⟨vb,voff,none⟩) m vc]).run P W = .ok (goInt m) (W.setCells b (off+i*sz) vs):=fun W q F l o=>by
  have a:Nat.min m (n+m-i)=m:=by simp only [Nat.min_def];split<;>omega
  have:=Lt (P:=P) W (ρ.t 24) (ρ.t 24) l (ρ.t 9) b (off+i*sz) (n+m-i) o ⟨vb,voff,none⟩ m vc vs L.t24 r (by rw [hvl,a])
   (fun j v d=>by
    rw [Addr.add_lit,q,hW1,World.cell?_setCells_out b _ _ _ _ (fun h _=>absurd h hvb)]
    exact hvs j v d)
   (fun j d=>by rw [q,Nat.add_assoc];exact s _ (by omega)) (fun j d=>by rw [F,hW1,World.frozen?_setCells,Nat.add_assoc];exact hfz _ (by omega)) h1v
  rwa [a] at this
 rw [←hW1] at g
 have FG:=L.f22
 go_enter FG,Body2.n22_ntmps ρ
 go_wp2_with (simp only [G])
 go_region_law_o (refine step_copy_runI rfl _ _ (ρ.t 24) (ρ.t 24) rfl _ _ (by simp [Act.eval,Act.put]) (by simp [Act.eval,Act.put]) (g _ _ _) ?_)
 go_wp2_with (at_builtin;refine wpList_copy_runI _ rfl _ _ (ρ.t 24) (ρ.t 24) rfl _ _ rfl rfl (u _ (fun _=>rfl) (fun _=>rfl) _ _) ?_)
 go_ret
 first | exact ⟨rfl,rfl⟩ | exact ⟨rfl,by rw [hW1]⟩
theorem Zdz (L:InsLay P ρ nm sz bytes z) (hzc:z.cells.size=sz) (h0:0<sz) (b off n c i vb voff m vc:Nat) (cs vs:List Value) (w:World) (hi:i<n) (hm:0<m) (hnc:n≤c) (hroom:c<n+m) (hbig:(n+m)*bytes≤140737488355328) (hbig2:n+m≤4611686018427387904)
  (hcl:cs.length=n*sz) (hvl:vs.length=m*sz)
  (hcs:∀ j v,cs[j]? = some v→w.cell? ⟨b,off+j,none⟩=some v)
  (hvs:∀ j v,vs[j]? = some v→w.cell? ⟨vb,voff+j,none⟩=some v) (h1c:∀ v∈cs,v.oneCell'=true) (h1v:∀ v∈vs,v.oneCell'=true) :
  Calls P (ρ.f 22) #[.slice (some ⟨b,off,none⟩) n c,.int .i64 i,.slice (some ⟨vb,voff,none⟩) m vc] w fun e w' =>
   e = .returned (.slice (some ⟨w.heap.size,0,none⟩) (n+m) (grownCap w (n+m) c (ρ.t 9))) ∧
   w'=(((w.alloc (.cells ((cs.take (i*sz)).toArray++Builtin.zeroCells z.cells (n+m-i)++Builtin.zeroCells z.cells (grownCap w (n+m) c (ρ.t 9)-(n+m))) (ρ.t 9))).drew.setCells w.heap.size (i*sz) vs).drew).setCells w.heap.size (i*sz+m*sz) (cs.drop (i*sz)):=by
 have t0:=L.t0;have a0:=L.a0;have z0:=L.z0;have v0:=L.v0;have t3:=L.t3;have a3:=L.a3;have z3:=L.z3;have v3:=L.v3;have t4:=L.t4;have a4:=L.a4;have z4:=L.z4;have v4:=L.v4;have z9:=L.z9;have az:=L.t24;have bc:=L.a24;have a7:=L.z24;have a6:=L.v24
 have u0:=run_underlying L.t0;have u3:=run_underlying L.t3;have u4:=run_underlying L.t4;have a2:=run_underlying L.t24
 have ah:=L.mixed
 obtain ⟨N,D,aa,y,E⟩:=info_parts L.i9
 have aw:¬ ((m:Int)=0):=by omega
 have a5:¬ ((i:Int)=(n:Int)):=by omega
 have bd:(c:Int)<(n:Int)+(m:Int):=by omega
 have F:(P.info? (ρ.t 9)).map (·.size)=some sz:=by rw [D];simp [y]
 have u:(i+m)*sz=i*sz+m*sz:=Nat.add_mul ..
 have a9:i*sz≤n*sz:=Nat.mul_le_mul_right _ (by omega)
 have ao:0<m*sz:=Nat.mul_pos hm h0
 have C:(n-i)*sz=n*sz-i*sz:=Nat.sub_mul ..
 have aj:(n+m)*sz=n*sz+m*sz:=Nat.add_mul ..
 have ap:0<n*sz:=Nat.mul_pos (by omega) h0
 have ad:b<w.heap.size:=block_lt_of_cell (hcs 0 _ (List.getElem?_eq_getElem (by omega)))
 have ai:vb<w.heap.size:=block_lt_of_cell (hvs 0 _ (List.getElem?_eq_getElem (by omega)))
 have J:(n:Int)+(m:Int)-(i:Int)=((n+m-i:Nat):Int):=by omega
 have s:i+(n+m-i)=n+m:=by omega
 have o:(Builtin.firstCells N.size i (.slice (some ⟨b,off,none⟩) i c)).run P w.drew = .ok (cs.take (i*sz)).toArray w.drew:=by
  rw [y]
  exact run_firstCells_some w.drew sz i ⟨b,off,none⟩ i c (cs.take (i*sz)) (by rw [List.length_take];omega) (fun j v hj=>by
   rw [Addr.add_lit]
   rw [List.getElem?_take] at hj
   split at hj
   ·exact hcs j v hj
   ·cases hj)
 have p:n+m≤maxLen:=by unfold maxLen;omega
 have l:∀ d,(Builtin.append_ #[(ρ.t 24),(ρ.t 3)] d #[.slice (some ⟨b,off,none⟩) i c,.int .i64 ((n:Int)+(m:Int)-(i:Int))]).run P w =
   .ok (.slice (some ⟨w.heap.size,0,none⟩) (n+m) (grownCap w (n+m) c (ρ.t 9))) (w.drew.alloc (.cells ((cs.take (i*sz)).toArray++Builtin.zeroCells z.cells (n+m-i)++Builtin.zeroCells z.cells (grownCap w (n+m) c (ρ.t 9)-(n+m))) (ρ.t 9))):=fun d=>by
  have ab:(n+m-i)*N.bytes≤(n+m)*N.bytes:=Nat.mul_le_mul_right _ (by omega)
  have h:=Lib.run_append_grow_zeros w (ρ.t 24) (ρ.t 3) d (ρ.t 9) N _ .i64 .i64 L.t24 L.t3 D aa (some ⟨b,off,none⟩) i c (cs.take (i*sz)) o (n+m-i) (by omega) (by omega) (by omega) (by omega) (by rw [E] at ab ⊢; omega) (by rw [E,s];exact growslice_fits hroom hbig)
  rw [s] at h
  rw [J]
  exact h
 obtain ⟨G,hG⟩:∃ G,G=grownCap w (n+m) c (ρ.t 9):=⟨_,rfl⟩
 have a8:n+m≤G:=by rw [hG];exact grownCap_ge w _ _ _
 have aq:G≤9223372036854775807:=by
  have:=grownCap_le_maxLen w (n+m) c (ρ.t 9) p
  rw [←hG] at this
  unfold maxLen at this
  omega
 obtain ⟨ROW,hROW⟩:∃ ROW:Array Value,ROW=(cs.take (i*sz)).toArray++Builtin.zeroCells z.cells (n+m-i)++Builtin.zeroCells z.cells (G-(n+m)):=⟨_,rfl⟩
 rw [←hG] at l ⊢
 rw [←hROW] at l ⊢
 have ae:n*sz+m*sz≤ROW.size:=by
  have e1:(n+m-i)*sz=n*sz+m*sz-i*sz:=by rw [Nat.sub_mul,aj]
  rw [hROW]
  simp only [Array.size_append,List.size_toArray,List.length_take,size_zeroCells,hzc]
  omega
 obtain ⟨W1,hW1⟩:∃ W1,W1=w.drew.alloc (.cells ROW (ρ.t 9)):=⟨_,rfl⟩
 rw [←hW1] at l
 have Z:∀ j,j<n*sz+m*sz→(W1.cell? ⟨w.heap.size,j,none⟩).isSome=true:=fun j hj=>by
  rw [hW1,World.cell?_alloc_at (w:=w.drew) ROW _ w.heap.size j rfl,Array.getElem?_eq_getElem (by omega)];rfl
 have K:∀ j,W1.frozen? ⟨w.heap.size,j,none⟩=false:=fun j=>by rw [hW1];exact World.frozen?_alloc_at (w:=w.drew) ROW _ w.heap.size j rfl
 have U:∀ j v,w.cell? ⟨b,j,none⟩=some v→W1.cell? ⟨b,j,none⟩=some v:=fun j v h=>by rw [hW1,World.cell?_alloc_past (w:=w.drew) _ b j ad];exact h
 have Q:∀ j v,w.cell? ⟨vb,j,none⟩=some v→W1.cell? ⟨vb,j,none⟩=some v:=fun j v h=>by rw [hW1,World.cell?_alloc_past (w:=w.drew) _ vb j ai];exact h
 have H:∀ (W:World),(∀ x,W.cell? x=W1.cell? x)→(∀ x,W.frozen? x=W1.frozen? x)→∀ d r,(Builtin.copy_ #[(ρ.t 24),(ρ.t 24)] d #[.slice (some ⟨w.heap.size,i*sz,none⟩) (n+m-i) r,.slice (some ⟨vb,voff,none⟩) m vc]).run P W = .ok (goInt m) (W.setCells w.heap.size (i*sz) vs):=fun W k q d r=>by
  have a:Nat.min m (n+m-i)=m:=by simp only [Nat.min_def];split<;>omega
  have:=Lt (P:=P) W (ρ.t 24) (ρ.t 24) d (ρ.t 9) w.heap.size (i*sz) (n+m-i) r ⟨vb,voff,none⟩ m vc vs L.t24 F (by rw [hvl,a])
   (fun j v hj=>by rw [Addr.add_lit,k];exact Q _ v (hvs j v hj))
   (fun j hj=>by rw [k];exact Z _ (by omega)) (fun j hj=>by rw [q];exact K _) h1v
  rwa [a] at this
 have a1:¬ (G=i):=by omega
 have ar:¬ (G=i+m):=by omega
 have bb:¬ (c=i):=by omega
 have af:b≠w.heap.size:=by omega
 have ak:(cs.drop (i*sz)).length=n*sz-i*sz:=by rw [List.length_drop,hcl]
 have g:∀ (W:World),(∀ x,W.cell? x=(W1.setCells w.heap.size (i*sz) vs).cell? x)→(∀ x,W.frozen? x=(W1.setCells w.heap.size (i*sz) vs).frozen? x)→∀ d r O,(Builtin.copy_ #[(ρ.t 24),(ρ.t 24)] d #[.slice (some ⟨w.heap.size,i*sz+m*sz,none⟩) (n+m-(i+m)) r,.slice (some ⟨b,off+i*sz,none⟩) (n-i) O]).run P W = .ok (goInt ((n-i:Nat):Int)) (W.setCells w.heap.size (i*sz+m*sz) (cs.drop (i*sz))):=fun W k q d r O=>by
  have a:Nat.min (n-i) (n+m-(i+m))=n-i:=by simp only [Nat.min_def];split<;>omega
  have:=Lt (P:=P) W (ρ.t 24) (ρ.t 24) d (ρ.t 9) w.heap.size (i*sz+m*sz) (n+m-(i+m)) r ⟨b,off+i*sz,none⟩ (n-i) O (cs.drop (i*sz)) L.t24 F (by rw [ak,a,C])
   (fun j v hj=>by
    rw [Addr.add_lit,k,World.cell?_setCells_out _ _ _ _ _ (fun h _=>absurd h af),Nat.add_assoc]
    exact U _ v (hcs (i*sz+j) v (by rwa [List.getElem?_drop] at hj)))
   (fun j hj=>by rw [k];exact isSome_setCells _ _ _ _ (fun t ht=>Z _ (by omega)) _ (Z _ (by omega)))
   (fun j hj=>by rw [q,World.frozen?_setCells];exact K _) (fun v hv=>h1c v (List.mem_of_mem_drop hv))
  rwa [a] at this
 subst hW1
 have ag:∀ x,((w.alloc (.cells ROW (ρ.t 9))).drew).cell? x=(w.drew.alloc (.cells ROW (ρ.t 9))).cell? x:=fun x=>rfl
 have am:∀ x,((w.alloc (.cells ROW (ρ.t 9))).drew).frozen? x=(w.drew.alloc (.cells ROW (ρ.t 9))).frozen? x:=fun x=>rfl
 have V:∀ x,(((w.alloc (.cells ROW (ρ.t 9))).drew.setCells w.heap.size (i*sz) vs).drew).cell? x=((w.drew.alloc (.cells ROW (ρ.t 9))).setCells w.heap.size (i*sz) vs).cell? x:=fun x=>rfl
 have Y:∀ x,(((w.alloc (.cells ROW (ρ.t 9))).drew.setCells w.heap.size (i*sz) vs).drew).frozen? x=((w.drew.alloc (.cells ROW (ρ.t 9))).setCells w.heap.size (i*sz) vs).frozen? x:=fun x=>rfl
 have ax:IntKind.i64.wrap ((i:Int)+(m:Int))=(i:Int)+(m:Int):=by rw [IntKind.wrap_i64];omega
 have ba:(0:Int)≤(i:Int)+(m:Int):=by omega
 have av:i≤n:=by omega
 have au:((i:Int)+(m:Int)).toNat=i+m:=by omega
 have ay:(i:Int)≤(n:Int):=by omega
 clear J s o hROW hG ae
 have FG:=L.f22
 rw [←u] at g ⊢
 go_enter FG,Body2.n22_ntmps ρ
 go_wp2_with (first
  | (at_builtin;refine Lib.wpList_append_run _ rfl _ _ _ _ rfl _ _ rfl rfl _ _ (l _) ?_)
  | (at_builtin;refine wpList_copy_runI _ rfl _ _ (ρ.t 24) (ρ.t 24) rfl _ _ rfl rfl (H _ ag am _ _) ?_)
  | (at_builtin;refine wpList_copy_runI _ rfl _ _ (ρ.t 24) (ρ.t 24) rfl _ _ rfl rfl (g _ (fun _=>rfl) (fun _=>rfl) _ _ _) ?_))
 go_region_law_o (refine step_copy_runI rfl _ _ (ρ.t 24) (ρ.t 24) rfl (.slice (some ⟨w.heap.size,(i+m)*sz,none⟩) (n+m-(i+m)) (G-(i+m))) (.slice (some ⟨b,off+i*sz,none⟩) (n-i) (c-i)) (by simp [Act.eval,Act.put]) (by simp [Act.eval,Act.put]) (g _ V Y (ρ.t 3) (G-(i+m)) (c-i)) ?_)
 go_wp2
 go_ret
 exact ⟨rfl,by rw [u]⟩
theorem Ze7 (L:InsLay P ρ nm sz bytes z) (base:Option Addr) (n c:Nat) (va:Addr) (m vc:Nat) (w w1:World) (r:Value) (hm:0<m) (hnc:n≤c) (hbase:base=none→n=0)
  (hrun:∀ ty,(Builtin.append_ #[(ρ.t 24),(ρ.t 24)] ty #[.slice base n c,.slice (some va) m vc]).run P w = .ok r w1) :
  Calls P (ρ.f 22) #[.slice base n c,.int .i64 n,.slice (some va) m vc] w fun e w'=>e = .returned r∧w'=w1:=by
 have x:=L.t0;have a0:=L.a0;have F:=L.z0;have J:=L.v0;have E:=L.t3;have a3:=L.a3;have s:=L.z3;have u:=L.v3;have D:=L.t4;have a4:=L.a4;have v:=L.z4;have K:=L.v4;have q:=L.z9;have g:=L.t24;have k:=L.a24;have j:=L.z24;have i:=L.v24
 have p:=run_underlying L.t0;have y:=run_underlying L.t3;have H:=run_underlying L.t4;have h:=run_underlying L.t24
 have b:=L.mixed
 have d:¬ ((m:Int)=0):=by omega
 have l:=L.f22
 go_enter l,Body2.n22_ntmps ρ
 cases base with
 | none =>
  have h0:=hbase rfl
  subst h0
  go_wp2_with (at_builtin;refine Lib.wpList_append_run _ rfl _ _ _ _ rfl _ _ rfl rfl _ _ (hrun _) ?_)
  go_ret
  exact ⟨rfl,rfl⟩
 | some a =>
  obtain ⟨C,G,o⟩:=a
  go_wp2_with (at_builtin;refine Lib.wpList_append_run _ rfl _ _ _ _ rfl _ _ rfl rfl _ _ (hrun _) ?_)
  all_goals (go_ret;exact ⟨rfl,rfl⟩)
end
theorem J1 (P:Program) {w:World} {b:Nat} {cur:Array Value} {te:TypeId} (h:w.heap[b]? = some (.cells cur te (0,0))) (o:Nat) (vs:List Value) (hl:o+vs.length≤cur.size) (h1:∀ v∈vs,v.oneCell'=true) :
  w.setCells b o vs=w.setRow b (cur.toList.take o++vs++cur.toList.drop (o+vs.length)).toArray:=by
 have c:=run_storeCells_at P b o te vs 0 cur w h (by simpa using hl) h1
 have a:=run_storeCells_cells (P:=P) b o vs 0 w (fun j d=>by rw [cell_of_row w b _ cur te _ h,Array.getElem?_eq_getElem (by omega)];rfl) (fun j d=>by simp [World.frozen?,h]) h1
 simp only [Nat.add_zero] at c a
 rw [c] at a
 injection a with _ q
 exact q.symm
theorem Xw (w:World) (c c':Array Value) (te:TypeId):(w.alloc (.cells c te)).setRow w.heap.size c'=w.alloc (.cells c' te):=by
 unfold World.setRow World.alloc
 congr 1
 apply Array.ext
 ·simp
 ·intro i d b
  simp only [Array.getElem_modify]
  split
  ·subst i;simp
  ·rename_i hne
   have a:i<w.heap.size:=by
    have:i<w.heap.size+1:=by simpa using b
    omega
   rw [Array.getElem_push_lt a,Array.getElem_push_lt a]
theorem Zdu {α:Type} (A V:List α) (i n m:Nat) (hi:i≤n) (hA:n+m≤A.length) (hV:V.length=m) :
  (A.take (i+m)++(A.take n).drop i++A.drop (n+m)).take i++V++(A.take (i+m)++(A.take n).drop i++A.drop (n+m)).drop (i+m)=A.take i++V++(A.take n).drop i++A.drop (n+m):=by
 have e:(A.take (i+m)).length=i+m:=by rw [List.length_take];omega
 rw [List.append_assoc (A.take (i+m)),List.take_append_of_le_length (by omega),List.take_take,Nat.min_eq_left (by omega),List.drop_append_of_le_length (by omega),List.drop_of_length_le (by omega),List.nil_append]
 simp only [List.append_assoc]
section
variable {P:Program} {w0:World} {ρ:Ren} {nm:String} {sz bytes:Nat} {z:Value} {st:St} {M:Mem} {w:World}
theorem ZjG {A V rest:List Value} {cs Y:List AV} {i n m:Nat} (hi:i≤n) (hA:n≤A.length) (hc:cs.length=n) (hV:V.length=m) (hY:Y.length=m) (ha:∀ (j:Nat) (v:Value) (x:AV),A[j]? = some v→cs[j]? = some x→R w0 M w v x) (hv:∀ (j:Nat) (v:Value) (x:AV),V[j]? = some v→Y[j]? = some x→R w0 M w v x) :
  ∀ (j:Nat) (v:Value) (x:AV),(A.take i++V++(A.take n).drop i++rest)[j]? = some v→(cs.take i++Y++cs.drop i)[j]? = some x→R w0 M w v x:=by
 intro j v x b a
 have c:(A.take i).length=i:=by rw [List.length_take];omega
 have d:(cs.take i).length=i:=by rw [List.length_take];omega
 have f:((A.take n).drop i).length=n-i:=by rw [List.length_drop,List.length_take];omega
 simp only [List.append_assoc] at b a
 by_cases q:j<i
 ·rw [List.getElem?_append_left (by omega),List.getElem?_take,Ae q] at b a
  exact ha j v x b a
 rw [List.getElem?_append_right (by omega),c] at b
 rw [List.getElem?_append_right (by omega),d] at a
 by_cases q2:j-i<m
 ·rw [List.getElem?_append_left (by omega)] at b a
  exact hv _ v x b a
 rw [List.getElem?_append_right (by omega),hV] at b
 rw [List.getElem?_append_right (by omega),hY,List.getElem?_drop] at a
 have e:=(Ag.1 a).1
 rw [List.getElem?_append_left (by omega),List.getElem?_drop,List.getElem?_take,Ae (by omega)] at b
 exact ha _ v x b a
theorem ZY (L:InsLay P ρ nm sz bytes z) (hzc:z.cells.size=sz) (h0:0<sz) {id ver n i:Nat} {cs ys:List AV} {ow:Own} (hrow:st.rows[id]? = some (.vec ver sz cs)) (hcs:cs.length=n*sz) (hi:i<n) (hm:0<ys.length)
  (hx:∀ y∈ys,y.cells.length=sz∧A4 y=true) (hb:(n+ys.length)*bytes≤140737488355328) (hb2:n+ys.length≤4611686018427387904) {v0 vx:Value} (hst:RelSt w0 M st w) (hv0:R w0 M w v0 (.vec id ver 0 n)) (hvx:R w0 M w vx (.list ys ow)) :
  Calls P (ρ.f 22) #[v0,.int .i64 i,vx] w (Comes' w0 M w fun r s=>r = .vec id (ver+1) 0 (n+ys.length)∧s={ st with rows:=st.rows.set id (.vec (ver+1) sz (cs.take (i*sz)++ys.flatMap (fun y=>y.pub.cells)++cs.drop (i*sz))) }):=by
 have E:id<M.NR:=by rw [hst.NR];exact (Ag.1 hrow).1
 obtain ⟨f1,f2,f3,f4,f5,f6,f7,cur,te,f8,f9,bj,ag,aw⟩:=hst.row id _ hrow
 cases hv0 with
 | @vec _ _ _ _ p cap hid' hver hh =>
 obtain ⟨rfl,hcap,a4⟩:=hh f1.symm
 simp only [Nat.add_zero,Nat.zero_mul] at hcap ⊢
 subst hcap
 have af:∀ (b o c:Nat),vx = .slice (some ⟨b,o,none⟩) ys.length c→M.imm w0 b o:=by
  cases hvx with
  | nil _=>simp at hm
  | emp _=>simp at hm
  | @list b0 off0 cap0 _ _ sz2 us hc hm' h hu ho =>
   intro b o c e
   have e0:=(h 0 hm).1
   have e1:=(hu 0 hm).cells.1
   have e2:=(hx _ (List.getElem_mem hm)).1
   have:=((h 0 hm).2 0 (by omega)).1
   cases e
   simpa using this
 obtain ⟨ux,x1,x2⟩:=hvx.list_open (fun y Q=>(hx y Q).1)
 have aq:∀ i,i<ys.length→(ux i).cells.size=sz:=fun i hi=>(x1 i hi).1
 rcases x2 with ⟨_,q,_⟩ | ⟨bx,ox,cx',sz',rfl,hxc,hxm,_,hcx⟩
 ·subst q;simp at hm
 have au:M.imm w0 bx ox:=af bx ox cx' rfl
 have U:bx≠M.blk id:=by
  intro q
  rcases au with k | k
  ·rw [q] at k;omega
  ·rw [q,f4] at k;omega
 have av:=Gp (w:=w) aq h0 hcx
 have m:(flat ux ys.length).length=ys.length*sz:=AU aq
 have ay:(ys.flatMap fun y=>y.pub.cells).length=ys.length*sz:=LQ (fun y Q=>(hx y Q).1)
 have ai:=Xq (fun i hi=>(x1 i hi).2) (fun y Q=>(hx y Q).2)
 have O:∀ v∈flat ux ys.length,v.oneCell'=true:=TO x1 (fun y Q=>(hx y Q).2)
 have ah:i*sz≤n*sz:=Nat.mul_le_mul_right _ (by omega)
 have aj:n*sz≤cur.size:=by rw [f9];exact Nat.mul_le_mul_right _ a4
 have bb:0<ys.length*sz:=Nat.mul_pos hm h0
 have ba:0<n*sz:=Nat.mul_pos (by omega) h0
 have g:(cur.toList.take (n*sz)).length=n*sz:=by simp;omega
 have C:∀ v∈cur.toList.take (n*sz),v.oneCell'=true:=by
  intro v hv
  obtain ⟨k,hk,rfl⟩:=List.mem_iff_getElem.1 hv
  rw [g] at hk
  rw [List.getElem_take,Array.getElem_toList]
  exact (aw k (by omega) (by omega)).oneCell (ag _ (List.getElem_mem _))
 have h:∀ j v,(cur.toList.take (n*sz))[j]? = some v→w.cell? ⟨M.blk id,0+j,none⟩=some v:=by
  intro j u hj
  rw [List.getElem?_take] at hj
  split at hj
  ·rw [Nat.zero_add,cell_of_row w _ j cur te _ f8,←Array.getElem?_toList];exact hj
  ·cases hj
 have ak:∀ j v,(flat ux ys.length)[j]? = some v→w.cell? ⟨bx,ox+j,none⟩=some v:=fun j v hj=>by
  have:=av j v hj
  rwa [E2] at this
 have ab:∀ x∈cs.take (i*sz)++ys.flatMap (fun y=>y.pub.cells)++cs.drop (i*sz),x.one=true:=by
  intro x hx
  rcases List.mem_append.1 hx with hx | hx
  ·rcases List.mem_append.1 hx with hx | hx
   ·exact ag x (List.mem_of_mem_take hx)
   ·exact ai x hx
  ·exact ag x (List.mem_of_mem_drop hx)
 have G:(n+ys.length)*sz=n*sz+ys.length*sz:=Nat.add_mul ..
 have a0:(cs.take (i*sz)++ys.flatMap (fun y=>y.pub.cells)++cs.drop (i*sz)).length=(n+ys.length)*sz:=by
  rw [List.length_append,List.length_append,ay,List.length_take,List.length_drop,G];omega
 have D:∀ (cells:Array Value) (rest:List Value),cells.toList=cur.toList.take (i*sz)++flat ux ys.length++(cur.toList.take (n*sz)).drop (i*sz)++rest→∀ (k:Nat) (v:Value) (x:AV),cells[k]? = some v→(cs.take (i*sz)++ys.flatMap (fun y=>y.pub.cells)++cs.drop (i*sz))[k]? = some x→R w0 M w v x:=by
  intro cells rest ar k v x a2 a8
  rw [←Array.getElem?_toList,ar] at a2
  refine ZjG (A:=cur.toList) (rest:=rest) ah (by simpa using aj) hcs m ay (fun j v x h1 h2=>?_) (fun j v x h1 h2=>ZeL h0 x1 (fun y Q=>(hx y Q).1) h1 h2) k v x a2 a8
  rw [Array.getElem?_toList] at h1
  obtain ⟨q1,rfl⟩:=Array.getElem?_eq_some_iff.1 h1
  obtain ⟨q2,rfl⟩:=Ag.1 h2
  exact aw j q1 q2
 obtain ⟨d1,d2⟩:=hst.drew
 by_cases hroom:n+ys.length≤M.cap id
 ·-- there is room
  have az:n*sz+ys.length*sz≤cur.size:=by rw [f9,←G];exact Nat.mul_le_mul_right _ hroom
  have bd:∃ tA kA,w.shape? bx=some (tA,kA)∧kA≠0:=by
   have:=ak 0 _ (List.getElem?_eq_getElem (by omega))
   unfold World.cell? at this
   unfold World.shape?
   cases hq:w.heap[bx]? with
   | none=>simp [hq] at this
   | some o =>
    cases o with
    | cells c t f =>
     refine ⟨_,_,rfl,fun q=>?_⟩
     simp [hq] at this
     have:=(Array.getElem?_eq_some_iff.1 this).1
     omega
    | _=>simp [hq] at this
  obtain ⟨tA,kA,bf,a6⟩:=bd
  refine (Zbc L (M.blk id) 0 n (M.cap id) i bx ox ys.length cx' (cur.toList.take (n*sz)) (flat ux ys.length) w hi hm hroom (by unfold maxLen at f6;omega) U g m h
   (fun j hj=>by rw [Nat.zero_add,cell_of_row w _ j cur te _ f8,Array.getElem?_eq_getElem (by omega)];rfl) (fun j hj=>by simp [World.frozen?,f8]) ak C O tA te kA cur.size bf (by simp [World.shape?,f8]) a6 (by omega) (fun j=>by simp [World.frozen?,f8])).mono ?_
  rintro en w' ⟨rfl,rfl⟩
  have H:w.drew.heap[M.blk id]? = some (.cells cur te (0,0)):=f8
  have K:((cur.toList.take (n*sz)).drop (i*sz)).length=n*sz-i*sz:=by rw [List.length_drop,g]
  rw [J1 P H _ _ (by rw [K];omega) (fun v hv=>C v (List.mem_of_mem_drop hv))]
  have be:=setRow_heap w.drew (M.blk id) cur (cur.toList.take (0+(i*sz+ys.length*sz))++(cur.toList.take (n*sz)).drop (i*sz)++cur.toList.drop (0+(i*sz+ys.length*sz)+((cur.toList.take (n*sz)).drop (i*sz)).length)).toArray te _ H
  rw [J1 P be _ _ (by simp only [List.size_toArray,List.length_append,List.length_take,List.length_drop,Array.length_toList];omega) O,setRow_setRow]
  have hL:=Zdu cur.toList (flat ux ys.length) (i*sz) (n*sz) (ys.length*sz) ah (by simpa using az) m
  have e1:0+(i*sz+ys.length*sz)+((cur.toList.take (n*sz)).drop (i*sz)).length=n*sz+ys.length*sz:=by rw [K];omega
  have e2:0+i*sz+(flat ux ys.length).length=i*sz+ys.length*sz:=by rw [m];omega
  rw [e2,e1]
  simp only [Nat.zero_add]
  rw [hL]
  generalize hc':(cur.toList.take (i*sz)++flat ux ys.length++(cur.toList.take (n*sz)).drop (i*sz)++cur.toList.drop (n*sz+ys.length*sz)).toArray=cur'
  have aa:cur'.size=cur.size:=by rw [←hc'];simp only [List.size_toArray,List.length_append,List.length_take,List.length_drop,Array.length_toList,m];omega
  have d:Ext w0 M w.drew (M.growRow id (M.blk id) (M.cap id) (ver+1) 0) (w.drew.setRow (M.blk id) cur'):=by
   refine Ku (M:=M) (M.growRow id (M.blk id) (M.cap id) (ver+1) 0) rfl (fun _ _=>rfl) rfl (fun i hi=>?_) (fun b=>?_) H f3 (fun j hj=>by rw [f4] at hj;omega)
   ·by_cases c:i=id
    ·subst c
     simp only [Mem.growRow,if_true,f1]
     exact ⟨by omega,fun q=>absurd q (by omega)⟩
    ·simp only [Mem.growRow,Af c]
     exact ⟨Nat.le_refl _,fun _=>⟨trivial,trivial,trivial⟩⟩
   ·simp only [Mem.growRow]
    split
    ·rename_i c
     rw [c,f4]
     exact Nat.le_refl _
    ·exact Nat.le_refl _
  have ax:=hst.row_lt E
  have q:(M.growRow id (M.blk id) (M.cap id) (ver+1) 0).fr id=ver+1∧(M.growRow id (M.blk id) (M.cap id) (ver+1) 0).blk id=M.blk id∧(M.growRow id (M.blk id) (M.cap id) (ver+1) 0).cap id=M.cap id∧(M.growRow id (M.blk id) (M.cap id) (ver+1) 0).rsz id=M.rsz id∧(M.growRow id (M.blk id) (M.cap id) (ver+1) 0).top (M.blk id)=0:=by simp [Mem.growRow]
  obtain ⟨q1,q2,q3,q4,q5⟩:=q
  have F:=d1.growRow' hrow (x := .vec (ver+1) sz (cs.take (i*sz)++ys.flatMap (fun y=>y.pub.cells)++cs.drop (i*sz))) (w':=w.drew.setRow (M.blk id) cur') (b:=M.blk id) (cap:=M.cap id) (k:=ver+1) (tp:=0) (Below.setRow (Below.refl _ _) f3 _) (by simp) (by simpa using ax)
   (fun l hl=>⟨f5 l hl,setRow_other w.drew _ _ _ (f5 l hl)⟩) (fun i hi U=>by
    have:M.blk i≠M.blk id:=fun q=>U (hst.rowinj i id hi E q)
    exact ⟨this,setRow_other w.drew _ _ _ this⟩) (by
    simp only [RowOk,q1,q2,q3,q4,q5]
    exact ⟨trivial,f2,f3,trivial,f5,f6,h0,cur',te,setRow_heap w.drew _ cur cur' te _ H,aa.trans f9,by rw [a0,aa,f9];exact Nat.mul_le_mul_right _ hroom,ab,
     fun i a b=>((D cur' _ (by rw [←hc']) i _ _ (Array.getElem?_eq_getElem a) (List.getElem?_eq_getElem b)).mono d2).mono d⟩) d (KeepsObj.setRow H _)
  exact ⟨_,_,_,_,rfl,⟨rfl,rfl⟩,d2.trans d,F,.vec E (by rw [q1];exact Nat.le_refl _) fun _=>⟨by rw [q2];simp,by rw [q3];rfl,hroom⟩⟩
 ·-- a new block
  refine (Zdz L hzc h0 (M.blk id) 0 n (M.cap id) i bx ox ys.length cx' (cur.toList.take (n*sz)) (flat ux ys.length) w hi hm a4 (by omega) hb hb2 g m h ak C O).mono ?_
  rintro en w' ⟨rfl,rfl⟩
  have ae:n+ys.length≤maxLen:=by simp [maxLen];omega
  have ad:=grownCap_ge w (n+ys.length) (M.cap id) (ρ.t 9)
  have ao:=grownCap_le_maxLen w (n+ys.length) (M.cap id) (ρ.t 9) ae
  generalize grownCap w (n+ys.length) (M.cap id) (ρ.t 9)=gc at *
  generalize hROW:((cur.toList.take (n*sz)).take (i*sz)).toArray++Builtin.zeroCells z.cells (n+ys.length-i)++Builtin.zeroCells z.cells (gc-(n+ys.length))=ROW
  have a5:(n+ys.length-i)*sz=n*sz+ys.length*sz-i*sz:=by rw [Nat.sub_mul,G]
  have bi:(gc-(n+ys.length))*sz=gc*sz-(n*sz+ys.length*sz):=by rw [Nat.sub_mul,G]
  have bh:n*sz+ys.length*sz≤gc*sz:=by rw [←G];exact Nat.mul_le_mul_right _ ad
  have a3:ROW.size=gc*sz:=by
   rw [←hROW]
   simp only [Array.size_append,List.size_toArray,List.length_take,size_zeroCells,hzc,Array.length_toList]
   omega
  have K:((cur.toList.take (n*sz)).drop (i*sz)).length=n*sz-i*sz:=by rw [List.length_drop,g]
  have hX:(w.alloc (.cells ROW (ρ.t 9))).drew.heap[w.heap.size]? = some (.cells ROW (ρ.t 9) (0,0)):=heap_alloc_new w _
  rw [J1 P hX _ _ (by rw [m,a3];omega) O]
  have hX1:=setRow_heap (w.alloc (.cells ROW (ρ.t 9))).drew w.heap.size ROW (ROW.toList.take (i*sz)++flat ux ys.length++ROW.toList.drop (i*sz+(flat ux ys.length).length)).toArray (ρ.t 9) _ hX
  generalize hc1:(ROW.toList.take (i*sz)++flat ux ys.length++ROW.toList.drop (i*sz+(flat ux ys.length).length)).toArray=c1 at hX1 ⊢
  have a7:((w.alloc (.cells ROW (ρ.t 9))).drew.setRow w.heap.size c1).drew.heap[w.heap.size]? = some (.cells c1 (ρ.t 9) (0,0)):=hX1
  have Y:c1.size=gc*sz:=by
   rw [←hc1]
   simp only [List.size_toArray,List.length_append,List.length_take,List.length_drop,Array.length_toList,m,a3]
   omega
  rw [J1 P a7 _ _ (by rw [K,Y];omega) (fun v hv=>C v (List.mem_of_mem_drop hv))]
  generalize hc2:(c1.toList.take (i*sz+ys.length*sz)++(cur.toList.take (n*sz)).drop (i*sz)++c1.toList.drop (i*sz+ys.length*sz+((cur.toList.take (n*sz)).drop (i*sz)).length)).toArray=cells
  have hW:(((w.alloc (.cells ROW (ρ.t 9))).drew.setRow w.heap.size c1).drew).setRow w.heap.size cells=w.drew.drew.alloc (.cells cells (ρ.t 9)):=by
   have a1:((w.alloc (.cells ROW (ρ.t 9))).drew.setRow w.heap.size c1).drew=(w.drew.drew.alloc (.cells ROW (ρ.t 9))).setRow w.heap.size c1:=rfl
   rw [a1,setRow_setRow]
   exact Xw w.drew.drew ROW cells (ρ.t 9)
  rw [hW]
  have J:cells.size=gc*sz:=by
   rw [←hc2]
   simp only [List.size_toArray,List.length_append,List.length_take,List.length_drop,Array.length_toList,K,Y]
   omega
  have am:(cur.toList.take (n*sz)).take (i*sz)=cur.toList.take (i*sz):=by rw [List.take_take,Nat.min_eq_left ah]
  have bg:(cur.toList.take (i*sz)).length=i*sz:=by simp;omega
  have a9:ROW.toList.take (i*sz)=cur.toList.take (i*sz):=by
   rw [←hROW,am]
   simp only [Array.toList_append,List.append_assoc]
   rw [List.take_append_of_le_length (by omega),List.take_of_length_le (by omega)]
  have V:cells.toList=cur.toList.take (i*sz)++flat ux ys.length++(cur.toList.take (n*sz)).drop (i*sz)++c1.toList.drop (i*sz+ys.length*sz+((cur.toList.take (n*sz)).drop (i*sz)).length):=by
   have e:c1.toList.take (i*sz+ys.length*sz)=cur.toList.take (i*sz)++flat ux ys.length:=by
    rw [←hc1,a9]
    simp only [List.append_assoc]
    rw [←List.append_assoc,List.take_append_of_le_length (by rw [List.length_append,m];omega),List.take_of_length_le (by rw [List.length_append,m];omega)]
   rw [←hc2,←e]
  obtain ⟨bc,ap⟩:=d1.drew
  have d:Ext w0 M w.drew.drew (M.growRow id w.drew.drew.heap.size gc (ver+1) 0) (w.drew.drew.alloc (.cells cells (ρ.t 9))):=by
   refine OO _ _ (.inl rfl) (fun _ _=>rfl) (Nat.le_refl _) (fun i hi=>?_) (fun b hb=>?_)
   ·by_cases c:i=id
    ·subst c
     simp only [Mem.growRow,if_true,f1]
     exact ⟨by omega,fun q=>absurd q (by omega)⟩
    ·simp only [Mem.growRow,Af c]
     exact ⟨Nat.le_refl _,fun _=>⟨trivial,trivial,trivial⟩⟩
   ·simp only [Mem.growRow]
    rw [Af (by omega)]
    exact Nat.le_refl _
  have q:(M.growRow id w.drew.drew.heap.size gc (ver+1) 0).fr id=ver+1∧(M.growRow id w.drew.drew.heap.size gc (ver+1) 0).blk id=w.drew.drew.heap.size∧(M.growRow id w.drew.drew.heap.size gc (ver+1) 0).cap id=gc∧(M.growRow id w.drew.drew.heap.size gc (ver+1) 0).rsz id=M.rsz id∧(M.growRow id w.drew.drew.heap.size gc (ver+1) 0).top w.drew.drew.heap.size=0:=by simp [Mem.growRow]
  obtain ⟨q1,q2,q3,q4,q5⟩:=q
  have Z:∀ l,l<M.N→M.bx l≠w.drew.drew.heap.size:=fun l hl=>by have:=hst.box_lt hl;intro q;simp at q;omega
  have F:=bc.growRow' hrow (x := .vec (ver+1) sz (cs.take (i*sz)++ys.flatMap (fun y=>y.pub.cells)++cs.drop (i*sz))) (w':=w.drew.drew.alloc (.cells cells (ρ.t 9))) (b:=w.drew.drew.heap.size) (cap:=gc) (k:=ver+1) (tp:=0) ((Below.refl _ w.drew.drew).alloc hst.base_le _) (by simp) (by simp)
   (fun l hl=>by have:=hst.box_lt hl;exact ⟨Z l hl,BD _ _ this⟩) (fun i hi U=>by have:=hst.row_lt hi;exact ⟨fun q=>by simp at q;omega,BD _ _ this⟩) (by
    simp only [RowOk,q1,q2,q3,q4,q5]
    exact ⟨trivial,f2,hst.base_le,trivial,Z,ao,h0,cells,ρ.t 9,heap_alloc_new w.drew.drew _,J,by rw [a0,J];exact Nat.mul_le_mul_right _ ad,ab,
     fun i a b=>(((D cells _ V i _ _ (Array.getElem?_eq_getElem a) (List.getElem?_eq_getElem b)).mono d2).mono ap).mono d⟩) d (KeepsObj.alloc _ _)
  exact ⟨_,_,_,_,rfl,⟨rfl,rfl⟩,(d2.trans ap).trans d,F,.vec E (by rw [q1];exact Nat.le_refl _) fun _=>⟨by rw [q2];simp,by rw [q3];rfl,ad⟩⟩
theorem Yh {t el:TypeId} {ag:Bool} {o:VO} {n:Nat} {cs ys:List AV} {ow:Own} (he:JX P t=some (el,sz,ag,bytes)) (hz:(CW P el).isSome=true) (h0:0<sz) (hV:VAt 0 st.rows (o,sz,cs)) (hcs:cs.length=n*sz) (hm:0<ys.length)
  (hx:∀ y∈ys,y.cells.length=sz∧A4 y=true) (hb:(n+ys.length)*bytes≤140737488355328) (hb2:n+ys.length≤4611686018427387904) :
  (Bq P st t (Ll o n) (.list ys ow)).1∧(Bq P st t (Ll o n) (.list ys ow)).2.1=Ll (Pj o st.rows) (n+ys.length)∧(Bq P st t (Ll o n) (.list ys ow)).2.2={ st with rows:=QB o st.rows sz (cs++ys.flatMap fun y=>y.pub.cells) }:=by
 cases o with
 | nil =>
  rcases hV with ⟨_,q⟩ | ⟨id,ver,q,_⟩
  ·have q:cs=[]:=q
   subst q
   have en:n=0:=by
    rcases Nat.eq_zero_or_pos n with k | k
    ·exact k
    ·have:=Nat.mul_pos k h0
     simp at hcs;omega
   subst en
   rw [Nat.zero_add] at hb hb2
   simp only [Ll,Bq,he,AX,Cc,Cm,hz,Pj,QB,List.length_nil,List.nil_append,Nat.zero_add,true_and,and_true]
   exact ⟨⟨h0,hb,hb2,hx⟩,hm⟩
  ·cases q
 | row id ver =>
  rcases hV with ⟨q,_⟩ | ⟨id',ver',q,_,a⟩
  ·cases q
  ·cases q
   have hv:EQ st.rows id ver=some (sz,cs):=by
    have a:st.rows[id]? = some (.vec ver sz cs):=a
    simp only [EQ,a,if_true]
   have b:cs.take (n*sz)=cs:=List.take_of_length_le (by omega)
   simp only [Ll,Bq,he,hv,AX,Cc,Cm,hz,Pj,QB,b,Nat.le_of_eq hcs.symm,true_and,and_true]
   exact ⟨h0,hb,hb2,hx⟩
theorem Zw (L:InsLay P ρ nm sz bytes z) (hen:KA P (ρ.f 22)) {ag:Bool} (he:JX P (ρ.t 24)=some (ρ.t 9,sz,ag,bytes)) (hz:(CW P (ρ.t 9)).isSome=true) (hzc:z.cells.size=sz) (h0:0<sz) {o:VO} {n i:Nat} {cs ys:List AV} {ow:Own}
  (hV:VAt 0 st.rows (o,sz,cs)) (hcs:cs.length=n*sz) (hi:i≤n) (hm:0<ys.length)
  (hx:∀ y∈ys,y.cells.length=sz∧A4 y=true) (hb:(n+ys.length)*bytes≤140737488355328) (hb2:n+ys.length≤4611686018427387904) :
  ACalls P w0 (ρ.f 22) [Ll o n,.val (.int .i64 i),.list ys ow] st fun r s=>r=Ll (Pj o st.rows) (n+ys.length)∧s={ st with rows:=QB o st.rows sz (cs.take (i*sz)++ys.flatMap (fun y=>y.pub.cells)++cs.drop (i*sz)) }:=by
 refine ⟨hen,fun M w j m d=>?_⟩
 obtain ⟨v0,v1,vx,rfl⟩:∃ v0 v1 vx,j = #[v0,v1,vx]:=by
  have:=d.1
  simp only [List.length_cons,List.length_nil] at this
  obtain ⟨l⟩:=j
  match l,this with
  | [a,b,c],_=>exact ⟨a,b,c,rfl⟩
 have hv0:R w0 M w v0 (Ll o n):=d.2 0 (by simp) (by simp)
 have D:R w0 M w v1 (.val (.int .i64 i)):=d.2 1 (by simp) (by simp)
 have hvx:R w0 M w vx (.list ys ow):=d.2 2 (by simp) (by simp)
 obtain ⟨rfl,_⟩:=D.val_inv
 by_cases hin:i<n
 ·-- in the middle
  cases o with
  | nil =>
   rcases hV with ⟨_,q⟩ | ⟨id,ver,q,_⟩
   ·have q:cs=[]:=q
    rw [q] at hcs
    have:=Nat.mul_pos (show 0<n by omega) h0
    simp at hcs;omega
   ·cases q
  | row id ver =>
   rcases hV with ⟨q,_⟩ | ⟨id',ver',q,_,q3⟩
   ·cases q
   ·cases q
    exact ZY L hzc h0 q3 hcs hin hm hx hb hb2 m hv0 hvx
 ·have hin:i=n:=by omega
  subst hin
  -- at the end: as append
  obtain ⟨g1,g2,g3⟩:=Yh (st:=st) (ow:=ow) he hz h0 hV hcs hm hx hb hb2
  have O:Rel w0 2 M [(0,true,Ll o i),(1,true,.list ys ow)] st ⟨#[v0,vx],[]⟩ w:=⟨m,rfl,fun s x hs=>by
   simp only [DG] at hs
   split at hs
   ·subst s;cases hs;simpa [entryOk] using hv0
   ·split at hs
    ·subst s;cases hs;simpa [entryOk] using hvx
    ·cases hs⟩
  obtain ⟨v,N,M',g,V,K,J⟩:=V7 O (.tmp 0) (.tmp 1) (ρ.t 24) (ρ.t 24) (by simp [AM,DG]) (by simp [AM,DG]) g1
  have a0:(⟨#[v0,vx],[]⟩:Act).eval (.tmp 0)=v0:=rfl
  have a1:(⟨#[v0,vx],[]⟩:Act).eval (.tmp 1)=vx:=rfl
  rw [a0,a1] at g
  have E:(Bq P st (ρ.t 24) (Ar [(0,true,Ll o i),(1,true,AV.list ys ow)] (.tmp 0)) (Ar [(0,true,Ll o i),(1,true,AV.list ys ow)] (.tmp 1))).2.1=Ll (Pj o st.rows) (i+ys.length):=g2
  have F:(Bq P st (ρ.t 24) (Ar [(0,true,Ll o i),(1,true,AV.list ys ow)] (.tmp 0)) (Ar [(0,true,Ll o i),(1,true,AV.list ys ow)] (.tmp 1))).2.2={ st with rows:=QB o st.rows sz (cs++ys.flatMap fun y=>y.pub.cells) }:=g3
  rw [F] at K
  rw [E] at J
  have Q:cs.take (i*sz)=cs:=List.take_of_length_le (by omega)
  have hd:cs.drop (i*sz)=[]:=List.drop_of_length_le (by omega)
  rw [Q,hd,List.append_nil]
  have C:(Builtin.append_ #[ρ.t 24,ρ.t 24] (ρ.t 24) #[v0,vx]).run P w = .ok v N:=by
   cases hq:(Builtin.append_ #[ρ.t 24,ρ.t 24] (ρ.t 24) #[v0,vx]).run P w with
   | ok u w1 =>
    rcases g with g | ⟨g,_⟩
    ·simp [hq] at g
     rw [g.1,g.2]
    ·simp [hq] at g
   | _=>rcases g with g | ⟨g,_⟩<;>simp [hq] at g
  obtain ⟨ux,x1,x2⟩:=hvx.list_open (fun y hy=>(hx y hy).1)
  rcases x2 with ⟨_,q,_⟩ | ⟨bx,ox,cx',sz',rfl,_⟩
  ·subst q;simp at hm
  have h:∀ (base:Option Addr) (c:Nat),v0 = .slice base i c→i≤c→(base=none→i=0)→Calls P (ρ.f 22) #[v0,.int .i64 i,.slice (some ⟨bx,ox,none⟩) ys.length cx'] w (Comes' w0 M w fun r s=>r=Ll (Pj o st.rows) (i+ys.length)∧s={ st with rows:=QB o st.rows sz (cs++ys.flatMap fun y=>y.pub.cells) }):=fun base c e H U=>by
   subst e
   exact (Ze7 L base i c ⟨bx,ox,none⟩ ys.length cx' w N v hm H U (fun ty=>C)).mono fun en Y ⟨q1,q2⟩=>by
    subst q1;subst q2
    exact ⟨_,_,_,_,rfl,⟨rfl,rfl⟩,V,K,J⟩
  cases o with
  | nil =>
   have ez:i=0:=by
    rcases hV with ⟨_,q⟩ | ⟨id,ver,q,_⟩
    ·have q:cs=[]:=q
     rw [q] at hcs
     rcases Nat.eq_zero_or_pos i with k | k
     ·exact k
     ·have:=Nat.mul_pos k h0
      simp at hcs;omega
    ·cases q
   subst ez
   have hv0':R w0 M w v0 (.list [] .seed):=hv0
   cases hv0' with
   | nil _=>exact h none 0 rfl (Nat.le_refl _) (fun _=>rfl)
   | @emp a _ _=>exact h (some a) 0 rfl (Nat.le_refl _) (fun _=>rfl)
   | list sz us H=>exact h _ _ rfl (Nat.zero_le _) (fun _=>rfl)
  | row id ver =>
   rcases hV with ⟨q,_⟩ | ⟨id',ver',q,_,q3⟩
   ·cases q
   ·cases q
    have Z:=(m.row id _ q3).1
    have hv0':R w0 M w v0 (.vec id ver 0 i):=hv0
    cases hv0' with
    | @vec _ _ _ _ p cap hid' hver hh =>
     obtain ⟨rfl,_,G⟩:=hh Z.symm
     exact h _ _ rfl G (fun q=>nomatch q)
end
def IC:List Bool→List AV→List AV
 | b::m,a::l=>(if b=true then a.pubA else a)::IC m l
 | [],l=>l.map AV.pubA
 | _::_,[]=>[]
@[go_sem] theorem ZkR (m:List Bool) (a:AV) (l:List AV):IC (true::m) (a::l)=a.pubA::IC m l:=rfl
@[go_sem] theorem Zlc (m:List Bool) (a:AV) (l:List AV):IC (false::m) (a::l)=a::IC m l:=rfl
@[go_sem] theorem ZkJ (l:List AV):IC [] l=l.map AV.pubA:=rfl
@[go_sem] theorem Zkq (m:List Bool):IC m []=[]:=by cases m<;>rfl
theorem S4:∀ (m:List Bool) (l:List AV),(IC m l).length=l.length∧∀ (i:Nat) (h1:i<(IC m l).length) (h2:i<l.length),(IC m l)[i]=l[i]∨(IC m l)[i]=l[i].pubA
 | [],l=>⟨by simp [IC],fun i h1 h2 => .inr (by simp [IC])⟩
 | b::m,[]=>⟨rfl,fun i h1 h2=>absurd h2 (by simp)⟩
 | b::m,a::l=>by
  obtain ⟨h1,h2⟩:=S4 m l
  refine ⟨by simp [IC,h1],fun i c d=>?_⟩
  cases i with
  | zero=>cases b with
   | true=>exact .inr rfl
   | false=>exact .inl rfl
  | succ i=>exact h2 i (by simpa [IC] using c) (by simpa using d)
section
variable {P:Program} {w0:World} {st:St} {f:FuncId}
theorem ACalls.mask {m:List Bool} {args args':List AV} {Post:AV→St→Prop} (h:ACalls P w0 f args' st Post) (he:IC m args=args'):ACalls P w0 f args st Post:=by
 subst he
 obtain ⟨j,n⟩:=S4 m args
 refine ⟨h.1,fun M w d g c=>h.2 M w d g ?_⟩
 obtain ⟨l,k⟩:=c
 refine ⟨by rw [j];exact l,fun i a b=>?_⟩
 have e:i<args.length:=by rw [←j];exact b
 rcases n i b e with q | q
 ·rw [q];exact k i a e
 ·rw [q];exact (k i a e).pubA
theorem ZcW {c d:Bool} {cs args args':List AV} {k:AV→St→Prop} (m:List Bool) (v:AV)
  (h:ACalls P w0 f args' st fun r s=>r=v∧s=st) (he:IC m (args++cs)=args') (hk:k v st):MF P w0 c d (.clo f cs) args st k := .inl ⟨v,fun _=>h.mask he,hk⟩
theorem ZaO {cs args args':List AV} {k:AV→St→Prop} (m:List Bool) (Post:AV→St→Prop)
  (h:ACalls P w0 f args' st Post) (he:IC m (args++cs)=args') (hk:∀ v s,Post v s→k v s):MF P w0 true false (.clo f cs) args st k := .inr ⟨rfl,Post,fun _=>h.mask he,fun v s a _=>hk v s (a rfl)⟩
end
def Jw:List Bool→List AV→List AV
 | b::m,a::l=>(if b=true then a.pubCell else a)::Jw m l
 | [],l=>l.map AV.pubCell
 | _::_,[]=>[]
@[go_sem] theorem ZlJ (m:List Bool) (a:AV) (l:List AV):Jw (true::m) (a::l)=a.pubCell::Jw m l:=rfl
@[go_sem] theorem Zld (m:List Bool) (a:AV) (l:List AV):Jw (false::m) (a::l)=a::Jw m l:=rfl
@[go_sem] theorem Zks (l:List AV):Jw [] l=l.map AV.pubCell:=rfl
@[go_sem] theorem Zln (m:List Bool):Jw m []=[]:=by cases m<;>rfl
def pubS (m:List Bool):AV→AV
 | .agg cs => .agg (Jw m cs)
 | x=>x
@[go_sem] theorem Zj0 (m:List Bool) (cs:List AV):pubS m (.agg cs) = .agg (Jw m cs):=rfl
theorem TQ:∀ (m:List Bool) (l:List AV),(Jw m l).length=l.length∧∀ (i:Nat) (h1:i<(Jw m l).length) (h2:i<l.length),(Jw m l)[i]=l[i]∨(Jw m l)[i]=l[i].pubCell
 | [],l=>⟨by simp [Jw],fun i h1 h2 => .inr (by simp [Jw])⟩
 | b::m,[]=>⟨rfl,fun i h1 h2=>absurd h2 (by simp)⟩
 | b::m,a::l=>by
  obtain ⟨h1,h2⟩:=TQ m l
  refine ⟨by simp [Jw,h1],fun i c d=>?_⟩
  cases i with
  | zero=>cases b with
   | true=>exact .inr rfl
   | false=>exact .inl rfl
  | succ i=>exact h2 i (by simpa [Jw] using c) (by simpa using d)
theorem R.pubS {w0:World} {M:Mem} {w:World} (m:List Bool) {v:Value} {x:AV} (h:R w0 M w v x):R w0 M w v (pubS m x):=by
 cases h with
 | @agg us xs hl h1 h =>
  obtain ⟨e,f⟩:=TQ m xs
  refine .agg (by rw [e];exact hl) (fun x g=>?_) (fun i a b=>?_)
  ·obtain ⟨i,d,rfl⟩:=List.mem_iff_getElem.1 g
   have c:i<xs.length:=by rw [←e];exact d
   rcases f i d c with q | q
   ·rw [q];exact h1 _ (List.getElem_mem _)
   ·rw [q,AV.one_pubCell];exact h1 _ (List.getElem_mem _)
  ·have c:i<xs.length:=by rw [←e];exact b
   rcases f i b c with q | q
   ·rw [q];exact h i a c
   ·rw [q];exact (h i a c).pubCell
 | nil ho=>exact .nil ho
 | emp ho=>exact .emp ho
 | list sz us hc hm hcell hu ho=>exact .list sz us hc hm hcell hu ho
 | flat hf=>exact .flat hf
 | tup hl h=>exact .tup hl h
 | elem u k hcell hu=>exact .elem u k hcell hu
 | box hl=>exact .box hl
 | clo hl h=>exact .clo hl h
 | yld hk=>exact .yld hk
 | vec d hv h=>exact .vec d hv h
 | vel d hv h=>exact .vel d hv h
def Zba (P:Program) (e:Env) (st:St):ResultVar→AV
 | .tmp t=>Ar e (.tmp t)
 | .cell t ty=>(Ba P e true st (.load ty (.tmp t))).2.1
def ZgB (mk:List Bool) (P:Program) (rs:List ResultVar) (Post:AV→St→Prop):AQ:=fun x e st =>
 match x with
 | .normal | .ret=>(∀ r∈rs,UM P e st r)∧Post (pubS mk (YW (rs.map (Zba P e st)))) st
 | _=>False
attribute [go_sem] Zba ZgB
section
variable {P:Program} {w0:World} {n:Nat} {M:Mem} {e:Env} {st:St} {a:Act} {w:World}
theorem Zi (mk:List Bool) (h:Rel w0 n M e st a w) {fn:Func} {rs:List ResultVar} (hfn:fn.results=rs.toArray) (hrs:∀ r∈rs,UM P e st r) :
  ∃ v,(results fn a.tmps).run P w = .ok v w∧R w0 M w v (pubS mk (YW (rs.map (Zba P e st)))):=by
 let f:ResultVar→Sem Value:=fun
  | .tmp t=>pure (a.tmps.getD t undef)
  | .cell b t=>do loadVar t (← asAddr (a.tmps.getD b undef))
 have d:∀ r∈rs,∃ v,(f r).run P w = .ok v w∧R w0 M w v (Zba P e st r):=by
  intro r c
  have:=hrs r c
  cases r with
  | tmp t=>exact ⟨_,rfl,Bc h (x := .tmp t) this⟩
  | cell b t =>
   obtain ⟨v,m,k⟩:=S9 h t (.tmp b) this
   exact ⟨v,m,k⟩
 classical
 let g:ResultVar→Value:=fun r=>if c:r∈rs then Classical.choose (d r c) else undef
 have j:∀ r∈rs,(f r).run P w = .ok (g r) w∧R w0 M w (g r) (Zba P e st r):=by
  intro r c
  have:=Classical.choose_spec (d r c)
  have e:g r=Classical.choose (d r c):=by simp only [g,dif_pos c]
  rw [e];exact this
 have l:(fn.results.mapM f).run P w = .ok ((rs.map g).toArray) w:=by
  rw [hfn,Array.mapM_eq_mapM_toList]
  simp only [Sem.run_map,N6 f g rs (fun r c=>(j r c).1),Result.andThen_ok]
 have i:(results fn a.tmps).run P w = .ok (if h:(rs.map g).toArray.size=1 then (rs.map g).toArray[0] else .tuple (rs.map g).toArray) w:=by
  unfold results
  simp only [Sem.run_bind]
  refine Eq.trans (congrArg (fun x=>Result.andThen x _) l) ?_
  simp only [Result.andThen_ok,Sem.run_pure]
 refine ⟨_,i,?_⟩
 exact R.pubS mk (Un rs g fun r c=>(j r c).2)
theorem Zu (mk:List Bool) {f:FuncId} {fn:Func} {c:Code} {args:List AV} {rs:List ResultVar} {Post:AV→St→Prop} (hf:P.funcs[f]? = some fn) (hb:fn.body=some c) (hrs:fn.results=rs.toArray) (hn:fn.ntmps=n)
  (hen:KA P f) (ha:args.length≤n)
  (h:∀ (M0:Mem) (W0:World),M0.N=st.boxes.length→M0.NR=st.rows.length→M0.NL=st.loops.length→Calm st.boxes.length st.rows.length st.loops.length st→(∀ x∈args,Under st.boxes.length st.rows.length st.loops.length x) →
   GE P w0 n M0 W0 none c (ZgB mk P rs Post) (Au 0 args) st):ACalls P w0 f args st Post:=by
 refine ⟨hen,fun M w a b d=>?_⟩
 have U:a.size=args.length:=d.1
 have O:∀ x∈args,Under st.boxes.length st.rows.length st.loops.length x:=by
  intro x H
  obtain ⟨i,z,rfl⟩:=List.mem_iff_getElem.1 H
  have:=(d.get (i:=i) (Array.getElem?_eq_getElem (by omega)) (List.getElem?_eq_getElem z)).under
  rwa [b.N,b.NR,b.loop.NL] at this
 have k:Rel w0 n M (Au 0 args) st { tmps:=a++Array.replicate (fn.ntmps-a.size) undef,defers:=[] } w:=by
  refine ⟨b,by simp;omega,fun s x hs=>?_⟩
  obtain ⟨i,j,y,u,rfl⟩:=PL _ _ _ _ hs
  have z:i<args.length:=(Ag.1 u).1
  have hs':s=i:=by omega
  subst hs'
  simp only [entryOk,if_true]
  have J:(a++Array.replicate (fn.ntmps-a.size) undef).getD s undef=a[s]'(by omega):=by
   simp [Array.getD_eq_getD_getElem?,Array.getElem?_append_left (show s<a.size by omega),Array.getElem?_eq_getElem (show s<a.size by omega)]
  rw [J]
  exact d.get (Array.getElem?_eq_getElem (by omega)) u
 refine Sm (n:=0) (callsIn_of_wp_marks hf hb trivial (wpIn_mono (h M w b.N b.NR b.loop.NL b.calm O 0 M _ w ⟨k,.refl _ _ _,[],by simp⟩) ?_))
 rintro ex o D ⟨M',p,l,j,m⟩
 have e:∀ (q:∀ r∈rs,UM P p l r) (C:Post (pubS mk (YW (rs.map (Zba P p l)))) l),
   LeavesInM (FW none) 0 P fn o.tmps (Comes' w0 M w Post) o.defers .returning D:=by
  intro q C
  obtain ⟨Ds,Q,K,Y⟩:=j.marks
  rw [K]
  refine M8 Ds M' D Q Y b.base_le j.rel.st j.ext fun F t E k3=>?_
  have g:Rel w0 n M' p l o F:=⟨t,j.rel.size,fun s x hs=>by
   have:=j.rel.env s x hs
   unfold entryOk at *
   split
   ·rename_i c;rw [Ae c] at this;exact k3 _ _ this
   ·rename_i c;rw [Af c] at this;exact this⟩
  obtain ⟨v,G,V⟩:=Zi mk g hrs q
  exact ⟨v,G,v,M',_,l,rfl,C,E,t,V⟩
 cases ex with
 | normal=>exact e m.1 m.2
 | ret=>exact e m.1 m.2
 | _=>exact m.elim
end
end Go.Ev
namespace Go.Proofs.YtgpmlelfkjfbiaaGreatDoor
open Go Go.RowKit Go.Ev
@[go_sem] theorem Zle (n:Nat):Ll .nil n = .list [] .seed:=rfl
def LX {α:Type} (l:List α) (i:Int) (y:α):List α:=l.take i.toNat++y::l.drop i.toNat
theorem VK {α:Type} {g:α→List AV} {sz:Nat} (hg:∀ x,(g x).length=sz):∀ (xs:List α) (k:Nat),(xs.flatMap g).take (k*sz)=(xs.take k).flatMap g
 | [],k=>by simp
 | x::xs,0=>by simp
 | x::xs,k+1=>by
  have a:=hg x
  rw [List.flatMap_cons,List.take_succ_cons,List.flatMap_cons,←VK hg xs k,Nat.succ_mul,Nat.add_comm,List.take_append,List.take_of_length_le (by omega)]
  congr 2
  omega
theorem Wj {α:Type} {g:α→List AV} {sz:Nat} (hg:∀ x,(g x).length=sz):∀ (xs:List α) (k:Nat),(xs.flatMap g).drop (k*sz)=(xs.drop k).flatMap g
 | [],k=>by simp
 | x::xs,0=>by simp
 | x::xs,k+1=>by
  have a:=hg x
  rw [List.flatMap_cons,List.drop_succ_cons,←Wj hg xs k,Nat.succ_mul,Nat.add_comm,List.drop_append,List.drop_of_length_le (by omega),List.nil_append]
  congr 1
  omega
def insR:Go.Shelf.Ren:=⟨fun x=>if x=22 then 69 else if x=29 then 125 else if x=30 then 126 else x,
 fun x=>if x=9 then 75 else if x=24 then 44 else if x=3 then 3 else if x=4 then 4 else if x=0 then 0 else x,fun x=>x⟩
theorem ZlN:∃ z,InsLay Tryz.prog insR Tryz.f69.name 7 104 z∧z.cells.size=7:=by
 obtain ⟨j,z,g,b,c,d,a⟩:=TV (by kernel_rfl:Zal Tryz.prog 75 7 104=true)
 exact ⟨z,{
  mixed:=by kernel_rfl
  nmo:=by decide
  f22:=Tryz.func69.trans (congrArg some (by kernel_rfl))
  ov:=fun w x y h=>by
   show (callFunc 125 #[x,y]).run Tryz.prog w=_
   rw [run_callFunc_extern Tryz.func125 (by kernel_rfl) (by kernel_rfl) (by kernel_rfl) (e:=Extern.SlicesOverlaps.overlaps #[44,44] #[4]) (by kernel_rfl)]
   have f:(Extern.SlicesOverlaps.overlaps #[44,44] #[4] #[x,y]).run Tryz.prog w = .ok (.bool false) w:=h
   first | (rw [f];rfl) | simp [f]
  t0:=Tryz.underlying0
  a0:=Tryz.isAgg0
  z0:=Tryz.sizeOf0
  v0:=Tryz.zeroValue0
  t3:=Tryz.underlying3
  a3:=Tryz.isAgg3
  z3:=Tryz.sizeOf3
  v3:=Tryz.zeroValue3
  t4:=Tryz.underlying4
  a4:=Tryz.isAgg4
  z4:=Tryz.sizeOf4
  v4:=Tryz.zeroValue4
  z9:=Tryz.sizeOf75
  t24:=Tryz.underlying44
  a24:=Tryz.isAgg44
  z24:=Tryz.sizeOf44
  v24:=Tryz.zeroValue44
  i9:=by
   show (Tryz.prog.info? 75).map (fun i=>(i.zero,i.size,i.bytes))=_
   rw [g];simp [b,c,d] },a⟩
theorem Zd (w0:World) {Rw rows:List RowA} {l:List (Nat × Nat × Ev.Own)} {ho:Ev.Own} {o:VO} {v:List VE} {xs:List (ByteArray × Vl)} (hO:Owns Rw rows l ho ((o,7,xs.flatMap fun x=>(B9 x).cells)::v)) (i:Int)
  (hg:(0≤i∧i≤(xs.length:Int))∧(xs.length+1)*104≤140737488355328∧xs.length+1≤4611686018427387904) (y:ByteArray × Vl) :
  ∃ id' ver' rows',Owns Rw rows' l ho ((.row id' ver',7,(LX xs i y).flatMap fun x=>(B9 x).cells)::v)∧∀ (B:List (List AV)) (L:List LoopA) (ow:Ev.Own),ACalls Tryz.prog w0 69 [Ll o xs.length,.val (.int .i64 i),.list [B9 y] ow] ⟨B,rows,L⟩ fun r s=>r = .vec id' ver' 0 (LX xs i y).length∧s=⟨B,rows',L⟩:=by
 obtain ⟨⟨w,u⟩,g,e⟩:=hg
 obtain ⟨k,rfl⟩:∃ k:Nat,i=(k:Int):=⟨i.toNat,by omega⟩
 obtain ⟨z,m,n⟩:=ZlN
 have a:∀ x:ByteArray × Vl,((fun x=>(B9 x).cells) x).length=7:=fun x=>by simp +decide only [go_sem]
 have h:(xs.flatMap fun x=>(B9 x).cells).length=xs.length*7:=Jc (f:=B9) (fun _=>by simp +decide only [go_sem]) xs
 have c:(LX xs (k:Int) y).length=xs.length+1:=by
  unfold LX
  rw [List.length_append,List.length_cons,List.length_take,List.length_drop]
  simp only [Int.toNat_natCast]
  omega
 have b:(xs.flatMap fun x=>(B9 x).cells).take (k*7)++[B9 y].flatMap (fun y=>y.pub.cells)++(xs.flatMap fun x=>(B9 x).cells).drop (k*7)=(LX xs (k:Int) y).flatMap fun x=>(B9 x).cells:=by
  unfold LX
  rw [VK a,Wj a,List.flatMap_append,List.flatMap_cons,List.flatMap_cons,List.flatMap_nil,List.append_nil,Y0,Int.toNat_natCast,List.append_assoc]
 obtain ⟨id',ver',hrow⟩:∃ id' ver',Pj o rows = .row id' ver':=by
  cases o with
  | nil=>exact ⟨_,_,rfl⟩
  | row id ver=>exact ⟨_,_,rfl⟩
 refine ⟨id',ver',_,hrow▸hO.bump ((LX xs (k:Int) y).flatMap fun x=>(B9 x).cells),fun B L ow=>?_⟩
 have:=Zw (P:=Tryz.prog) (w0:=w0) (st:=⟨B,rows,L⟩) (ow:=ow) (ys:=[B9 y]) (ag:=true) (i:=k) m (A9 Tryz.func69 rfl (by decide)) Pl (by rw [show insR.t 9=75 from rfl,Kv];rfl) n (by decide) hO.vp h (by omega) (by simp)
  (fun q d=>by rw [List.mem_singleton.1 d];exact ⟨by simp +decide only [go_sem],by simp +decide only [go_sem]⟩) g e
 rw [b] at this
 exact this.mono fun r s ⟨p,j⟩=>⟨by rw [p,c,hrow];rfl,j⟩
theorem Y7 {B B':List (List AV)} {R0 rows:List RowA} {L:List LoopA} {Post:AV→St→Prop} {v:AV} {ow:List (Nat × Nat × Ev.Own)} {oh:Ev.Own} (ho:Owns R0 rows ow oh) (hc:Go.Ev.Calm B.length rows.length L.length ⟨B',R0,L⟩) (hB:B'.length=B.length) (hu:Go.Ev.Under B.length rows.length L.length v.pubA) (hp:Post v.pubA ⟨B',rows,L⟩) :
  Go.Ev.finG ⟨B,R0,L⟩ Post v ⟨B',rows,L⟩:=by
 have:=Q1 (X:=[]) ho hc hB hu hp
 rwa [List.append_nil] at this
def FI (g:ByteArray × Vl) (b:ByteArray):Int :=
 EM g.1 b
theorem Qy (w0:World) (B:List (List AV)) (Rw:List RowA) (L:List LoopA) (a0:ByteArray × Vl) (a1:ByteArray) (r:Int) (h:FI a0 a1=r) :
  ACalls Tryz.prog w0 140 [.agg (.val (.string a0.1)::(a0.2.cs)),.val (.string a1)] ⟨B,Rw,L⟩ fun x st=>x = .val (.int .i64 r)∧st=⟨B,Rw,L⟩:=by
 rw [FI] at h
 refine hd [.tmp 4] Tryz.func140 Tryz.ntmps140 fun M0 W0 g e d a f c hs=>?_
 simp only [Au]
 refine rg [1,2] hs ?_
 refine rc 2 [4] hs ?_;intro K2 b
 refine Ai _ (Nr w0 _ _ _ a0.1 a1) (hv hs) ?_
 refine ne hs b ?_
 clear b
 exact rT h hs a c
theorem PX (w0:World) (B:List (List AV)) (Rw:List RowA) (L:List LoopA) (a0:ByteArray × Vl) (a1:ByteArray) :
  ACalls Tryz.prog w0 140 [.agg (.val (.string a0.1)::(a0.2.cs)),.val (.string a1)] ⟨B,Rw,L⟩ fun x st=>x = .val (.int .i64 (FI a0 a1))∧st=⟨B,Rw,L⟩:=Qy w0 B Rw L a0 a1 _ rfl
def Nc (b:ByteArray):Option Bool :=
 if b.size≤maxLen then
  some (Lib.validD b.data.toList)
 else none
theorem YI (w0:World) (hT:Lib.Utf8Tabs 0 1 w0) (B:List (List AV)) (Rw:List RowA) (L:List LoopA) (a0:ByteArray) (r:Bool) (h:Nc a0=some r) :
  ACalls Tryz.prog w0 196 [.val (.string a0)] ⟨B,Rw,L⟩ fun x st=>x = .val (.bool r)∧st=⟨B,Rw,L⟩:=by
 rw [Nc] at h
 refine hd [.tmp 2] Tryz.func196 Tryz.ntmps196 fun M0 W0 i f e a g d hs=>?_
 simp only [Au]
 refine rg [0] hs ?_
 obtain ⟨c,h⟩:=Aj h
 refine rc 2 [2] hs ?_;intro K2 b
 refine Ai _ (Ub w0 _ _ _ hT a0 c) (hv hs) ?_
 refine ne hs b ?_
 clear b
 exact rt h hs a d
def BW (n:Nat)  (b1_k4:Vl):Option Bool :=
 some (((((decide (b1_k4.int=0))&&(decide (b1_k4.scale=0)))&&(DK b1_k4.text ((⟨#[]⟩:ByteArray))))&&(decide ((b1_k4.list.length:Int)=0)))&&(decide ((b1_k4.fields.length:Int)=0)))
def Il (n:Nat) (b:Vl):Option Bool :=
 BW n (Vl.mk b.kind b.int b.scale b.text b.list ([]))
def DX (n:Nat) (g:Vl):Nat→Int→Option Bool
 | 0,_=>none
 | m+1,b =>
  if decide (b<(g.fields.length:Int)) then
   if BV (b-1) then
    (Cb g.fields (b-1)).bind fun q =>
    (Cb g.fields b).bind fun h =>
    if !(Wq q.1 h.1) then
     some (false)
    else
     if BV (b+1) then
      (DX n g m) (b+1)
     else none
   else none
  else
   Il n g 
def Dp (n:Nat) (b:Vl) (g:Bool):Option Bool :=
 if g then
  BW n (Vl.mk b.kind 0 b.scale b.text b.list b.fields)
 else
  if decide (b.kind=3) then
   BW n (Vl.mk b.kind 0 0 b.text b.list b.fields)
  else
   if decide (b.kind=4) then
    (Nc b.text).bind fun h =>
    if !h then
     some (false)
    else
     BW n (Vl.mk b.kind b.int b.scale ((⟨#[]⟩:ByteArray)) b.list b.fields)
   else
    if decide (b.kind=5) then
     BW n (Vl.mk b.kind b.int b.scale ((⟨#[]⟩:ByteArray)) b.list b.fields)
    else
     if decide (b.kind=8) then
      BW n (Vl.mk b.kind b.int b.scale b.text ([]) b.fields)
     else
      if decide (b.kind=9) then
       DX n b n 1
      else
       if decide (b.kind=10) then
        if !(decide ((b.list.length:Int)=1)) then
         some (false)
        else
         BW n (Vl.mk b.kind b.int b.scale ((⟨#[]⟩:ByteArray)) ([]) b.fields)
       else
        BW n b
def G4 (n:Nat) (b:Vl):Option Bool :=
 if decide (b.kind=1) then
  if (!(decide (b.int=0)))&&(!(decide (b.int=1))) then
   some (false)
  else
   BW n (Vl.mk b.kind 0 b.scale b.text b.list b.fields)
 else
  if decide (b.kind=2) then
   Dp n b true
  else
   if decide (b.kind=6) then
    Dp n b true
   else
    Dp n b (decide (b.kind=7))
theorem O7 (w0:World) (hT:Lib.Utf8Tabs 0 1 w0) (n:Nat) (B:List (List AV)) (Rw:List RowA) (L:List LoopA) (a0:Vl) (r:Bool) (h:G4 n a0=some r) :
  ACalls Tryz.prog w0 137 [.agg (a0.cs)] ⟨B,Rw,L⟩ fun x st=>x = .val (.bool r)∧st=⟨B,Rw,L⟩:=by
 rw [G4] at h
 refine hd [.tmp 2] Tryz.func137 Tryz.ntmps137 fun M0 W0 J l o a hu b hs=>?_
 simp only [Au]
 refine rg [1] hs ?_
 refine rg [1,3] hs ?_
 refine Av (fun e st=>∃ (j:Vl) (i:List AV),Ck e st B Rw L [(3,true,.box (B.length+1) 0)] [a0.cs,i] [] (i.map AV.pubCell=j.cs∧BW n j=some r)) ?_ ?_
 ·intro K5 g
  refine rg [1,3,7] hs ?_
  apply Ak
  refine rg [1,3,7,8] hs ?_
  refine AL h hs (fun hs h=>?_) (fun hs h=>?_)
  ·apply Ah;intro K9 D
   refine rg [3,17] hs ?_
   refine AL h hs (fun hs h=>?_) (fun hs h=>?_)
   ·refine rg [2] hs ?_
    exact rt h hs a b
   refine sk [3] hs D ?_
   clear D
   have hs:=Aa (Vl.cs_eqs a0) hs
   refine rl [3] hs g ?_
   exact ⟨(Vl.mk a0.kind 0 a0.scale a0.text a0.list a0.fields),([.val (.int .i64 a0.kind),.val (.int .i64 0),.val (.int .i64 a0.scale),.val (.string a0.text),.list (a0.list.map Bo) .none,.list (a0.fields.map B9) .none]),([]),Rw,ef (cm hs),ef (cm hs),b,ef (cm hs),h⟩
  refine Av (fun e st=>∃ (d:Bool),Ck e st B Rw L [(1,true,.box B.length 0),(3,true,.box (B.length+1) 0),(7,true,.val (.int .i64 a0.kind)),(19,true,.val (.bool d))] [a0.cs,a0.cs] [] (Dp n a0 d=some r)) ?_ ?_
  ·intro K15 k
   refine rg [1,3,7,19] hs ?_
   refine AL h hs (fun hs h=>?_) (fun hs h=>?_)
   ·refine sk [1,3,7,19] hs k ?_
    exact ⟨true,([]),Rw,ef hs,ef hs,b,h⟩
   refine rg [1,3,7,19] hs ?_
   refine AL h hs (fun hs h=>?_) (fun hs h=>?_)
   ·refine sk [1,3,7,19] hs k ?_
    exact ⟨true,([]),Rw,ef hs,ef hs,b,h⟩
   refine rl [1,3,7,19] hs k ?_
   exact ⟨(decide (a0.kind=7)),([]),Rw,ef hs,ef hs,b,h⟩
  ·clear h;rintro e st ⟨d,Xk14,Rk14,rfl,rfl,b,h⟩
   rw [Dp] at h
   refine td J l o a b ?_
   refine AL h hs (fun hs h=>?_) (fun hs h=>?_)
   ·have hs:=Aa (Vl.cs_eqs a0) hs
    refine rl [3] hs g ?_
    exact ⟨(Vl.mk a0.kind 0 a0.scale a0.text a0.list a0.fields),([.val (.int .i64 a0.kind),.val (.int .i64 0),.val (.int .i64 a0.scale),.val (.string a0.text),.list (a0.list.map Bo) .none,.list (a0.fields.map B9) .none]),([]),Rk14,ef (cm hs),ef (cm hs),b,ef (cm hs),h⟩
   refine rg [1,3,7,24] hs ?_
   refine AL h hs (fun hs h=>?_) (fun hs h=>?_)
   ·have hs:=Aa (Vl.cs_eqs a0) hs
    refine rl [3] hs g ?_
    exact ⟨(Vl.mk a0.kind 0 0 a0.text a0.list a0.fields),([.val (.int .i64 a0.kind),.val (.int .i64 0),.val (.int .i64 0),.val (.string a0.text),.list (a0.list.map Bo) .none,.list (a0.fields.map B9) .none]),([]),Rk14,ef (cm hs),ef (cm hs),b,ef (cm hs),h⟩
   refine rg [1,3,7,28] hs ?_
   refine AL h hs (fun hs h=>?_) (fun hs h=>?_)
   ·apply Ah;intro K25 v
    obtain ⟨aa,E,h⟩:=bind_some h
    refine rc 2 [3,33] hs ?_;intro K26 p
    refine Ai _ (YI w0 hT _ _ _ a0.text _ E) (hv hs) ?_
    refine ne hs p ?_
    clear p
    refine AL h hs (fun hs h=>?_) (fun hs h=>?_)
    ·refine rg [2] hs ?_
     exact rt h hs a b
    refine sk [3] hs v ?_
    clear v
    have hs:=Aa (Vl.cs_eqs a0) hs
    refine rl [3] hs g ?_
    exact ⟨(Vl.mk a0.kind a0.int a0.scale ((⟨#[]⟩:ByteArray)) a0.list a0.fields),([.val (.int .i64 a0.kind),.val (.int .i64 a0.int),.val (.int .i64 a0.scale),.val (.string ((⟨#[]⟩:ByteArray))),.list (a0.list.map Bo) .none,.list (a0.fields.map B9) .none]),([]),Rk14,ef (cm hs),ef (cm hs),b,ef (cm hs),h⟩
   refine rg [1,3,7,35] hs ?_
   refine AL h hs (fun hs h=>?_) (fun hs h=>?_)
   ·have hs:=Aa (Vl.cs_eqs a0) hs
    refine rl [3] hs g ?_
    exact ⟨(Vl.mk a0.kind a0.int a0.scale ((⟨#[]⟩:ByteArray)) a0.list a0.fields),([.val (.int .i64 a0.kind),.val (.int .i64 a0.int),.val (.int .i64 a0.scale),.val (.string ((⟨#[]⟩:ByteArray))),.list (a0.list.map Bo) .none,.list (a0.fields.map B9) .none]),([]),Rk14,ef (cm hs),ef (cm hs),b,ef (cm hs),h⟩
   refine rg [1,3,7,38] hs ?_
   refine AL h hs (fun hs h=>?_) (fun hs h=>?_)
   ·have hs:=Aa (Vl.cs_eqs a0) hs
    refine rl [3] hs g ?_
    exact ⟨(Vl.mk a0.kind a0.int a0.scale a0.text ([]) a0.fields),([.val (.int .i64 a0.kind),.val (.int .i64 a0.int),.val (.int .i64 a0.scale),.val (.string a0.text),.list ([]) .full,.list (a0.fields.map B9) .none]),([]),Rk14,ef (cm hs),ef (cm hs),b,ef (cm hs),h⟩
   refine rg [1,3,7,41] hs ?_
   refine AL h hs (fun hs h=>?_) (fun hs h=>?_)
   ·refine Av (fun e st=>Ck e st B Rw L [(3,true,.box (B.length+1) 0)] [a0.cs,a0.cs] [] (Il n a0  = some r)) ?_ ?_
    ·intro K38 G
     refine rg [1,3,4] hs ?_
     apply Ak
     refine AC (fun m e st=>∃ (c:Int),Ck e st B Rw L [(1,true,.box B.length 0),(3,true,.box (B.length+1) 0),(4,true,.val (.int .i64 c))] [a0.cs,a0.cs] [] (DX n a0 m c=some r)) n ⟨1,([]),Rk14,ef hs,ef hs,b,h⟩ ?_
     rintro ml40 e st ⟨c,Xl40,Rl40,rfl,rfl,b,h⟩ Ul40 Vl40
     cases ml40 with
     | zero=>cases h
     | succ ml40 =>
     rw [DX] at h
     refine td J l o a b ?_
     apply Ah;intro K41 u
     refine rg [1,3,4,47] hs ?_
     refine AL h hs (fun hs h=>?_) (fun hs h=>?_)
     rotate_left
     ·refine sx [3] hs G ?_
      exact ⟨([]),Rl40,ef hs,ef hs,b,h⟩
     refine sk [1,3,4] hs u ?_
     clear u
     apply Ah;intro K44 t
     apply Ak
     obtain ⟨Y,h⟩:=Aj h
     obtain ⟨ab,F,h⟩:=bind_some h
     obtain ⟨K,O,C⟩:=AA F
     have y:=AB (f:=B9) C
     obtain ⟨Z,H,h⟩:=bind_some h
     obtain ⟨N,U,z⟩:=AA H
     have w:=AB (f:=B9) z
     have hs:=Aa y hs
     have hs:=Aa w hs
     refine dg 14 1 1 [1,3,4,63] hs Iw ?_
     refine AL h hs (fun hs h=>?_) (fun hs h=>?_)
     ·refine rg [2] hs ?_
      exact rt h hs a b
     refine sk [1,3,4] hs t ?_
     clear t
     obtain ⟨V,h⟩:=Aj h
     refine rl [1,3,4] hs (fun e s=>Vl40 ml40 e s (Nat.lt_succ_self _)) ?_
     exact ⟨(c+1),([]),Rl40,ef hs,ef hs,b,h⟩
    ·clear h;rintro e st ⟨Xk37,Rk37,rfl,rfl,b,h⟩
     rw [Il] at h
     refine td J l o a b ?_
     have hs:=Aa (Vl.cs_eqs a0) hs
     refine rl [3] hs g ?_
     exact ⟨(Vl.mk a0.kind a0.int a0.scale a0.text a0.list ([])),([.val (.int .i64 a0.kind),.val (.int .i64 a0.int),.val (.int .i64 a0.scale),.val (.string a0.text),.list (a0.list.map Bo) .none,.list ([]) .full]),([]),Rk37,ef (cm hs),ef (cm hs),b,ef (cm hs),h⟩
   refine rg [1,3,65] hs ?_
   refine AL h hs (fun hs h=>?_) (fun hs h=>?_)
   ·apply Ah;intro K54 q
    refine rg [3,70] hs ?_
    refine AL h hs (fun hs h=>?_) (fun hs h=>?_)
    ·refine rg [2] hs ?_
     exact rt h hs a b
    refine sk [3] hs q ?_
    clear q
    have hs:=Aa (Vl.cs_eqs a0) hs
    refine rl [3] hs g ?_
    exact ⟨(Vl.mk a0.kind a0.int a0.scale ((⟨#[]⟩:ByteArray)) ([]) a0.fields),([.val (.int .i64 a0.kind),.val (.int .i64 a0.int),.val (.int .i64 a0.scale),.val (.string ((⟨#[]⟩:ByteArray))),.list ([]) .full,.list (a0.fields.map B9) .none]),([]),Rk14,ef (cm hs),ef (cm hs),b,ef (cm hs),h⟩
   refine sk [3] hs g ?_
   exact ⟨a0,_,([]),Rk14,ef hs,ef hs,b,ef hs,h⟩
 ·clear h;rintro e st ⟨j,i,Xk4,Rk4,rfl,rfl,b,Q,h⟩
  rw [BW] at h
  refine LH (B.length+1) (by first | rfl | (simp only [JM,Iu,Kr,IF];rfl)) Q ?_;simp +decide only [go_sem,Nat.reduceAdd]
  show GE _ _ _ _ _ _ _ _ [(3,true,.box (B.length+1) 0)] ⟨B++([a0.cs,j.cs]++Xk4),Rk4,L⟩
  refine td J l o a b ?_
  refine rg [2] hs ?_
  exact rt h hs a b
def I6 (n:Nat) (g:Int→(List (ByteArray × Vl))→Option Vl) (b:Int) (b3_k37_5:List (ByteArray × Vl)) (b4_k37:ByteArray × Vl):Option Vl :=
 if (b3_k37_5.length+1)*104≤140737488355328∧b3_k37_5.length+1≤4611686018427387904 then
  if BV (b+1) then
   g (b+1) (b3_k37_5++([b4_k37]))
  else none
 else none
def CZ (n:Nat) (b:Vl) (b3_k4_4:List Vl) (b3_k4_5:List (ByteArray × Vl)):Option Vl :=
 some (Vl.mk b.kind b.int b.scale b.text b3_k4_4 b3_k4_5)
def E5 (n:Nat) (a0:Ty) (g:Vl) (y:Ty→Vl→Option Vl):Nat→Int→(List Vl)→Option Vl
 | 0,_,_=>none
 | m+1,b,b3_l10_4 =>
  if decide (b<(g.list.length:Int)) then
   (Cb g.list b).bind fun s =>
   (Cb a0.elem 0).bind fun h =>
   (y h s).bind fun q =>
   if (b3_l10_4.length+1)*88≤140737488355328∧b3_l10_4.length+1≤4611686018427387904 then
    if BV (b+1) then
     (E5 n a0 g y m) (b+1) (b3_l10_4++([q]))
    else none
   else none
  else
   CZ n g b3_l10_4 g.fields
def Gn (n:Nat) (a0:Ty) (h:Vl) (y:Ty→Vl→Option Vl):Nat→Int→(List (ByteArray × Vl))→Option Vl
 | 0,_,_=>none
 | m+1,b,b3_l29_5 =>
  if decide (b<(h.fields.length:Int)) then
   (Cb h.fields b).bind fun g =>
   (C3 n a0 g.1).bind fun q =>
   if q.2 then
    (y q.1.2.2.2.1 g.2).bind fun s =>
    I6 n (Gn n a0 h y m) b b3_l29_5 ((g.1,s))
   else
    I6 n (Gn n a0 h y m) b b3_l29_5 g
  else
   CZ n h h.list b3_l29_5
def KU (n:Nat) (g:Ty) (b:Vl) (y:Ty→Vl→Option Vl):Option Vl :=
 if (decide (g.kind=8))&&(decide ((g.elem.length:Int)=1)) then
  E5 n g b y n 0 ([])
 else
  if decide (g.kind=9) then
   Gn n g b y n 0 ([])
  else
   if decide (g.kind=10) then
    (C3 n g b.text).bind fun h =>
    if h.2 then
     (Cb b.list 0).bind fun s =>
     (y h.1.2.2.2.1 s).bind fun q =>
     CZ n b ([q]) b.fields
    else
     CZ n b b.list b.fields
   else
    CZ n b b.list b.fields
theorem Xt (w0:World) (n:Nat) (B:List (List AV)) (Rw:List RowA) (L:List LoopA) (a0:Ty) (a1:Vl) (fa2:FuncId) (ca2:List AV) (a2:Ty→Vl→Option Vl) (ha2:∀ (x0:Ty) (x1:Vl) r,a2 x0 x1=some r→∀ B' rows,B <+: B'→Rw <+: rows→ACalls Tryz.prog w0 fa2 ([.agg (x0.cs),.agg (x1.cs)]++ca2) ⟨B',rows,L⟩ fun v s=>v = .agg (r.cs)∧s=⟨B',rows,L⟩) (r:Vl) (h:KU n a0 a1 a2=some r) :
  ACalls Tryz.prog w0 138 [.agg (a0.cs),.agg (a1.cs),.clo fa2 ca2] ⟨B,Rw,L⟩ fun x st=>x = .agg (r.cs)∧st=⟨B,Rw,L⟩:=by
 rw [KU] at h
 refine hd [.cell 6 46] Tryz.func138 Tryz.ntmps138 fun M0 W0 hN V Y D hu l hs=>?_
 simp only [Au]
 have o:=Ci (hu (.clo fa2 ca2) (by simp))
 refine rg [2,3,4,6] hs ?_
 refine rg [2,3,4,6,7] hs ?_
 refine Av (fun e st=>∃ (t:List Vl) (q:List (ByteArray × Vl)) (w:AV) (u:AV),Ck e st B Rw L [(6,true,.box (B.length+2) 0),(7,true,.box (B.length+3) 0)] [a0.cs,a1.cs,[.val (.int .i64 0),.val (.int .i64 0),.val (.int .i64 0),.val (.string ((⟨#[]⟩:ByteArray))),.list ([]) .full,.list ([]) .full],[.val (.int .i64 a1.kind),.val (.int .i64 a1.int),.val (.int .i64 a1.scale),.val (.string a1.text),w,u]] [] (w.pub = .list (t.map Bo) .none∧u.pub = .list (q.map B9) .none∧CZ n a1 t q=some r)) ?_ ?_
 ·intro K5 N
  apply Ak
  refine rg [2,3,4,6,7,17] hs ?_
  refine AL h hs (fun hs h=>?_) (fun hs h=>?_)
  ·have hs:=Aa (Vl.cs_eqs a1) hs
   refine rg [2,3,4,6,7] hs ?_
   refine rg [2,3,6,7,29,30,31] hs ?_
   apply Ak
   refine AC (fun m e st=>∃ (p:Int) (b:List Vl) (i:Ev.Own),Ck e st B Rw L [(2,true,.clo fa2 ca2),(3,true,.box B.length 0),(6,true,.box (B.length+2) 0),(7,true,.box (B.length+3) 0),(29,true,.list (a1.list.map Bo) .none),(30,true,.val (.int .i64 (a1.list.length:Int))),(31,true,.val (.int .i64 p))] [a0.cs,a1.cs,[.val (.int .i64 0),.val (.int .i64 0),.val (.int .i64 0),.val (.string ((⟨#[]⟩:ByteArray))),.list ([]) .full,.list ([]) .full],[.val (.int .i64 a1.kind),.val (.int .i64 a1.int),.val (.int .i64 a1.scale),.val (.string a1.text),.list (b.map Bo) i,.list (a1.fields.map B9) .none]] [(6,b.length,i)] (E5 n a0 a1 a2 m p b=some r)) n ⟨0,([]),.full,([]),Rw,ef hs,ef hs,Owns.of_eq ((l).full 6 0) FN,h⟩ ?_
   rintro ml10 e st ⟨p,b,i,Xl10,Rl10,rfl,rfl,l,h⟩ Ul10 Vl10
   cases ml10 with
   | zero=>cases h
   | succ ml10 =>
   rw [E5] at h
   have hU:=l.unders
   simp only [List.mem_cons,List.not_mem_nil,or_false,forall_eq_or_imp,forall_eq] at hU
   refine AP hN V Y rfl D l (I5 o l) (I5 o l) ?_
   refine rg [2,3,6,7,29,30,31,32] hs ?_
   apply Ah;intro K12 ah
   refine AL h hs (fun hs h=>?_) (fun hs h=>?_)
   rotate_left
   ·refine sx [6,7] hs N ?_
    exact ⟨b,a1.fields,(.list (b.map Bo) i),(.list (a1.fields.map B9) .none),([]),Rl10,ef hs,ef hs,(l).sub (List.sublist_append_left [] [(6,b.length,i)]),ef hs,ef hs,h⟩
   refine sk [2,3,6,7,29,30,31] hs ah ?_
   clear ah
   apply Ah;intro K14 Z
   apply Ak
   obtain ⟨a6,ay,h⟩:=bind_some h
   obtain ⟨bg,a8,ap⟩:=AA ay
   have ak:=AB (f:=Bo) ap
   have hs:=Aa ak hs
   refine rg [2,3,6,7,9,29,30,31] hs ?_
   obtain ⟨a7,bi,bk,O,h⟩:=ix Ia h
   have aj:(a0.elem.map Ia).getD 0 .junk=_:=O
   obtain ⟨bh,az,h⟩:=bind_some h
   have ao:=l.pre
   obtain ⟨ad,h⟩:=Aj h
   obtain ⟨bj,U,l,C⟩:=l.append (P:=Tryz.prog) U1 (by rw [Ou];rfl) (by decide) 1 ad.1 ad.2
   replace C:=fun (ys:List AV) B L o2=>C (b.map Bo) ys B L o2 FN
   replace C:=fun (y:AV) B L o2=>C [y] B L o2 FN ev
   try simp only [List.mem_singleton,List.mem_cons,List.not_mem_nil,or_false,forall_eq_or_imp,forall_eq,List.map_append,List.map_cons,List.map_nil,Hn,Hk,Ht,Hq,Hm,GG,Fh,Fj,Hj,DZ,DY,Fe,Fp,Fg] at C
   have hs:=Aa O hs
   have hs:=Aa aj hs
   have hs:=Aa C hs
   refine dk 10 2 1 [2,3,6,7,29,30,31] hs Iw ?_
   refine F6 _ (ha2 a7 a6 _ az _ _ px ao) (hv hs) ?_
   refine dn hs Z ?_
   clear Z
   obtain ⟨bm,h⟩:=Aj h
   refine rl [2,3,6,7,29,30,31] hs (fun e s=>Vl10 ml10 e s (Nat.lt_succ_self _)) ?_
   exact ⟨(p+1),(b++([bh])),bj,([a6.cs]),U,ef hs,ef hs,Owns.of_eq (l) FN,h⟩
  refine rg [2,3,4,6,7,48] hs ?_
  refine AL h hs (fun hs h=>?_) (fun hs h=>?_)
  ·have hs:=Aa (Vl.cs_eqs a1) hs
   refine rg [2,3,4,6,7] hs ?_
   refine rg [2,3,6,7,54,55,56] hs ?_
   apply Ak
   refine AC (fun m e st=>∃ (j:Int) (a:List (ByteArray × Vl)) (c:Ev.Own),Ck e st B Rw L [(2,true,.clo fa2 ca2),(3,true,.box B.length 0),(6,true,.box (B.length+2) 0),(7,true,.box (B.length+3) 0),(54,true,.list (a1.fields.map B9) .none),(55,true,.val (.int .i64 (a1.fields.length:Int))),(56,true,.val (.int .i64 j))] [a0.cs,a1.cs,[.val (.int .i64 0),.val (.int .i64 0),.val (.int .i64 0),.val (.string ((⟨#[]⟩:ByteArray))),.list ([]) .full,.list ([]) .full],[.val (.int .i64 a1.kind),.val (.int .i64 a1.int),.val (.int .i64 a1.scale),.val (.string a1.text),.list (a1.list.map Bo) .none,.list (a.map B9) c]] [(7,a.length,c)] (Gn n a0 a1 a2 m j a=some r)) n ⟨0,([]),.full,([]),Rw,ef hs,ef hs,Owns.of_eq ((l).full 7 0) FN,h⟩ ?_
   rintro ml29 e st ⟨j,a,c,Xl29,Rl29,rfl,rfl,l,h⟩ Ul29 Vl29
   cases ml29 with
   | zero=>cases h
   | succ ml29 =>
   rw [Gn] at h
   have hU:=l.unders
   simp only [List.mem_cons,List.not_mem_nil,or_false,forall_eq_or_imp,forall_eq] at hU
   refine AP hN V Y rfl D l (I5 o l) (I5 o l) ?_
   refine rg [2,3,6,7,54,55,56,57] hs ?_
   apply Ah;intro K31 aa
   refine AL h hs (fun hs h=>?_) (fun hs h=>?_)
   rotate_left
   ·refine sx [6,7] hs N ?_
    exact ⟨a1.list,a,(.list (a1.list.map Bo) .none),(.list (a.map B9) c),([]),Rl29,ef hs,ef hs,(l).sub (List.sublist_append_left [] [(7,a.length,c)]),ef hs,ef hs,h⟩
   refine sk [2,3,6,7,54,55,56] hs aa ?_
   clear aa
   apply Ah;intro K33 ae
   apply Ak
   obtain ⟨H,a3,h⟩:=bind_some h
   obtain ⟨bf,ba,am⟩:=AA a3
   have au:=AB (f:=B9) am
   have hs:=Aa au hs
   refine rg [2,3,6,7,11,54,55,56] hs ?_
   refine Av (fun e st=>∃ (d:List (ByteArray × Vl)) (g:ByteArray × Vl) (k:Ev.Own) (F:List AV),Ck e st B Rw L [(2,true,.clo fa2 ca2),(3,true,.box B.length 0),(6,true,.box (B.length+2) 0),(7,true,.box (B.length+3) 0),(11,true,.box (B.length+4) 0),(54,true,.list (a1.fields.map B9) .none),(55,true,.val (.int .i64 (a1.fields.length:Int))),(56,true,.val (.int .i64 j))] [a0.cs,a1.cs,[.val (.int .i64 0),.val (.int .i64 0),.val (.int .i64 0),.val (.string ((⟨#[]⟩:ByteArray))),.list ([]) .full,.list ([]) .full],[.val (.int .i64 a1.kind),.val (.int .i64 a1.int),.val (.int .i64 a1.scale),.val (.string a1.text),.list (a1.list.map Bo) .none,.list (d.map B9) k],F] [(7,d.length,k)] (F.map AV.pubCell = .val (.string g.1)::(g.2.cs)∧I6 n (Gn n a0 a1 a2 ml29) j d g=some r)) ?_ ?_
   ·intro K38 ag
    obtain ⟨G,a5,h⟩:=bind_some h
    refine rc 2 [2,3,6,7,11,12,13,54,55,56] hs ?_;intro K39 ai
    refine Ai _ (Fz w0 n _ _ _ a0 H.1 _ a5) (hv hs) ?_
    refine ne hs ai ?_
    clear ai
    refine rg [2,3,6,7,11,12,54,55,56,67] hs ?_
    refine AL h hs (fun hs h=>?_) (fun hs h=>?_)
    ·obtain ⟨J,ax,h⟩:=bind_some h
     have hs:=Aa (Vl.cs_eqs H.2) hs
     have hs:=Aa (Vl.cs_eqs J) hs
     refine rk 2 [2,3,6,7,11,54,55,56] hs ?_
     refine F6 _ (ha2 G.1.2.2.2.1 H.2 _ ax _ _ px l.pre) (hv hs) ?_
     refine ne hs ag ?_
     exact ⟨a,((H.1,J)),c,([.val (.string H.1),.val (.int .i64 J.kind),.val (.int .i64 J.int),.val (.int .i64 J.scale),.val (.string J.text),.list (J.list.map Bo) .none,.list (J.fields.map B9) .none]),([.val (.int .i64 G.1.1)::(.val (.string G.1.2.1)::(.val (.int .i64 G.1.2.2.1)::((G.1.2.2.2.1.cs)++([.list (G.1.2.2.2.2.map Bo) .none]))))]),Rl29,ef (cm hs),ef (cm hs),Owns.of_eq (l) FN,ef (cm hs),h⟩
    refine sk [2,3,6,7,11,54,55,56] hs ag ?_
    exact ⟨a,H,c,(.val (.string H.1)::(H.2.cs)),([.val (.int .i64 G.1.1)::(.val (.string G.1.2.1)::(.val (.int .i64 G.1.2.2.1)::((G.1.2.2.2.1.cs)++([.list (G.1.2.2.2.2.map Bo) .none]))))]),Rl29,ef (cm hs),ef (cm hs),Owns.of_eq (l) FN,ef (cm hs),h⟩
   ·clear h;rintro e st ⟨d,g,k,F,Xk37,Rk37,rfl,rfl,l,ar,h⟩
    rw [I6] at h
    refine LH (B.length+4) (by first | rfl | (simp only [JM,Iu,Kr,IF];rfl)) ar ?_;simp +decide only [go_sem,Nat.reduceAdd]
    show GE _ _ _ _ _ _ _ _ [(2,true,.clo fa2 ca2),(3,true,.box B.length 0),(6,true,.box (B.length+2) 0),(7,true,.box (B.length+3) 0),(11,true,.box (B.length+4) 0),(54,true,.list (a1.fields.map B9) .none),(55,true,.val (.int .i64 (a1.fields.length:Int))),(56,true,.val (.int .i64 j))] ⟨B++([a0.cs,a1.cs,[.val (.int .i64 0),.val (.int .i64 0),.val (.int .i64 0),.val (.string ((⟨#[]⟩:ByteArray))),.list ([]) .full,.list ([]) .full],[.val (.int .i64 a1.kind),.val (.int .i64 a1.int),.val (.int .i64 a1.scale),.val (.string a1.text),.list (a1.list.map Bo) .none,.list (d.map B9) k],.val (.string g.1)::(g.2.cs)]++Xk37),Rk37,L⟩
    have hU:=l.unders
    simp only [List.mem_cons,List.not_mem_nil,or_false,forall_eq_or_imp,forall_eq] at hU
    refine AP hN V Y rfl D l (I5 o l) (I5 o l) ?_
    obtain ⟨ab,h⟩:=Aj h
    obtain ⟨bc,Q,l,z⟩:=l.append (P:=Tryz.prog) Pl (by rw [Kv];rfl) (by decide) 1 ab.1 ab.2
    replace z:=fun (ys:List AV) B L o2=>z (d.map B9) ys B L o2 FN
    replace z:=fun (y:AV) B L o2=>z [y] B L o2 FN ev
    try simp only [List.mem_singleton,List.mem_cons,List.not_mem_nil,or_false,forall_eq_or_imp,forall_eq,List.map_append,List.map_cons,List.map_nil,Hn,Hk,Ht,Hq,Hm,GG,Fh,Fj,Hj,DZ,DY,Fe,Fp,Fg] at z
    have hs:=Aa z hs
    refine rl [2,3,6,7,54,55,56] hs ae ?_
    clear ae
    obtain ⟨bl,h⟩:=Aj h
    refine rl [2,3,6,7,54,55,56] hs (fun e s=>Vl29 ml29 e s (Nat.lt_succ_self _)) ?_
    exact ⟨(j+1),(d++([g])),bc,([.val (.string g.1)::(g.2.cs)]),Q,ef hs,ef hs,Owns.of_eq (l) FN,h⟩
  refine rg [2,3,4,6,7,82] hs ?_
  refine AL h hs (fun hs h=>?_) (fun hs h=>?_)
  ·obtain ⟨E,aw,h⟩:=bind_some h
   refine rc 2 [2,4,6,7,14,15] hs ?_;intro K51 af
   refine Ai _ (Fz w0 n _ _ _ a0 a1.text _ aw) (hv hs) ?_
   refine ne hs af ?_
   clear af
   refine rg [2,4,6,7,14,93] hs ?_
   refine AL h hs (fun hs h=>?_) (fun hs h=>?_)
   ·obtain ⟨a9,bb,bd,K,h⟩:=ix Bo h
    have aq:(a1.list.map Bo).getD 0 .junk=_:=K
    obtain ⟨av,a4,h⟩:=bind_some h
    have hs:=Aa K hs
    have hs:=Aa aq hs
    have hs:=Aa (Vl.cs_eqs a1) hs
    refine dk 10 2 1 [6,7] hs Iw ?_
    refine F6 _ (ha2 E.1.2.2.2.1 a9 _ a4 _ _ px l.pre) (hv hs) ?_
    refine dn hs N ?_
    exact ⟨([av]),a1.fields,(.list (([av]).map Bo) .full),(.list (a1.fields.map B9) .none),([.val (.int .i64 E.1.1)::(.val (.string E.1.2.1)::(.val (.int .i64 E.1.2.2.1)::((E.1.2.2.2.1.cs)++([.list (E.1.2.2.2.2.map Bo) .none]))))]),Rw,ef hs,ef hs,l,ef hs,ef hs,h⟩
   have hs:=Aa (Vl.cs_eqs a1) hs
   refine sk [6,7] hs N ?_
   exact ⟨a1.list,a1.fields,(.list (a1.list.map Bo) .none),(.list (a1.fields.map B9) .none),([.val (.int .i64 E.1.1)::(.val (.string E.1.2.1)::(.val (.int .i64 E.1.2.2.1)::((E.1.2.2.2.1.cs)++([.list (E.1.2.2.2.2.map Bo) .none]))))]),Rw,ef hs,ef hs,l,ef hs,ef hs,h⟩
  have hs:=Aa (Vl.cs_eqs a1) hs
  refine sk [6,7] hs N ?_
  exact ⟨a1.list,a1.fields,(.list (a1.list.map Bo) .none),(.list (a1.fields.map B9) .none),([]),Rw,ef hs,ef hs,l,ef hs,ef hs,h⟩
 ·clear h;rintro e st ⟨t,q,w,u,Xk4,Rk4,rfl,rfl,l,ar,be,h⟩
  rw [CZ] at h
  refine QL (B.length+3) 4 (by first | rfl | (simp only [JM,Iu,Kr,IF];rfl)) rfl ar ?_;simp +decide only [go_sem,Nat.reduceAdd]
  refine QL (B.length+3) 5 (by first | rfl | (simp only [JM,Iu,Kr,IF];rfl)) rfl be ?_;simp +decide only [go_sem,Nat.reduceAdd]
  show GE _ _ _ _ _ _ _ _ [(6,true,.box (B.length+2) 0),(7,true,.box (B.length+3) 0)] ⟨B++([a0.cs,a1.cs,[.val (.int .i64 0),.val (.int .i64 0),.val (.int .i64 0),.val (.string ((⟨#[]⟩:ByteArray))),.list ([]) .full,.list ([]) .full],[.val (.int .i64 a1.kind),.val (.int .i64 a1.int),.val (.int .i64 a1.scale),.val (.string a1.text),.list (t.map Bo) .none,.list (q.map B9) .none]]++Xk4),Rk4,L⟩
  refine AP hN V Y rfl D l (I5 o l) (I5 o l) ?_
  refine rg [6] hs ?_
  exact rt h hs D l
def FA (n:Nat) (g:Int→(List (ByteArray × Vl))→Option Vl) (b:Int) (b3_k24_5:List (ByteArray × Vl)) (b4_k24:ByteArray × Vl):Option Vl :=
 if (b3_k24_5.length+1)*104≤140737488355328∧b3_k24_5.length+1≤4611686018427387904 then
  if BV (b+1) then
   g (b+1) (b3_k24_5++[b4_k24])
  else none
 else none
def LM (n:Nat) (b:Vl) (b3_k7_5:List (ByteArray × Vl)):Option Vl :=
 some (Vl.mk b.kind b.int b.scale b.text b.list b3_k7_5)
def Dv (n:Nat) (a0:Ty) (h:Vl) (y:Ty→Vl→Option Vl):Nat→Int→(List (ByteArray × Vl))→Option Vl
 | 0,_,_=>none
 | m+1,b,b3_l15_5 =>
  if decide (b<(h.fields.length:Int)) then
   (Cb h.fields b).bind fun g =>
   (C3 n a0 g.1).bind fun q =>
   if q.2 then
    (y q.1.2.2.2.1 g.2).bind fun s =>
    FA n (Dv n a0 h y m) b b3_l15_5 ((g.1,s))
   else
    FA n (Dv n a0 h y m) b b3_l15_5 g
  else
   LM n h b3_l15_5
def JW (n:Nat) (b:Ty) (g:Vl) (h:Ty→Vl→Option Vl):Option Vl :=
 if b.kind=9 then
  Dv n b g h n 0 ([])
 else none
theorem U9 (w0:World) (n:Nat) (B:List (List AV)) (Rw:List RowA) (L:List LoopA) (a0:Ty) (a1:Vl) (fa2:FuncId) (ca2:List AV) (a2:Ty→Vl→Option Vl) (ha2:∀ (x0:Ty) (x1:Vl) r,a2 x0 x1=some r→∀ B' rows,B <+: B'→Rw <+: rows→ACalls Tryz.prog w0 fa2 ([.agg (x0.cs),.agg (x1.cs)]++ca2) ⟨B',rows,L⟩ fun v s=>v = .agg (r.cs)∧s=⟨B',rows,L⟩) (r:Vl) (h:JW n a0 a1 a2=some r) :
  ACalls Tryz.prog w0 138 [.agg (a0.cs),.agg (a1.cs),.clo fa2 ca2] ⟨B,Rw,L⟩ fun x st=>∃ (o0:VO) (rows:List RowA),x = .agg ([.val (.int .i64 r.kind),.val (.int .i64 r.int),.val (.int .i64 r.scale),.val (.string r.text),.list (r.list.map Bo) .none,Ll o0 r.fields.length])∧st=⟨B,rows,L⟩∧Owns Rw rows [] .none [(o0,7,(r.fields).flatMap fun x=>(B9 x).cells)]:=by
 rw [JW] at h
 refine ACalls.finV (Zu [true,true,true,true,true,false] (rs:=[.cell 6 46]) Tryz.func138 rfl rfl Tryz.ntmps138 (A9 Tryz.func138 rfl (by decide)) (Nat.le_of_ble_eq_true rfl) ?_)
 intro M0 W0 hN E G q hu
 dsimp only at hN E G q hu
 simp only [Au]
 have k:=Owns.none Rw
 have hs:=Zaz
 have o:=Ci (hu (.clo fa2 ca2) (by simp))
 obtain ⟨af,h⟩:=Aj h
 have D:(decide (a0.kind=9))=true:=Ad af
 have C:(decide (a0.kind=8))=false:=Ac (by omega)
 have hs:=Aa D hs
 have hs:=Aa C hs
 refine rg [2,3,4,6] hs ?_
 refine rg [2,3,4,6,7] hs ?_
 refine Av (fun e st=>∃ (j:List (ByteArray × Vl)) (l:VO) (Xk7:List (List AV)) (Rk7:List RowA),e=[(6,true,.box (B.length+2) 0),(7,true,.box (B.length+3) 0)]∧st=⟨B++([a0.cs,a1.cs,[.val (.int .i64 0),.val (.int .i64 0),.val (.int .i64 0),.val (.string ((⟨#[]⟩:ByteArray))),.list ([]) .full,.list ([]) .full],[.val (.int .i64 a1.kind),.val (.int .i64 a1.int),.val (.int .i64 a1.scale),.val (.string a1.text),.list (a1.list.map Bo) .none,Ll l j.length]]++Xk7),Rk7,L⟩∧Owns Rw Rk7 [] .none [(l,7,j.flatMap fun x=>(B9 x).cells)]∧LM n a1 j=some r) ?_ ?_
 ·intro K8 ae
  apply Ak
  refine rg [2,3,4,6,7,17] hs ?_
  refine A2 false ev (ef hs) (fun hb10=>by cases hb10) (fun hb10=>?_)
  refine rg [2,3,4,6,7,48] hs ?_
  refine A2 true ev (ef hs) (fun hb12=>?_) (fun hb12=>by cases hb12)
  have hs:=Aa (Vl.cs_eqs a1) hs
  refine rg [2,3,4,6,7] hs ?_
  refine rg [2,3,6,7,54,55,56] hs ?_
  apply Ak
  refine Qz (B.length+3) 5 (by simp only [JM,Iu,Kr,IF];rfl) rfl ?_;simp +decide only [go_sem,Nat.reduceAdd,List.set_cons_zero,List.set_cons_succ]
  have k:=k.nilV 7
  refine AC (fun m e st=>∃ (g:Int) (d:List (ByteArray × Vl)) (c:VO) (Xl15:List (List AV)) (Rl15:List RowA),e=[(2,true,.clo fa2 ca2),(3,true,.box B.length 0),(6,true,.box (B.length+2) 0),(7,true,.box (B.length+3) 0),(54,true,.list (a1.fields.map B9) .none),(55,true,.val (.int .i64 (a1.fields.length:Int))),(56,true,.val (.int .i64 g))]∧st=⟨B++([a0.cs,a1.cs,[.val (.int .i64 0),.val (.int .i64 0),.val (.int .i64 0),.val (.string ((⟨#[]⟩:ByteArray))),.list ([]) .full,.list ([]) .full],[.val (.int .i64 a1.kind),.val (.int .i64 a1.int),.val (.int .i64 a1.scale),.val (.string a1.text),.list (a1.list.map Bo) .none,Ll c d.length]]++Xl15),Rl15,L⟩∧Owns Rw Rl15 [] .none [(c,7,d.flatMap fun x=>(B9 x).cells)]∧Dv n a0 a1 a2 m g d=some r) n ⟨0,([]),.nil,([]),Rw,ef hs,ef hs,Owns.eqV (k) fn_,h⟩ ?_
  rintro ml15 e st ⟨g,d,c,Xl15,Rl15,rfl,rfl,k,h⟩ Ul15 Vl15
  cases ml15 with
  | zero=>cases h
  | succ ml15 =>
  rw [Dv] at h
  have y:=k.underV
  simp only [List.mem_cons,List.not_mem_nil,or_false,forall_eq_or_imp,forall_eq] at y
  refine AP hN E G rfl q k (I5 o k) (I5 o k) ?_ (vu @Pq)
  refine rg [2,3,6,7,54,55,56,57] hs ?_
  apply Ah;intro K18 J
  refine AL h hs (fun hs h=>?_) (fun hs h=>?_)
  rotate_left
  ·refine sx [6,7] hs ae ?_
   exact ⟨d,c,([]),Rl15,ef hs,ef hs,Owns.eqV (k) fn_,h⟩
  refine sk [2,3,6,7,54,55,56] hs J ?_
  clear J
  apply Ah;intro K20 H
  apply Ak
  obtain ⟨u,Z,h⟩:=bind_some h
  obtain ⟨aa,ab,U⟩:=AA Z
  have Q:=AB (f:=B9) U
  have hs:=Aa Q hs
  refine rg [2,3,6,7,11,54,55,56] hs ?_
  refine Av (fun e st=>∃ (a:List (ByteArray × Vl)) (b:ByteArray × Vl) (i:VO) (p:List AV) (Xk24:List (List AV)) (Rk24:List RowA),e=[(2,true,.clo fa2 ca2),(3,true,.box B.length 0),(6,true,.box (B.length+2) 0),(7,true,.box (B.length+3) 0),(11,true,.box (B.length+4) 0),(54,true,.list (a1.fields.map B9) .none),(55,true,.val (.int .i64 (a1.fields.length:Int))),(56,true,.val (.int .i64 g))]∧st=⟨B++([a0.cs,a1.cs,[.val (.int .i64 0),.val (.int .i64 0),.val (.int .i64 0),.val (.string ((⟨#[]⟩:ByteArray))),.list ([]) .full,.list ([]) .full],[.val (.int .i64 a1.kind),.val (.int .i64 a1.int),.val (.int .i64 a1.scale),.val (.string a1.text),.list (a1.list.map Bo) .none,Ll i a.length],p]++Xk24),Rk24,L⟩∧Owns Rw Rk24 [] .none [(i,7,a.flatMap fun x=>(B9 x).cells)]∧p.map AV.pubCell = .val (.string b.1)::(b.2.cs)∧FA n (Dv n a0 a1 a2 ml15) g a b=some r) ?_ ?_
  ·intro K25 O
   obtain ⟨t,V,h⟩:=bind_some h
   refine rc 2 [2,3,6,7,11,12,13,54,55,56] hs ?_;intro K26 K
   refine Ai _ (Fz w0 n _ _ _ a0 u.1 _ V) (hv hs) ?_
   refine ne hs K ?_
   clear K
   refine rg [2,3,6,7,11,12,54,55,56,67] hs ?_
   refine AL h hs (fun hs h=>?_) (fun hs h=>?_)
   ·obtain ⟨w,Y,h⟩:=bind_some h
    have hs:=Aa (Vl.cs_eqs u.2) hs
    have hs:=Aa (Vl.cs_eqs w) hs
    refine rk 2 [2,3,6,7,11,54,55,56] hs ?_
    refine F6 _ (ha2 t.1.2.2.2.1 u.2 _ Y _ _ px k.pre) (hv hs) ?_
    refine ne hs O ?_
    exact ⟨d,((u.1,w)),c,([.val (.string u.1),.val (.int .i64 w.kind),.val (.int .i64 w.int),.val (.int .i64 w.scale),.val (.string w.text),.list (w.list.map Bo) .none,.list (w.fields.map B9) .none]),([.val (.int .i64 t.1.1)::(.val (.string t.1.2.1)::(.val (.int .i64 t.1.2.2.1)::((t.1.2.2.2.1.cs)++([.list (t.1.2.2.2.2.map Bo) .none]))))]),Rl15,ef (cm hs),ef (cm hs),Owns.eqV (k) fn_,ef (cm hs),h⟩
   refine sk [2,3,6,7,11,54,55,56] hs O ?_
   exact ⟨d,u,c,(.val (.string u.1)::(u.2.cs)),([.val (.int .i64 t.1.1)::(.val (.string t.1.2.1)::(.val (.int .i64 t.1.2.2.1)::((t.1.2.2.2.1.cs)++([.list (t.1.2.2.2.2.map Bo) .none]))))]),Rl15,ef (cm hs),ef (cm hs),Owns.eqV (k) fn_,ef (cm hs),h⟩
  ·clear h;rintro e st ⟨a,b,i,p,Xk24,Rk24,rfl,rfl,k,ad,h⟩
   rw [FA] at h
   refine LH (B.length+4) (by first | rfl | (simp only [JM,Iu,Kr,IF];rfl)) ad ?_;simp +decide only [go_sem,Nat.reduceAdd]
   show GE _ _ _ _ _ _ _ _ [(2,true,.clo fa2 ca2),(3,true,.box B.length 0),(6,true,.box (B.length+2) 0),(7,true,.box (B.length+3) 0),(11,true,.box (B.length+4) 0),(54,true,.list (a1.fields.map B9) .none),(55,true,.val (.int .i64 (a1.fields.length:Int))),(56,true,.val (.int .i64 g))] ⟨B++([a0.cs,a1.cs,[.val (.int .i64 0),.val (.int .i64 0),.val (.int .i64 0),.val (.string ((⟨#[]⟩:ByteArray))),.list ([]) .full,.list ([]) .full],[.val (.int .i64 a1.kind),.val (.int .i64 a1.int),.val (.int .i64 a1.scale),.val (.string a1.text),.list (a1.list.map Bo) .none,Ll i a.length],.val (.string b.1)::(b.2.cs)]++Xk24),Rk24,L⟩
   have y:=k.underV
   simp only [List.mem_cons,List.not_mem_nil,or_false,forall_eq_or_imp,forall_eq] at y
   refine AP hN E G rfl q k (I5 o k) (I5 o k) ?_ (vu @Pq)
   obtain ⟨N,h⟩:=Aj h
   obtain ⟨ag,F,k,z⟩:=k.appendV (P:=Tryz.prog) (n:=a.length) (m:=1) Pl (by rw [Kv];rfl) (by decide) ((Jc (f:=B9) (sz:=7) (fun _=>by simp +decide only [go_sem]) _)) (by decide) N.1 N.2 [B9 b] rfl ((a++[b]).flatMap fun x=>(B9 x).cells) (by simp only [List.flatMap_append,List.flatMap_cons,List.flatMap_nil,List.append_nil,List.nil_append,Y0])
   simp only [List.mem_singleton,forall_eq,Hn,Hk,Ht,Hq,Hm,GG,Fh,Fj,Hj,DZ,DY,Fe,Fp,Fg] at z
   have hs:=Aa z hs
   refine rl [2,3,6,7,54,55,56] hs H ?_
   clear H
   obtain ⟨ah,h⟩:=Aj h
   refine rl [2,3,6,7,54,55,56] hs (fun e s=>Vl15 ml15 e s (Nat.lt_succ_self _)) ?_
   exact ⟨(g+1),(a++[b]),ag,([.val (.string b.1)::(b.2.cs)]),F,ef hs,ef hs,Owns.eqV (k) fn_,h⟩
 ·clear h;rintro e st ⟨j,l,Xk7,Rk7,rfl,rfl,k,h⟩
  rw [LM] at h
  have y:=k.underV
  simp only [List.mem_cons,List.not_mem_nil,or_false,forall_eq_or_imp,forall_eq] at y
  refine AP hN E G rfl q k (I5 o k) (I5 o k) ?_ (vu @Pq)
  refine rg [6] hs ?_
  apply A3;simp +decide only [go_sem,Nat.reduceAdd,D,C]
  have hgt:=Option.some.inj h;subst hgt
  have y:=k.underV
  simp only [List.mem_cons,List.not_mem_nil,or_false,forall_eq_or_imp,forall_eq] at y
  refine Zhr k q rfl (by (simp +decide only [go_sem,Nat.reduceAdd,D,C])<;>(try (repeat' apply Aa))<;>first | omega | assumption) (vu @Pq) ⟨_,_,?_,rfl,k.sub (List.nil_sublist _)⟩
  first | rfl | (simp +decide only [go_sem,Nat.reduceAdd,D,C];done) | (simp +decide only [go_sem,Nat.reduceAdd,Vl.cs,Ty.cs,D,C];done)
def CL (n:Nat) (q:List (ByteArray × Vl)) (y:ByteArray) (s:(ByteArray × Vl)→ByteArray→Option Int) (b:Int):Option (Int × Bool) :=
 if decide (b<(q.length:Int)) then
  (Cb q b).bind fun h =>
  (s h y).bind fun g =>
  some ((b,decide (g=0)))
 else
  some ((b,false))
def A6 (n:Nat) (s:List (ByteArray × Vl)) (q:ByteArray) (h:(ByteArray × Vl)→ByteArray→Option Int):Nat→Int→Int→Option (Int × Bool)
 | 0,_,_=>none
 | m+1,g,b =>
  if decide (g<b) then
   if BV (g+b) then
    if 0≤(g+b)∧(g+b)≤18446744073709551615 then
     if 0≤(g+b) then
      if BV ((g+b) / 2) then
       (Cb s ((g+b) / 2)).bind fun y =>
       (h y q).bind fun y21 =>
       if decide (y21<0) then
        if BV (((g+b) / 2)+1) then
         (A6 n s q h m) (((g+b) / 2)+1) b
        else none
       else
        (A6 n s q h m) g ((g+b) / 2)
      else none
     else none
    else none
   else none
  else
   CL n s q h g
def C0 (n:Nat) (b:List (ByteArray × Vl)) (g:ByteArray) (h:(ByteArray × Vl)→ByteArray→Option Int):Option (Int × Bool) :=
 A6 n b g h n 0 (b.length:Int)
theorem Jm (w0:World) (n:Nat) (B:List (List AV)) (Rw:List RowA) (L:List LoopA) (oa0:VO) (a0:List (ByteArray × Vl)) (hVa0:VP Rw oa0 7 (a0.flatMap fun x=>(B9 x).cells)) (a1:ByteArray) (fa2:FuncId) (ca2:List AV) (a2:(ByteArray × Vl)→ByteArray→Option Int) (ha2:∀ (x0:ByteArray × Vl) (x1:ByteArray) r,a2 x0 x1=some r→∀ B' rows,B <+: B'→Rw <+: rows→ACalls Tryz.prog w0 fa2 ([.agg (.val (.string x0.1)::(x0.2.cs)),.val (.string x1)]++ca2) ⟨B',rows,L⟩ fun v s=>v = .val (.int .i64 r)∧s=⟨B',rows,L⟩) (r:Int × Bool) (h:C0 n a0 a1 a2=some r) :
  ACalls Tryz.prog w0 139 [Ll oa0 a0.length,.val (.string a1),.clo fa2 ca2] ⟨B,Rw,L⟩ fun x st=>x = .tup [.val (.int .i64 r.1),.val (.bool r.2)]∧st=⟨B,Rw,L⟩:=by
 rw [C0] at h
 refine hd [.tmp 6,.tmp 7] Tryz.func139 Tryz.ntmps139 fun M0 W0 hN F K g hu c hs=>?_
 simp only [Au]
 have i:=Ci (hu (.clo fa2 ca2) (by simp))
 refine rg [0,1,2] hs ?_
 apply Ah;intro K2 O
 have J:=(hVa0.up c).lenV (by decide:0<7) (Jc (f:=B9) (sz:=7) (fun _=>by simp +decide only [go_sem]) a0) Tryz.prog 44
 simp +decide only [go_sem] at J
 have hs:=Aa J hs
 refine rl [0,1,2,8] hs O ?_
 clear O
 refine rg [0,1,2,8,9,10] hs ?_
 refine Av (fun e st=>∃ (d:Int),Ck e st B Rw L [(0,true,Ll oa0 a0.length),(1,true,.val (.string a1)),(2,true,.clo fa2 ca2),(8,true,.val (.int .i64 (a0.length:Int))),(9,true,.val (.int .i64 d))] [] [] (CL n a0 a1 a2 d=some r)) ?_ ?_
 ·intro K7 U
  apply Ak
  refine AC (fun m e st=>∃ (b:Int) (a:Int),Ck e st B Rw L [(0,true,Ll oa0 a0.length),(1,true,.val (.string a1)),(2,true,.clo fa2 ca2),(8,true,.val (.int .i64 (a0.length:Int))),(9,true,.val (.int .i64 b)),(10,true,.val (.int .i64 a))] [] [] (A6 n a0 a1 a2 m b a=some r)) n ⟨0,(a0.length:Int),([]),Rw,ef hs,ef hs,c,h⟩ ?_
  rintro ml8 e st ⟨b,a,Xl8,Rl8,rfl,rfl,c,h⟩ Ul8 Vl8
  cases ml8 with
  | zero=>cases h
  | succ ml8 =>
  rw [A6] at h
  have j:=(hVa0.up c).under;(try simp only [QO] at j)
  refine AP hN F K rfl g c (I5 i c) (I5 i c) ?_
  apply Ah;intro K9 E
  refine rg [0,1,2,8,9,10,17] hs ?_
  refine AL h hs (fun hs h=>?_) (fun hs h=>?_)
  rotate_left
  ·refine sx [0,1,2,8,9] hs U ?_
   exact ⟨b,([]),Rl8,ef hs,ef hs,c,h⟩
  refine sk [0,1,2,8,9,10] hs E ?_
  clear E
  apply Ak
  obtain ⟨ap,h⟩:=Aj h
  obtain ⟨ai,h⟩:=Aj h
  obtain ⟨am,h⟩:=Aj h
  obtain ⟨ak,h⟩:=Aj h
  refine rg [0,1,2,8,9,10,11] hs ?_
  apply Ah;intro K17 D
  obtain ⟨ab,N,h⟩:=bind_some h
  obtain ⟨V,ad,w⟩:=AA N
  obtain ⟨aq,ag,hqx18,ae,q⟩:=(hVa0.up c).row (by rw [(Jc (f:=B9) (sz:=7) (fun _=>by simp +decide only [go_sem]) _)];exact Nat.mul_pos (by omega) (by decide))
  subst hqx18
  have o:=YV (f:=B9) (sz:=7) (fun _=>by simp +decide only [go_sem]) w
  have l:=G9 (f:=fun x=>(B9 x).cells) 7 (fun _=>by simp +decide only [go_sem]) w
  have z:=Jc (f:=B9) (sz:=7) (fun _=>by simp +decide only [go_sem]) a0
  simp only [Hn,Hk,Ht,Hq,Hm,GG,Fh,Fj,Hj,DZ,DY,Fe,Fp,Fg,JD] at o l q z
  obtain ⟨ar,H,h⟩:=bind_some h
  have hs:=Aa o hs
  have hs:=Aa l hs
  have hs:=Aa q hs
  have hs:=Aa z hs
  refine rk 2 [0,1,2,8,9,10,11,31] hs ?_
  refine F6 _ (ha2 ab a1 _ H _ _ px c.pre) (hv hs) ?_
  refine ne hs D ?_
  clear D
  refine AL h hs (fun hs h=>?_) (fun hs h=>?_)
  ·obtain ⟨aj,h⟩:=Aj h
   refine rl [0,1,2,8,9,10] hs (fun e s=>Vl8 ml8 e s (Nat.lt_succ_self _)) ?_
   exact ⟨(((b+a) / 2)+1),a,([]),Rl8,ef hs,ef hs,c,h⟩
  refine rl [0,1,2,8,9,10] hs (fun e s=>Vl8 ml8 e s (Nat.lt_succ_self _)) ?_
  exact ⟨b,((b+a) / 2),([]),Rl8,ef hs,ef hs,c,h⟩
 ·clear h;rintro e st ⟨d,Xk6,Rk6,rfl,rfl,c,h⟩
  rw [CL] at h
  have j:=(hVa0.up c).under;(try simp only [QO] at j)
  refine AP hN F K rfl g c (I5 i c) (I5 i c) ?_
  apply Ah;intro K24 k
  rcases Bool.eq_false_or_eq_true (decide (d<(a0.length:Int))) with hf25 | hf25
  ·replace h:=AY h hf25
   obtain ⟨aa,G,h⟩:=bind_some h
   obtain ⟨Z,af,u⟩:=AA G
   obtain ⟨ao,Y,hqx26,ah,p⟩:=(hVa0.up c).row (by rw [(Jc (f:=B9) (sz:=7) (fun _=>by simp +decide only [go_sem]) _)];exact Nat.mul_pos (by omega) (by decide))
   subst hqx26
   have y:=YV (f:=B9) (sz:=7) (fun _=>by simp +decide only [go_sem]) u
   have t:=G9 (f:=fun x=>(B9 x).cells) 7 (fun _=>by simp +decide only [go_sem]) u
   have C:=Jc (f:=B9) (sz:=7) (fun _=>by simp +decide only [go_sem]) a0
   simp only [Hn,Hk,Ht,Hq,Hm,GG,Fh,Fj,Hj,DZ,DY,Fe,Fp,Fg,JD] at y t p C
   obtain ⟨au,Q,h⟩:=bind_some h
   have hs:=Aa hf25 hs
   have hs:=Aa y hs
   have hs:=Aa t hs
   have hs:=Aa p hs
   have hs:=Aa C hs
   refine rk 2 [6,7] hs ?_
   refine F6 _ (ha2 aa a1 _ Q _ _ px c.pre) (hv hs) ?_
   refine ne hs k ?_
   clear k
   exact rt h hs g c
  ·replace h:=AZ h hf25
   have hs:=Aa hf25 hs
   refine rk 2 [6,7] hs ?_
   refine Az ?_
   refine ne hs k ?_
   clear k
   exact rt h hs g c
end Go.Proofs.YtgpmlelfkjfbiaaGreatDoor
