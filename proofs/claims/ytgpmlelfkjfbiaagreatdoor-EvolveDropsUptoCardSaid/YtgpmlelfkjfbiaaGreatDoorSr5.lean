/-
  Part 5 of the proof: rules and walks that the claim's last text uses.
-/
import Derived.Shelf.Spec.SlicesInsertGrow
import Derived.Test.YtgpmlelfkjfbiaaGreatDoorSr4
set_option linter.unusedSimpArgs false
set_option linter.unusedVariables false
set_option maxRecDepth 100000
set_option maxHeartbeats 4000000
namespace Go.Proofs.YtgpmlelfkjfbiaaGreatDoor
open Go Go.RowKit Go.Ev
def ZaG (x:ByteArray):Int:=L1 (Vl.mk 4 0 0 x [] [])
def ZaM:Option ByteArray→List ByteArray→Int
 | _,[]=>0
 | none,x::r=>if ZaG x=0 then ZaM (some x) r else ZaG x
 | some p,x::r=>if ZaG x=0 then (if Cb x p=true then 7 else if WT x p=true then 24 else ZaM (some x) r) else ZaG x
def Zan (l:List ByteArray):Nat→Option ByteArray
 | 0=>none
 | i+1=>l[i]?
theorem ZfC (x:ByteArray) (h:x.size≤1048576):(Vl.mk 4 0 0 x [] []).ok∧(Vl.mk 4 0 0 x [] []).size=1:=⟨by simp [Vl.ok,Zaw,ZF,h],by simp [Vl.size,G8,Gk]⟩
theorem Zj4 (n:Nat) (hn:4≤n) (x:ByteArray) (h:x.size≤1048576):EX n (Gx x)=some (ZaG x):=by
 obtain ⟨b,a⟩:=ZfC x h
 have e:Gx x=Vl.mk 4 0 0 x [] []:=rfl
 rw [e]
 exact Wa n _ (by rw [a];omega) (by rw [a];omega) b
theorem ZcT (n:Nat) (hn:4≤n) (t:Ty) (hl:t.words.length≤1000000000) (hz:∀ x∈t.words,x.size≤1048576):∀ (k m i:Nat),i+k=t.words.length→k<m→F2 n t m i=some (ZaM (Zan t.words i) (t.words.drop i))
 | k,0,i,_,h=>absurd h (Nat.not_lt_zero _)
 | 0,m+1,i,hi,_=>by
  rw [F2,As,Ac (by omega)]
  simp only [Bool.false_eq_true,if_false,LO]
  rw [List.drop_eq_nil_of_le (by omega)]
  cases Zan t.words i<;>rfl
 | k+1,m+1,i,hi,hm=>by
  have a:i<t.words.length:=by omega
  have ih:=ZcT n hn t hl hz k m (i+1) (by omega) (by omega)
  rw [F2,As,Ad a]
  simp only [if_true,Az a,Ab]
  rw [Zj4 n hn _ (hz _ (List.getElem_mem a)),List.drop_eq_getElem_cons a]
  simp only [Ab]
  have d:Zan t.words (i+1)=some t.words[i]:=by simp only [Zan,List.getElem?_eq_getElem a]
  rw [d] at ih
  cases i with
  | zero =>
   simp only [Zan,ZaM]
   by_cases hb:ZaG t.words[0]=0
   ·rw [Ae hb,Ad hb]
    simp only [Bool.not_true,Bool.false_eq_true,if_false]
    rw [Af (by decide),Ae (Av (by omega))]
    exact ih
   ·rw [Af hb,Ac hb];rfl
  | succ j =>
   have b:j<t.words.length:=by omega
   have e:Zan t.words (j+1)=some t.words[j]:=by simp only [Zan,List.getElem?_eq_getElem b]
   rw [e]
   simp only [ZaM]
   by_cases hb:ZaG t.words[j+1]=0
   ·rw [Ae hb,Ad hb]
    simp only [Bool.not_true,Bool.false_eq_true,if_false,ZaP,if_true,Zy]
    have c:BQ (j:Int):=ZaR (by omega)
    simp only [Ae c,Az b,Ab]
    by_cases h1:Cb t.words[j+1] t.words[j]=true
    ·rw [Ae h1,Ae h1]
    ·rw [Af h1,Af h1]
     by_cases h2:WT t.words[j+1] t.words[j]=true
     ·rw [Ae h2,Ae h2]
     ·rw [Af h2,Af h2,Ae (Av (by omega))]
      exact ih
   ·rw [Af hb,Ac hb];rfl
def M6 (t:Ty):Int:=if t.min≠0∨t.max≠0 then 3 else if 64<t.words.length then 9 else ZaM none t.words
theorem ZbF (n:Nat) (hn:4≤n) (t:Ty) (hw:t.words.length<n) (hl:t.words.length≤1000000000) (hz:∀ x∈t.words,x.size≤1048576):MJ n t=some (M6 t):=by
 have e:=ZcT n hn t hl hz t.words.length n 0 (by omega) hw
 rw [List.drop_zero] at e
 rw [MJ,M6]
 by_cases h:t.min≠0∨t.max≠0
 ·rw [Ae h,Ae (by simpa using h)]
 ·rw [Af h,Af (by simpa using h)]
  by_cases h2:64<t.words.length
  ·rw [Ae h2,Ae (Ad (by omega))]
  ·rw [Af h2,Af (by rw [decide_eq_true_eq];omega)]
   exact e
theorem Yl (n:Nat) (l:List TF) (p:TF→Bool) (hl:l.length≤1000000000) (hn:l.length<n):AE n l (fun x=>some (p x))=some (l.any p):=by
 have e:=Rm n l p hl l.length n 0 (by omega) hn
 have a:AX n l (fun x=>some (p x))=some (Ob p l 0):=e
 rw [AE,a,Ab]
 congr 1
 have := @List.findIdx_lt_length _ p l
 unfold Ob
 rw [List.drop_zero]
 by_cases h:l.findIdx p<l.length
 ·rw [Ae h,Ad (by omega),List.any_eq_true.2 (this.1 h)]
 ·rw [Af h,Ac (by omega)]
  exact (Bool.eq_false_iff.2 fun q=>h (this.2 (List.any_eq_true.1 q))).symm
def HM (k:Int) (b:List TF) (x:TF):Int :=
 if E5 x.2.1=true then
  if ¬ (1≤x.1∧x.1≤9999) then 2
  else if (b.any fun q=>DL q x)=true then 7
  else if ¬ (1≤x.2.2.1∧x.2.2.1≤3)∨(k=10∧x.2.2.1≠1) then 11
  else if x.2.2.1=3∧x.2.2.2.2.length=0 then 4
  else if 1<x.2.2.2.2.length∨(x.2.2.1≠3∧0<x.2.2.2.2.length) then 3
  else 0
 else 12
def Fe (k:Int):List TF→List TF→Int
 | _,[]=>0
 | b,x::r=>if HM k b x=0 then Fe k (b++[x]) r else HM k b x
theorem Xe {α:Type} (l:List α) (i:Nat) (h:i<l.length):l.take i++[l[i]]=l.take (i+1):=by rw [List.take_succ_eq_append_getElem h]
theorem Zch (n:Nat) (t:Ty) (i:Nat) (h:i<t.fields.length) (hl:t.fields.length≤1000000000) (hn:t.fields.length<n) (hz:∀ p∈t.fields,p.2.1.size≤1048576):MU n t i=some (HM t.kind (t.fields.take i) t.fields[i]):=by
 rw [MU,Az h]
 simp only [Ab]
 rw [Ae (U2 (by have:=hz _ (List.getElem_mem h);omega)),HM,Int.toNat_natCast,Yl n _ _ (by rw [List.length_take];omega) (by rw [List.length_take];omega)]
 simp only [Ab]
 by_cases h1:E5 t.fields[i].2.1=true
 rotate_left
 ·rw [Af h1,Bool.eq_false_iff.2 h1];rfl
 rw [Ae h1,h1]
 simp only [Bool.not_true,Bool.false_eq_true,if_false]
 by_cases h2:1≤t.fields[i].1∧t.fields[i].1≤9999
 rotate_left
 ·rw [Ae (show (!(decide (1≤t.fields[i].1)&&decide (t.fields[i].1≤9999)))=true by simp;omega),Ae h2]
 rw [Af (show ¬ (!(decide (1≤t.fields[i].1)&&decide (t.fields[i].1≤9999)))=true by simp;omega),Af (fun q:¬ _=>q h2),Ae (by omega)]
 by_cases h3:((t.fields.take i).any fun q=>DL q t.fields[i])=true
 ·rw [Ae h3,Ae h3]
 rw [Af h3,Af h3]
 by_cases h4:¬ (1≤t.fields[i].2.2.1∧t.fields[i].2.2.1≤3)∨(t.kind=10∧t.fields[i].2.2.1≠1)
 ·rw [Ae h4,Ae (by simp;omega)]
 rw [Af h4,Af (by simp;omega)]
 by_cases h5:t.fields[i].2.2.1=3∧t.fields[i].2.2.2.2.length=0
 ·rw [Ae h5,Ae (by simp;exact ⟨h5.1,List.length_eq_zero_iff.1 h5.2⟩)]
 rw [Af h5,Af (by simp;intro a b;exact h5 ⟨a,by rw [b];rfl⟩)]
 by_cases h6:1<t.fields[i].2.2.2.2.length∨(t.fields[i].2.2.1≠3∧0<t.fields[i].2.2.2.2.length)
 ·rw [Ae h6,Ae (by simp only [Bool.or_eq_true,Bool.and_eq_true,decide_eq_true_eq,Bool.not_eq_true',decide_eq_false_iff_not];omega)]
 ·rw [Af h6,Af (by simp only [Bool.or_eq_true,Bool.and_eq_true,decide_eq_true_eq,Bool.not_eq_true',decide_eq_false_iff_not];omega)]
theorem Yj (n:Nat) (t:Ty) (hl:t.fields.length≤1000000000) (hn:t.fields.length<n) (hz:∀ p∈t.fields,p.2.1.size≤1048576):∀ (k m i:Nat),i+k=t.fields.length→k<m→Il n t m i=some (Fe t.kind (t.fields.take i) (t.fields.drop i))
 | k,0,i,_,h=>absurd h (Nat.not_lt_zero _)
 | 0,m+1,i,hi,_=>by
  rw [Il,As,Ac (by omega)]
  rw [List.drop_eq_nil_of_le (by omega)];rfl
 | k+1,m+1,i,hi,hm=>by
  have a:i<t.fields.length:=by omega
  rw [Il,As,Ad a,Zch n t i a hl hn hz,List.drop_eq_getElem_cons a,Fe]
  simp only [if_true,Ab]
  by_cases h:HM t.kind (t.fields.take i) t.fields[i]=0
  ·rw [Ad h,Ae h]
   simp only [Bool.not_true,Bool.false_eq_true,if_false]
   rw [Ae (Av (by omega)),Xe _ _ a]
   exact Yj n t hl hn hz k m (i+1) (by omega) (by omega)
  ·rw [Ac h,Af h];rfl
def Om (t:Ty):Int :=
 if t.kind<1∨10<t.kind then 11
 else if A7 t=true then 3
 else if t.kind=4∧0<t.words.length then M6 t
 else if ((2≤t.kind∧t.kind≤8)∧CJ t (AL t.kind).1 (AL t.kind).2=false)∨¬ (0≤t.scale∧t.scale≤12) then 2
 else if (t.kind=8∧t.elem.length=0)∨(t.kind=10∧t.fields.length=0) then 4
 else if 1<t.elem.length then 3
 else if 64<t.fields.length then 9
 else Fe t.kind [] t.fields
def Ty.fit (t:Ty) (n:Nat):Prop:=4≤n∧t.words.length<n∧t.fields.length<n∧t.words.length≤1000000000∧t.fields.length≤1000000000∧t.elem.length≤1000000000∧(∀ x∈t.words,x.size≤1048576)∧∀ p∈t.fields,p.2.1.size≤1048576
def U7 (k:Int):Lim:=(Iq[k.toNat]?).getD (Lim.mk ⟨#[]⟩ 0 0 false false false false false)
theorem Zgc (k:Int) (h:¬ (k<1∨10<k)):B7 Iq k=some (U7 k):=by
 rcases H7 h with hk | hk | hk | hk | hk | hk | hk | hk | hk | hk<;>subst hk<;>rfl
theorem Zgn (t:Ty) (h:¬ (t.kind<1∨10<t.kind)):KJ t (U7 t.kind)=if A7 t=true then 3 else 0:=by
 have a:∀ x:Nat,decide (0<(x:Int)) = !decide ((x:Int)=0):=fun x=>by
  by_cases h:x=0
  ·subst h;rfl
  ·rw [Ad (show 0<(x:Int) by omega),Ac (show ¬ (x:Int)=0 by omega)];rfl
 have b:decide (t.min=0)=true∨decide (t.min=0)=false:=by cases decide (t.min=0)<;>simp
 rw [KJ,A7]
 simp only [a,Iw]
 generalize decide (t.min=0)=b1
 generalize decide (t.max=0)=b2
 generalize decide (t.scale=0)=b3
 generalize decide ((t.words.length:Int)=0)=b4
 generalize decide ((t.elem.length:Int)=0)=b5
 generalize decide ((t.fields.length:Int)=0)=b6
 clear b a
 rcases H7 h with hk | hk | hk | hk | hk | hk | hk | hk | hk | hk<;>simp only [hk]<;>cases b1<;>cases b2<;>cases b3<;>cases b4<;>cases b5<;>cases b6<;>rfl
theorem Zbn (n:Nat) (t:Ty) (h:t.fit n):QU n t=some (Om t):=by
 obtain ⟨p,u,m,r,E,G,D,w⟩:=h
 have C:=ZbF n p t u r D
 have l:=Yj n t E m w t.fields.length n 0 (by omega) m
 rw [List.drop_zero,List.take_zero] at l
 have j:Il n t n 0=some (Fe t.kind [] t.fields):=l
 have y:Iy n t false=some (if 1<t.elem.length∧t.kind=8 then 3 else if 64<t.fields.length then 9 else Fe t.kind [] t.fields):=by
  rw [Iy,Af (by decide)]
  by_cases q:1<t.elem.length∧t.kind=8
  ·rw [Ae q,Ae (by simp only [Bool.and_eq_true,decide_eq_true_eq];omega)]
  ·rw [Af q,Af (by simp only [Bool.and_eq_true,decide_eq_true_eq];omega)]
   by_cases q2:64<t.fields.length
   ·rw [Ae q2,Ae (Ad (by omega))]
   ·rw [Af q2,Af (by rw [decide_eq_true_eq];omega),j]
 have k:Iy n t true=some 4:=by rw [Iy,Ae rfl]
 have g:¬ A7 t=true→KB n t=some (if (t.kind=8∧t.elem.length=0)∨(t.kind=10∧t.fields.length=0) then 4 else if 1<t.elem.length then 3 else if 64<t.fields.length then 9 else Fe t.kind [] t.fields):=fun x=>by
  have v:1<t.elem.length→t.kind=8:=fun q=>by
   by_cases k8:t.kind=8
   ·exact k8
   ·exfalso;apply x;rw [A7,Ac k8,Ad (show 0<(t.elem.length:Int) by omega)];simp
  rw [KB]
  by_cases q1:t.kind=8∧t.elem.length=0
  ·rw [Ae (by simp only [Bool.and_eq_true,decide_eq_true_eq];omega),k,Ae (.inl q1)]
  rw [Af (by simp only [Bool.and_eq_true,decide_eq_true_eq];omega)]
  by_cases q2:t.kind=10∧t.fields.length=0
  ·rw [Ad q2.1,Ad (show (t.fields.length:Int)=0 by omega),show (true&&true)=true from rfl,k,Ae (.inr q2)]
  ·have e:(decide (t.kind=10)&&decide ((t.fields.length:Int)=0))=false:=by
    rw [Bool.eq_false_iff];simp only [ne_eq,Bool.and_eq_true,decide_eq_true_eq];omega
   rw [e,y,Af (show ¬ ((t.kind=8∧t.elem.length=0)∨(t.kind=10∧t.fields.length=0)) by omega)]
   by_cases q3:1<t.elem.length
   ·rw [Ae ⟨q3,v q3⟩,Ae q3]
   ·rw [Af (fun q=>q3 q.1),Af q3]
 rw [QU,Om]
 by_cases q1:t.kind<1∨10<t.kind
 ·rw [Ae q1,Ae (by simp;omega)]
 rw [Af q1,Af (by simp;omega),Zgc _ q1]
 simp only [Ab]
 rw [Zgn t q1]
 by_cases q2:A7 t=true
 ·rw [Ae q2,Ae q2];rfl
 rw [Af q2,Af q2,Af (by decide)]
 have d:=g q2
 by_cases q3:t.kind=4∧0<t.words.length
 ·rw [Ae q3,Ae (by simp only [Bool.and_eq_true,decide_eq_true_eq];omega),C]
  simp only [Ab]
  by_cases z:M6 t=0
  ·rw [Ad z,z,Af (by decide),d]
   have F:t.elem.length=0:=by
    rcases Nat.eq_zero_or_pos t.elem.length with e | e
    ·exact e
    ·exfalso;apply q2;rw [A7,Ac (show ¬ t.kind=8 by omega),Ad (show 0<(t.elem.length:Int) by omega)];simp
   have s:t.fields.length=0:=by
    rcases Nat.eq_zero_or_pos t.fields.length with e | e
    ·exact e
    ·exfalso;apply q2;rw [A7,Ac (show ¬ t.kind=9 by omega),Ac (show ¬ t.kind=10 by omega),Ad (show 0<(t.fields.length:Int) by omega)];simp
   rw [Af (by omega),Af (by omega),Af (by omega),List.length_eq_zero_iff.1 s];rfl
  ·rw [Ac z];rfl
 rw [Af q3,Af (by simp only [Bool.and_eq_true,decide_eq_true_eq];omega)]
 have f:t.kind≠3→t.scale=0:=fun c=>by
  by_cases z:t.scale=0
  ·exact z
  ·exfalso;apply q2;rw [A7,Ac c,Ac z];simp
 have o:((U7 t.kind).bounds&&(((decide (t.max<t.min))||(decide (t.min<(U7 t.kind).low)))||(decide ((U7 t.kind).high<t.max))))=((decide (2≤t.kind∧t.kind≤8)) && !(CJ t (AL t.kind).1 (AL t.kind).2)):=by
  have g1:∀ a b:Int,decide (a<b) = !decide (b≤a):=fun a b=>by
   by_cases q:a<b
   ·rw [Ad q,Ac (by omega)];rfl
   ·rw [Ac q,Ad (by omega)];rfl
  simp only [g1,CJ]
  rcases H7 q1 with hk | hk | hk | hk | hk | hk | hk | hk | hk | hk<;>simp only [hk] <;>
   simp [U7,Iq,AL,NQ,LY,Bool.or_comm,Bool.or_left_comm,Bool.or_assoc]
 have hs:(U7 t.kind).scale=decide (t.kind=3):=by
  rcases H7 q1 with hk | hk | hk | hk | hk | hk | hk | hk | hk | hk<;>simp only [hk]<;>rfl
 rw [o,hs]
 by_cases q4:(2≤t.kind∧t.kind≤8)∧CJ t (AL t.kind).1 (AL t.kind).2=false
 ·rw [Ad q4.1,Ae (Or.inl q4),q4.2];rfl
 have i:(decide (2≤t.kind∧t.kind≤8) && !(CJ t (AL t.kind).1 (AL t.kind).2))=false:=by
  rw [Bool.eq_false_iff];simp only [ne_eq,Bool.and_eq_true,decide_eq_true_eq,Bool.not_eq_true'];exact q4
 rw [i,Af (by decide)]
 by_cases q5:¬ (0≤t.scale∧t.scale≤12)
 ·have c:t.kind=3:=by
   by_cases c:t.kind=3
   ·exact c
   ·exact absurd (f c) (by omega)
  have e:(decide (t.kind=3) && !(decide (0≤t.scale)&&decide (t.scale≤12)))=true:=by simp [c];omega
  rw [Ae (Or.inr q5),e];rfl
 ·have e:(decide (t.kind=3) && !(decide (0≤t.scale)&&decide (t.scale≤12)))=false:=by
   rw [Bool.eq_false_iff];simp;omega
  rw [Af (fun q:_∨_=>q.elim q4 q5),e,M9,Af (by decide),d]
inductive Ty.Good:Ty→Prop
 | mk (t:Ty) (h:Om t=0) (he:∀ x∈t.elem,Ty.Good x) (hf:∀ p∈t.fields,Ty.Good p.2.2.2.1):Ty.Good t
inductive Vl.Good:Vl→Prop
 | mk (v:Vl) (h:FR v=0) (hp:∀ x∈BV v,Vl.Good x):Vl.Good v
theorem Zf:∀ (l:List (Nat × Vl)) (c:Int),SK l c=0→∀ p∈l,FR p.2=0
 | [],_,_,p,hp=>by simp at hp
 | q::r,c,h,p,hp=>by
  rw [SK] at h
  split at h
  ·cases h
  ·split at h
   ·cases h
   ·split at h
    ·rename_i h0
     rcases List.mem_cons.1 hp with rfl | hp
     ·exact h0
     ·exact Zf r (c+1) h p hp
    ·rename_i h0;exact absurd h h0
theorem SU:∀ (k:Nat) (v:Vl) (lv:Nat),v.size≤k→(∀ p∈EQ lv v,FR p.2=0)→v.Good
 | 0,v,lv,h,_=>absurd h (by have:=v.size_eq;omega)
 | k+1,v,lv,h,hp=>by
  rw [Nw] at hp
  refine .mk v (hp (lv,v) (List.mem_cons_self ..)) fun x a=>?_
  have:=Jc a
  exact SU k x (lv+1) (by omega) fun p b=>hp p (List.mem_cons_of_mem _ (List.mem_flatMap.2 ⟨x,a,b⟩))
theorem OR {v:Vl} (h:L1 v=0):v.Good:=SU v.size v 1 (Nat.le_refl _) (Zf _ _ h)
theorem Po {v:Vl} (h:FR v=0):¬ (v.kind<1∨10<v.kind)∧¬ Dv v=true:=by
 rw [FR] at h
 by_cases h1:Ce v=true
 ·rw [Ae h1] at h;exact absurd h (by decide)
 rw [Af h1] at h
 by_cases h2:v.kind<1∨10<v.kind
 ·rw [Ae h2] at h;exact absurd h (by decide)
 rw [Af h2] at h
 by_cases h3:Dv v=true
 ·rw [Ae h3] at h;exact absurd h (by decide)
 exact ⟨h2,h3⟩
theorem Rn {t:Ty} (h:Om t=0):¬ (t.kind<1∨10<t.kind)∧¬ A7 t=true∧¬ ((t.kind=8∧t.elem.length=0)∨(t.kind=10∧t.fields.length=0)):=by
 rw [Om] at h
 by_cases h1:t.kind<1∨10<t.kind
 ·rw [Ae h1] at h;exact absurd h (by decide)
 rw [Af h1] at h
 by_cases h2:A7 t=true
 ·rw [Ae h2] at h;exact absurd h (by decide)
 rw [Af h2] at h
 refine ⟨h1,h2,?_⟩
 by_cases h3:t.kind=4∧0<t.words.length
 ·omega
 rw [Af h3] at h
 by_cases h4:((2≤t.kind∧t.kind≤8)∧CJ t (AL t.kind).1 (AL t.kind).2=false)∨¬ (0≤t.scale∧t.scale≤12)
 ·rw [Ae h4] at h;exact absurd h (by decide)
 rw [Af h4] at h
 by_cases h5:(t.kind=8∧t.elem.length=0)∨(t.kind=10∧t.fields.length=0)
 ·rw [Ae h5] at h;exact absurd h (by decide)
 exact h5
theorem Ty.scale0 {t:Ty} (h:¬ A7 t=true) (k:t.kind≠3):t.scale=0:=by
 by_cases z:t.scale=0
 ·exact z
 ·exfalso;apply h;rw [A7,Ac k,Ac z];simp
theorem Vl.scale0 {v:Vl} (h:¬ Dv v=true) (k:v.kind≠3):v.scale=0:=by
 by_cases z:v.scale=0
 ·exact z
 ·exfalso;apply h;rw [Dv,Ac k,Ac z];simp
theorem Ns {α:Type} (p:α→Bool) (l:List α):decide (0≤Ob p l 0)=l.any p:=by
 have := @List.findIdx_lt_length _ p l
 unfold Ob
 rw [List.drop_zero]
 by_cases h:l.findIdx p<l.length
 ·rw [Ae h,Ad (by omega),List.any_eq_true.2 (this.1 h)]
 ·rw [Af h,Ac (by omega)]
  exact (Bool.eq_false_iff.2 fun q=>h (this.2 (List.any_eq_true.1 q))).symm
theorem Zbq {α:Type} (p:α→Bool) (l:List α):decide (Ob p l 0<0) = !l.any p:=by
 rw [←Ns]
 by_cases h:0≤Ob p l 0
 ·rw [Ad h,Ac (by omega)];rfl
 ·rw [Ac h,Ad (by omega)];rfl
theorem Zd7 (n:Nat) (l:List (Vl)) (f:Vl→Option Bool) (p:Vl→Bool) (hf:∀ x∈l,f x=some (p x)) (hl:l.length≤1000000000):∀ (k m i:Nat),i+k=l.length→k<m→Cf n l f m i=some (Ob p l i)
 | k,0,i,_,h=>absurd h (Nat.not_lt_zero _)
 | 0,m+1,i,hi,_=>by
  rw [Cf,As,Ac (by omega),LI p l i (by omega)]
  rfl
 | k+1,m+1,i,hi,hm=>by
  have a:i<l.length:=by omega
  rw [Cf,As,Ad a,JU p l i a]
  simp only [if_true,Az a,Ab,hf _ (List.getElem_mem a)]
  by_cases h:p l[i]=true
  ·rw [Ae h,Ae h]
  ·rw [Af h,Af h,Ae (Av (by omega))]
   exact Zd7 n l f p hf hl k m (i+1) (by omega) (by omega)
theorem Xt (n:Nat) (l:List (ByteArray × Vl)) (f:ByteArray × Vl→Option Bool) (p:ByteArray × Vl→Bool) (hf:∀ x∈l,f x=some (p x)) (hl:l.length≤1000000000):∀ (k m i:Nat),i+k=l.length→k<m→BN n l f m i=some (Ob p l i)
 | k,0,i,_,h=>absurd h (Nat.not_lt_zero _)
 | 0,m+1,i,hi,_=>by
  rw [BN,As,Ac (by omega),LI p l i (by omega)]
  rfl
 | k+1,m+1,i,hi,hm=>by
  have a:i<l.length:=by omega
  rw [BN,As,Ad a,JU p l i a]
  simp only [if_true,Az a,Ab,hf _ (List.getElem_mem a)]
  by_cases h:p l[i]=true
  ·rw [Ae h,Ae h]
  ·rw [Af h,Af h,Ae (Av (by omega))]
   exact Xt n l f p hf hl k m (i+1) (by omega) (by omega)
theorem Zam (n:Nat) (l:List (TF)) (f:TF→Option Bool) (p:TF→Bool) (hf:∀ x∈l,f x=some (p x)) (hl:l.length≤1000000000):∀ (k m i:Nat),i+k=l.length→k<m→AU n l f m i=some (Ob p l i)
 | k,0,i,_,h=>absurd h (Nat.not_lt_zero _)
 | 0,m+1,i,hi,_=>by
  rw [AU,As,Ac (by omega),LI p l i (by omega)]
  rfl
 | k+1,m+1,i,hi,hm=>by
  have a:i<l.length:=by omega
  rw [AU,As,Ad a,JU p l i a]
  simp only [if_true,Az a,Ab,hf _ (List.getElem_mem a)]
  by_cases h:p l[i]=true
  ·rw [Ae h,Ae h]
  ·rw [Af h,Af h,Ae (Av (by omega))]
   exact Zam n l f p hf hl k m (i+1) (by omega) (by omega)
theorem Zdq (n:Nat) (l:List ByteArray) (w:ByteArray) (hl:(l).length≤1000000000):∀ (k m i:Nat),i+k=(l).length→k<m→Dn n l w m i=some (Ob (fun x=>Cb w x) (l) i)
 | k,0,i,_,h=>absurd h (Nat.not_lt_zero _)
 | 0,m+1,i,hi,_=>by
  rw [Dn,As,Ac (by omega),LI _ (l) i (by omega)]
  rfl
 | k+1,m+1,i,hi,hm=>by
  have a:i<(l).length:=by omega
  rw [Dn,As,Ad a,JU _ (l) i a]
  simp only [if_true,Az a,Ab]
  by_cases h:(fun x=>Cb w x) (l)[i]=true
  ·rw [Ae h,Ae h]
  ·rw [Af h,Af h,Ae (Av (by omega))]
   exact Zdq n l w hl k m (i+1) (by omega) (by omega)
theorem QJ (n:Nat) (l:List ByteArray) (w:ByteArray) (hl:l.length≤1000000000) (hn:l.length<n):BG n l w=some (l.any fun x=>Cb w x):=by
 have e:GU n l w=some (Ob (fun x=>Cb w x) l 0):=Zdq n l w hl l.length n 0 (by omega) hn
 rw [BG,e,Ab,Ns]
theorem X2 (n:Nat) (l:List Vl) (f:Vl→Option Bool) (p:Vl→Bool) (hf:∀ x∈l,f x=some (p x)) (hl:l.length≤1000000000) (hn:l.length<n):Dq n l f=some (l.any p):=by
 have e:E1 n l f=some (Ob p l 0):=Zd7 n l f p hf hl l.length n 0 (by omega) hn
 rw [Dq,e,Ab,Ns]
theorem Kp (n:Nat) (l:List TF) (f:TF→Option Bool) (p:TF→Bool) (hf:∀ x∈l,f x=some (p x)) (hl:l.length≤1000000000) (hn:l.length<n):AE n l f=some (l.any p):=by
 have e:AX n l f=some (Ob p l 0):=Zam n l f p hf hl l.length n 0 (by omega) hn
 rw [AE,e,Ab,Ns]
def ZdL (v:Vl) (w:ByteArray):Bool:=v.fields.any fun x=>Cb x.1 w
theorem ZbY (n:Nat) (v:Vl) (w:ByteArray) (hk:v.kind=9) (hs:v.size≤1000000000) (hn:v.size<n):∃ u,HB n v w=some (u,ZdL v w):=by
 have a:=Pl v
 have e:CL n v.fields (fun x=>some (FX x w))=some (Ob (fun x:ByteArray × Vl=>Cb x.1 w) v.fields 0):=Xt n v.fields _ _ (fun x _=>rfl) (by omega) v.fields.length n 0 (by omega) (by omega)
 rw [HB,Ja,e]
 simp only [Ab]
 rw [Ad hk,Zbq]
 cases h:ZdL v w with
 | false =>
  unfold ZdL at h
  rw [h]
  exact ⟨_,rfl⟩
 | true =>
  unfold ZdL at h
  rw [h]
  simp only [Bool.not_true,Bool.or_self,Bool.false_eq_true,if_false]
  rcases Pq (fun x:ByteArray × Vl=>Cb x.1 w) v.fields v.fields.length 0 (by omega) with q | ⟨i,hi,q,_⟩
  ·have:=Ns (fun x:ByteArray × Vl=>Cb x.1 w) v.fields
   rw [q,h] at this
   cases this
  ·rw [q,Az hi]
   simp only [Ab]
   have:=v.field_size _ (List.getElem_mem hi)
   rw [Rt n _ (by omega) (by omega)]
   exact ⟨_,rfl⟩
theorem ZbC (a b:ByteArray):Cb a b=Cb b a:=by rw [Bool.eq_iff_iff,Ei,Ei];exact eq_comm
def Zx (t:Ty) (k:Nat):Bool:=decide (t.min≤(k:Int))&&decide ((k:Int)≤t.max)
def ZcN (v:Vl) (x:TF):Bool:=(!ZdL v x.2.1)&&(!(decide (x.2.2.1=2)))
theorem Ty.small_elem {t x:Ty} (h:t.small) (hx:x∈t.elem):x.small:=by
 obtain ⟨g,f,e⟩:=h
 have a:=t.elem_size x hx
 have b:=t.depth_eq
 have c:=(NB t.elem (Ec t.elem)).1 (Nat.le_refl _) x hx
 have d:Ec t.elem≤Max.max (Ec t.elem) (CC t.fields):=Nat.le_max_left _ _
 exact ⟨by omega,by omega,(t.ok_eq.1 e).2.2.1 x hx⟩
theorem Ty.small_field {t:Ty} {p:TF} (h:t.small) (hx:p∈t.fields):p.2.2.2.1.small:=by
 obtain ⟨g,f,e⟩:=h
 have a:=t.field_size p hx
 have b:=t.depth_eq
 have c:=(LJ t.fields (CC t.fields)).1 (Nat.le_refl _) p hx
 have d:CC t.fields≤Max.max (Ec t.elem) (CC t.fields):=Nat.le_max_right _ _
 exact ⟨by omega,by omega,((t.ok_eq.1 e).2.2.2 p hx).2.1⟩
theorem GE {t x:Ty} (h:t.Good) (hx:x∈t.elem):x.Good:=by cases h with | mk _ a b c=>exact b x hx
theorem BD {t:Ty} {p:TF} (h:t.Good) (hx:p∈t.fields):p.2.2.2.1.Good:=by cases h with | mk _ a b c=>exact c p hx
theorem OO {t:Ty} (h:t.Good):Om t=0:=by cases h with | mk _ a b c=>exact a
theorem M7 {v:Vl} (h:v.Good):FR v=0:=by cases h with | mk _ a b=>exact a
theorem NS {v x:Vl} (h:v.Good) (hx:x∈BV v):x.Good:=by cases h with | mk _ a b=>exact b x hx
def Si (k:Int) (x:TF):Prop:=(1≤x.2.2.1∧x.2.2.1≤3)∧(k=10→x.2.2.1=1)∧(x.2.2.1=3→x.2.2.2.2.length=1)∧(x.2.2.1≠3→x.2.2.2.2.length=0)
theorem ZV {k:Int} {b:List TF} {x:TF} (h:HM k b x=0):Si k x:=by
 rw [HM] at h
 by_cases h1:E5 x.2.1=true
 rotate_left
 ·rw [Af h1] at h;exact absurd h (by decide)
 rw [Ae h1] at h
 by_cases h2:¬ (1≤x.1∧x.1≤9999)
 ·rw [Ae h2] at h;exact absurd h (by decide)
 rw [Af h2] at h
 by_cases h3:(b.any fun q=>DL q x)=true
 ·rw [Ae h3] at h;exact absurd h (by decide)
 rw [Af h3] at h
 by_cases h4:¬ (1≤x.2.2.1∧x.2.2.1≤3)∨(k=10∧x.2.2.1≠1)
 ·rw [Ae h4] at h;exact absurd h (by decide)
 rw [Af h4] at h
 by_cases h5:x.2.2.1=3∧x.2.2.2.2.length=0
 ·rw [Ae h5] at h;exact absurd h (by decide)
 rw [Af h5] at h
 by_cases h6:1<x.2.2.2.2.length∨(x.2.2.1≠3∧0<x.2.2.2.2.length)
 ·rw [Ae h6] at h;exact absurd h (by decide)
 unfold Si
 omega
theorem S3 {k:Int}:∀ (l b:List TF),Fe k b l=0→∀ x∈l,Si k x
 | [],_,_,x,hx=>by simp at hx
 | y::r,b,h,x,hx=>by
  rw [Fe] at h
  by_cases q:HM k b y=0
  ·rw [Ae q] at h
   rcases List.mem_cons.1 hx with rfl | hx
   ·exact ZV q
   ·exact S3 r _ h x hx
  ·rw [Af q] at h;exact absurd h q
theorem Zai {t:Ty} (h:¬ A7 t=true):(t.kind≠8→t.elem.length=0)∧(t.kind≠9→t.kind≠10→t.fields.length=0):=by
 refine ⟨fun k=>?_,fun a b=>?_⟩
 ·rcases Nat.eq_zero_or_pos t.elem.length with e | e
  ·exact e
  ·exfalso;apply h;rw [A7,Ac k,Ad (show 0<(t.elem.length:Int) by omega)];simp
 ·rcases Nat.eq_zero_or_pos t.fields.length with e | e
  ·exact e
  ·exfalso;apply h;rw [A7,Ac a,Ac b,Ad (show 0<(t.fields.length:Int) by omega)];simp
theorem KN {t:Ty} (h:Om t=0):¬ (t.kind<1∨10<t.kind)∧(t.kind≠8→t.elem.length=0)∧(t.kind=8→t.elem.length=1∧0≤t.min∧t.min≤256)∧(t.kind≠9→t.kind≠10→t.fields.length=0)∧(t.kind=10→0<t.fields.length)∧∀ x∈t.fields,Si t.kind x:=by
 obtain ⟨a,e,g⟩:=Rn h
 obtain ⟨d,b⟩:=Zai e
 rw [Om,Af a,Af e] at h
 by_cases h3:t.kind=4∧0<t.words.length
 ·have:=b (by omega) (by omega)
  have i:t.fields=[]:=List.length_eq_zero_iff.1 this
  exact ⟨a,d,by omega,b,by omega,by rw [i];simp⟩
 rw [Af h3] at h
 by_cases h4:((2≤t.kind∧t.kind≤8)∧CJ t (AL t.kind).1 (AL t.kind).2=false)∨¬ (0≤t.scale∧t.scale≤12)
 ·rw [Ae h4] at h;exact absurd h (by decide)
 rw [Af h4,Af g] at h
 by_cases h6:1<t.elem.length
 ·rw [Ae h6] at h;exact absurd h (by decide)
 rw [Af h6] at h
 by_cases h7:64<t.fields.length
 ·rw [Ae h7] at h;exact absurd h (by decide)
 rw [Af h7] at h
 refine ⟨a,d,fun j=>?_,b,by omega,S3 _ _ h⟩
 have c:CJ t (AL t.kind).1 (AL t.kind).2=true:=by
  cases q:CJ t (AL t.kind).1 (AL t.kind).2
  ·exact absurd (Or.inl ⟨by omega,q⟩) h4
  ·rfl
 have f:(AL t.kind)=(0,256):=by rw [j];rfl
 rw [f,CJ] at c
 simp only [Bool.and_eq_true,decide_eq_true_eq] at c
 omega
theorem Ty.fit_of {t:Ty} {n:Nat} (ht:t.small) (hn:t.size+2600000≤n):t.fit n:=by
 have h:=t.lens
 obtain ⟨g,_,a⟩:=ht
 obtain ⟨f,d,e,c⟩:=t.ok_eq.1 a
 exact ⟨by omega,by omega,by omega,by omega,by omega,by omega,d,fun p b=>(c p b).1⟩
theorem KU:∀ (k:Nat) (v:Vl) (lv:Nat),v.size≤k→(EQ lv v).length≤v.size
 | 0,v,lv,h=>absurd h (by have:=v.size_eq;omega)
 | k+1,v,lv,h=>by
  have c:=Zb7 v
  rw [Nw,List.length_cons,List.length_flatMap]
  have:((BV v).map fun x=>(EQ (lv+1) x).length).sum≤((BV v).map Vl.size).sum:=by
   have hall:∀ x∈BV v,(EQ (lv+1) x).length≤x.size:=fun x b=>KU k x (lv+1) (by have:=Jc b;omega)
   clear c
   generalize BV v=l at hall
   induction l with
   | nil=>simp
   | cons a r ih =>
    have:=hall a (List.mem_cons_self ..)
    have:=ih fun x b=>hall x (List.mem_cons_of_mem _ b)
    simp only [List.map_cons,List.sum_cons]
    omega
  omega
theorem Yf:∀ (l:List (Nat × Vl)) (c:Int),0≤c→c+l.length≤1000000000→Im l c=some (c+l.length)
 | [],c,_,_=>by rw [Im];simp
 | p::r,c,h1,h2=>by
  rw [List.length_cons] at h2
  rw [Im,Ae (by unfold BQ;omega),Yf r (c+1) (by omega) (by omega),List.length_cons]
  congr 1
  omega
theorem Vp (v:Vl) (hs:v.size≤1048576):M4 v=some ((EQ 1 v).length:Int):=by
 have:=KU v.size v 1 (Nat.le_refl _)
 rw [M4,Ae ⟨by have:=v.depth_size;omega,Hk _ v (Nat.le_refl _) (by omega)⟩,Yf _ 0 (by omega) (by omega)]
 congr 1
 omega
theorem Yh {s:ByteArray} (h:E5 s=true):s.size≤32:=by
 unfold E5 Zbo at h
 simp only [Bool.and_eq_true,decide_eq_true_eq] at h
 have:s.size=s.data.toList.length:=by simp
 omega
theorem ZbH {s:ByteArray} (h:Cb s ⟨#[]⟩=true):s.size=0:=by
 rw [Za1] at h;exact of_decide_eq_true h
theorem Zbd (k:Int):∀ (l b:List TF),Fe k b l=0→∀ x∈l,∃ b',HM k b' x=0
 | [],_,_,x,hx=>absurd hx (by simp)
 | y::r,b,h,x,hx=>by
  rw [Fe] at h
  by_cases q:HM k b y=0
  ·rw [Ae q] at h
   rcases List.mem_cons.1 hx with rfl | hx
   ·exact ⟨b,q⟩
   ·exact Zbd k r _ h x hx
  ·rw [Af q] at h;exact absurd h q
theorem YI {k:Int} {b:List TF} {x:TF} (h:HM k b x=0):E5 x.2.1=true∧(1≤x.1∧x.1≤9999)∧(1≤x.2.2.1∧x.2.2.1≤3)∧(k=10→x.2.2.1=1)∧(x.2.2.1=3→x.2.2.2.2.length=1)∧(x.2.2.1≠3→x.2.2.2.2=[]):=by
 unfold HM at h
 by_cases h1:E5 x.2.1=true
 ·rw [Ae h1] at h
  by_cases h2:¬ (1≤x.1∧x.1≤9999)
  ·rw [Ae h2] at h;exact absurd h (by decide)
  rw [Af h2] at h
  by_cases h3:(b.any fun q=>DL q x)=true
  ·rw [Ae h3] at h;exact absurd h (by decide)
  rw [Af h3] at h
  by_cases h4:¬ (1≤x.2.2.1∧x.2.2.1≤3)∨(k=10∧x.2.2.1≠1)
  ·rw [Ae h4] at h;exact absurd h (by decide)
  rw [Af h4] at h
  by_cases h5:x.2.2.1=3∧x.2.2.2.2.length=0
  ·rw [Ae h5] at h;exact absurd h (by decide)
  rw [Af h5] at h
  by_cases h6:1<x.2.2.2.2.length∨(x.2.2.1≠3∧0<x.2.2.2.2.length)
  ·rw [Ae h6] at h;exact absurd h (by decide)
  refine ⟨h1,by omega,by omega,by omega,by omega,fun q=>?_⟩
  have:x.2.2.2.2.length=0:=by omega
  exact List.length_eq_zero_iff.1 this
 ·rw [Af h1] at h;exact absurd h (by decide)
structure Ty.Own (t:Ty):Prop where
 kind:1≤t.kind∧t.kind≤10
 words:t.kind=4→0<t.words.length→t.min=0∧t.max=0∧t.words.length≤64∧ZaM none t.words=0
 nowords:t.kind≠4→t.words=[]
 noelem:t.kind≠8→t.elem=[]
 nofields:t.kind≠9→t.kind≠10→t.fields=[]
 noscale:t.kind≠3→t.scale=0
 nobounds:¬ (2≤t.kind∧t.kind≤8)→t.min=0∧t.max=0
 scale:0≤t.scale∧t.scale≤12
 bounds:(2≤t.kind∧t.kind≤8)→¬ (t.kind=4∧0<t.words.length)→(AL t.kind).1≤t.min∧t.max≤(AL t.kind).2∧t.min≤t.max
 elem:t.kind=8→∃ e,t.elem=[e]
 cases:t.kind=10→0<t.fields.length
 fields:t.fields.length≤64
 each:∀ x∈t.fields,E5 x.2.1=true∧(1≤x.1∧x.1≤9999)∧(1≤x.2.2.1∧x.2.2.1≤3)∧(t.kind=10→x.2.2.1=1)∧(x.2.2.1=3→x.2.2.2.2.length=1)∧(x.2.2.1≠3→x.2.2.2.2=[])
 apart:Fe t.kind [] t.fields=0
theorem Ty.own_of {t:Ty} (h:Om t=0):t.Own:=by
 have r:=Rn h
 obtain ⟨o,m,u⟩:=r
 simp only [A7,Bool.or_eq_true,Bool.and_eq_true,Bool.not_eq_true',Bool.and_eq_false_iff,decide_eq_false_iff_not,decide_eq_true_eq,not_or,not_and] at m
 obtain ⟨⟨⟨⟨l,g⟩,n⟩,j⟩,i⟩:=m
 have f:t.kind≠4→t.words=[]:=fun q=>List.length_eq_zero_iff.1 (by have:=n q;omega)
 have ne:t.kind≠8→t.elem=[]:=fun q=>List.length_eq_zero_iff.1 (by have:=j q;omega)
 have d:t.kind≠9→t.kind≠10→t.fields=[]:=fun q p=>List.length_eq_zero_iff.1 (by have:=i ⟨q,p⟩;omega)
 have c:t.kind≠3→t.scale=0:=fun q=>by
  have:=g q
  by_cases z:t.scale=0
  ·exact z
  ·exact absurd z this
 have k:¬ (2≤t.kind∧t.kind≤8)→t.min=0∧t.max=0:=fun q=>by
  have:=l (by omega)
  omega
 have s:=h
 rw [Om,Af o,Af (by
  intro q
  simp only [A7,Bool.or_eq_true,Bool.and_eq_true,Bool.not_eq_true',Bool.and_eq_false_iff,decide_eq_false_iff_not,decide_eq_true_eq] at q
  rcases q with (((q | q) | q) | q) | q
  ·have:=l q.1;have:=q.2;omega
  ·exact g q.1 q.2
  ·exact n q.1 q.2
  ·exact j q.1 q.2
  ·exact i q.1 q.2)] at h
 by_cases h3:t.kind=4∧0<t.words.length
 ·rw [Ae h3,M6] at h
  by_cases w1:t.min≠0∨t.max≠0
  ·rw [Ae w1] at h;exact absurd h (by decide)
  rw [Af w1] at h
  by_cases w2:64<t.words.length
  ·rw [Ae w2] at h;exact absurd h (by decide)
  rw [Af w2] at h
  have ef:t.fields=[]:=d (by omega) (by omega)
  exact { kind:=by omega,words:=fun _ _=>⟨by omega,by omega,by omega,h⟩,nowords:=f,noelem:=ne,nofields:=d,noscale:=c,nobounds:=k,scale:=by have:=c (by omega);omega,bounds:=fun _ q=>absurd h3 q,elem:=fun q=>by omega,cases:=fun q=>by omega,fields:=by rw [ef];simp,each:=fun x hx=>by rw [ef] at hx;simp at hx,apart:=by rw [ef];rfl }
 rw [Af h3] at h
 by_cases h4:((2≤t.kind∧t.kind≤8)∧CJ t (AL t.kind).1 (AL t.kind).2=false)∨¬ (0≤t.scale∧t.scale≤12)
 ·rw [Ae h4] at h;exact absurd h (by decide)
 rw [Af h4] at h
 by_cases h5:(t.kind=8∧t.elem.length=0)∨(t.kind=10∧t.fields.length=0)
 ·rw [Ae h5] at h;exact absurd h (by decide)
 rw [Af h5] at h
 by_cases h6:1<t.elem.length
 ·rw [Ae h6] at h;exact absurd h (by decide)
 rw [Af h6] at h
 by_cases h7:64<t.fields.length
 ·rw [Ae h7] at h;exact absurd h (by decide)
 rw [Af h7] at h
 refine { kind:=by omega,words:=fun a b=>absurd ⟨a,b⟩ h3,nowords:=f,noelem:=ne,nofields:=d,noscale:=c,nobounds:=k,scale:=by omega,bounds:=fun q _=>?_,elem:=fun q=>?_,cases:=fun q=>by omega,fields:=by omega,each:=fun x hx=>?_,apart:=h }
 ·have hb:CJ t (AL t.kind).1 (AL t.kind).2=true:=by
   cases hb:CJ t (AL t.kind).1 (AL t.kind).2 with
   | true=>rfl
   | false=>exact absurd (Or.inl ⟨q,hb⟩) h4
  unfold CJ at hb
  simp only [Bool.and_eq_true,decide_eq_true_eq] at hb
  exact ⟨hb.1.1,hb.1.2,hb.2⟩
 ·match he:t.elem with
  | []=>exact absurd (Or.inl ⟨q,by rw [he];rfl⟩) h5
  | [e]=>exact ⟨e,rfl⟩
  | _::_::_=>rw [he] at h6;simp at h6
 ·obtain ⟨v,hb⟩:=Zbd _ _ _ h x hx
  exact YI hb
theorem Ty.Good.own {t:Ty} (h:t.Good):t.Own:=Ty.own_of (OO h)
theorem Q5 {α:Type} (p:α→Bool) (l:List α):∀ (k j:Nat),j+k=l.length→(l.drop j).find? p=B7 l (Ob p l j)
 | 0,j,h=>by rw [LI p l j (by omega),List.drop_eq_nil_of_le (by omega)];rfl
 | k+1,j,h=>by
  have a:j<l.length:=by omega
  rw [JU p l j a,List.drop_eq_getElem_cons a,List.find?_cons]
  cases hp:p l[j] with
  | true=>rw [Ae rfl,Az a]
  | false=>rw [Af (by decide)];exact Q5 p l k (j+1) (by omega)
theorem UC {α:Type} (p:α→Bool) (l:List α):l.find? p=B7 l (Ob p l 0):=Q5 p l l.length 0 (by omega)
def B6 (t:Ty) (w:ByteArray):Option TF:=t.fields.find? fun x=>Cb x.2.1 w
theorem En {t:Ty} {w:ByteArray} {p:TF} (h:B6 t w=some p):p∈t.fields∧p.2.1=w:=⟨List.mem_of_find?_eq_some h,(Ei _ _).1 (List.find?_some (p:=fun x:TF=>Cb x.2.1 w) h)⟩
def L0:Nat→Ty→Vl→Bool
 | 0,_,_=>false
 | d+1,t,v =>
  if t.kind≠v.kind then false
  else if t.kind=2∨t.kind=6∨t.kind=7 then decide (t.min≤v.int)&&decide (v.int≤t.max)
  else if t.kind=3 then decide (v.scale=t.scale)&&(decide (t.min≤v.int)&&decide (v.int≤t.max))
  else if t.kind=4 then (t.words.any fun x=>Cb x v.text)||(decide ((t.words.length:Int)=0)&&Zx t v.text.size)
  else if t.kind=5 then Zx t v.text.size
  else if t.kind=8 then (v.list.all fun x=>t.elem.all fun e=>L0 d e x)&&Zx t v.list.length
  else if t.kind=10 then match B6 t v.text with
   | some p=>v.list.all fun x=>L0 d p.2.2.2.1 x
   | none=>false
  else if t.kind=9 then (v.fields.all fun q=>match B6 t q.1 with
   | some p=>L0 d p.2.2.2.1 q.2
   | none=>false) && !(t.fields.any (ZcN v))
  else true
theorem Ty.depth_elem {t x:Ty} (hx:x∈t.elem):x.depth<t.depth:=by
 have:=t.depth_eq
 have:=(NB t.elem (Ec t.elem)).1 (Nat.le_refl _) x hx
 omega
theorem Ty.depth_field {t:Ty} {p:TF} (hx:p∈t.fields):p.2.2.2.1.depth<t.depth:=by
 have:=t.depth_eq
 have:=(LJ t.fields (CC t.fields)).1 (Nat.le_refl _) p hx
 omega
theorem ZbX {v:Vl} (gv:v.Good) (vk:v.kind=10):∃ x,v.list=[x]:=by
 obtain ⟨_,a⟩:=Po (M7 gv)
 have q:=M7 gv
 rw [FR] at q
 by_cases p1:Ce v=true
 ·rw [Ae p1] at q;exact absurd q (by decide)
 rw [Af p1,Af (by omega),Af a,Af (by omega),Af (by omega),Af (by omega),Af (by omega),Af (by omega),Af (by omega),Af (by omega),Af (by omega),Af (by omega)] at q
 by_cases p2:E5 v.text=true
 ·rw [Ae p2] at q
  by_cases p3:v.list.length=0
  ·rw [Ae p3] at q;exact absurd q (by decide)
  rw [Af p3] at q
  by_cases p4:1<v.list.length
  ·rw [Ae p4] at q;exact absurd q (by decide)
  exact List.length_eq_one_iff.1 (by omega)
 ·rw [Af p2] at q;exact absurd q (by decide)
def Zkw (d:Nat) (t:Ty) (q:ByteArray × Vl):Bool:=match B6 t q.1 with
 | some p=>L0 d p.2.2.2.1 q.2
 | none=>false
inductive Ty.Fine:Nat→Ty→Prop
 | mk (d:Nat) (t:Ty) (own:Om t=0) (he:∀ x∈t.elem,Ty.Fine d x) (hf:∀ p∈t.fields,Ty.Fine d p.2.2.2.1) (hd:∀ p∈t.fields,∀ v∈p.2.2.2.2,L1 v=0∧L0 12 p.2.2.2.1 v=true):Ty.Fine (d+1) t
theorem Ty.Fine.depth:∀ (d:Nat) (t:Ty),t.Fine d→t.depth≤d
 | 0,t,h=>by cases h
 | d+1,t,h=>by
  cases h with
  | mk _ _ own he hf hd =>
   have c:=(NB t.elem d).2 fun x a=>Ty.Fine.depth d x (he x a)
   have b:=(LJ t.fields d).2 fun x a=>Ty.Fine.depth d _ (hf x a)
   have:=t.depth_eq
   omega
theorem QA:∀ a b:List UInt8,Op.bytesLess a b=decide (Wc a b<0)
 | [],[]=>rfl
 | _::_,[]=>rfl
 | [],_::_=>rfl
 | x::a,y::b=>by
  have ih:=QA a b
  simp only [Op.bytesLess,Wc,Lib.compareBytes] at *
  by_cases h1:x<y
  ·simp [h1]
  ·by_cases h2:y<x
   ·have:¬ x=y:=fun e=>by rw [e] at h2;exact UInt8.lt_irrefl _ h2
    simp [h1,h2,this]
   ·have:x=y:=by
     rw [UInt8.lt_iff_toNat_lt] at h1 h2
     exact UInt8.toNat.inj (by omega)
    subst this
    simp [h1,ih]
theorem ZaV (x y:ByteArray):WT x y=decide (ER x y<0):=QA _ _
theorem RG (x y:ByteArray):ER y x = - ER x y:=Q7 _ _
theorem I0 (x:ByteArray):ER x x=0:=Tv _
theorem Qr {x y z:ByteArray} (h1:ER x y<0) (h2:ER y z<0):ER x z<0:=(QL _ _ _ (Int.le_of_lt h1) (Int.le_of_lt h2)).2 (.inl h1)
def SS (l:List (ByteArray × Vl)):Prop:=l.Pairwise fun p q=>ER p.1 q.1<0
theorem Py:∀ (l m:List (ByteArray × Vl)),l.Perm m→SS l→SS m→l=m
 | [],m,h,_,_=>(List.nil_perm.1 h).symm▸rfl
 | p::l,[],h,_,_=>absurd h.length_eq (by simp)
 | p::l,q::m,h,h1,h2=>by
  obtain ⟨a1,a2⟩:=List.pairwise_cons.1 h1
  obtain ⟨a,b⟩:=List.pairwise_cons.1 h2
  have e:p=q:=by
   have hp:p∈q::m:=h.mem_iff.1 (List.mem_cons_self ..)
   have hq:q∈p::l:=h.mem_iff.2 (List.mem_cons_self ..)
   rcases List.mem_cons.1 hp with e | hp
   ·exact e
   rcases List.mem_cons.1 hq with e | hq
   ·exact e.symm
   have c:=a p hp
   have d:=a1 q hq
   have:=RG p.1 q.1
   omega
  subst e
  rw [Py l m ((List.perm_cons _).1 h) a2 b]
theorem T0 {α:Type} (d:α):∀ xs:List α,(List.range xs.length).map (fun i=>xs.getD i d)=xs:=fun xs=>by
 apply List.ext_getElem
 ·simp
 ·intro i b a
  simp [List.getD,List.getElem?_eq_getElem a]
theorem HZ (l:List (ByteArray × Vl)):(B5 l).Perm l:=by
 have h:=((Nc (fun i=>(l.getD i N8).1) l.length).1).map fun i=>l.getD i N8
 rw [T0] at h
 exact h
theorem OH (l:List (ByteArray × Vl)) (hd:(l.map Prod.fst).Nodup):SS (B5 l):=by
 have m:=HZ l
 have r:=Gt l
 have h:((B5 l).map Prod.fst).Nodup:=(m.map Prod.fst).nodup_iff.2 hd
 unfold SS
 rw [List.pairwise_iff_getElem]
 intro i j d c a
 have n:=(Nc (fun i=>(l.getD i N8).1) l.length).2 i j a (by omega)
 have f:(IQ (fun i=>(l.getD i N8).1) l.length).length=l.length:=Hm _ _
 have g:∀ k (e:k<(B5 l).length),(B5 l)[k].1=(l.getD ((IQ (fun i=>(l.getD i N8).1) l.length)[k]!) N8).1:=fun k e=>by
  have b:k<(IQ (fun i=>(l.getD i N8).1) l.length).length:=by omega
  rw [getElem!_pos _ k b]
  show ((MP Prod.fst N8 l)[k]'e).1=_
  simp only [MP,List.getElem_map]
 rw [g i d,g j c]
 have ne:(B5 l)[i].1≠(B5 l)[j].1:=by
  have:=List.pairwise_iff_getElem.1 h i j (by simpa using d) (by simpa using c) a
  simpa using this
 rw [g i d,g j c] at ne
 have o:=RG (l.getD ((IQ (fun i=>(l.getD i N8).1) l.length)[i]!) N8).1 (l.getD ((IQ (fun i=>(l.getD i N8).1) l.length)[j]!) N8).1
 have p:ER (l.getD ((IQ (fun i=>(l.getD i N8).1) l.length)[i]!) N8).1 (l.getD ((IQ (fun i=>(l.getD i N8).1) l.length)[j]!) N8).1≠0:=fun q=>ne ((KD _ _).1 q)
 change ¬ ER _ _<0 at n
 omega
theorem Zbm (n:Nat) (l:List (ByteArray × Vl)) (hl:l.length≤1000000) (hn:l.length<n) (hnul:∀ p∈l,Ce p.2=false) (hd:(l.map Prod.fst).Nodup):∀ (k m i:Nat),i+k=l.length→k<m→Ey n l m i (l.take i)=JQ n l
 | k,0,i,_,h=>absurd h (Nat.not_lt_zero _)
 | 0,m+1,i,hi,_=>by
  rw [Ey,As,Ac (by omega),List.take_of_length_le (by omega)]
  rfl
 | k+1,m+1,i,hi,hm=>by
  have a:i<l.length:=by omega
  have r:¬ (((l.length:Nat):Int)<(i:Int)+1):=by omega
  rw [Ey,As,Ad a]
  rw [Ae rfl,Az a,Ab]
  rw [Ae (Av (by omega)),Ae (by omega)]
  have f:((i:Int)+1).toNat=i+1:=by omega
  have d:Dt n (l.drop (i+1)) (fun b=>some (D4 b l[i]))=some false:=by
   rw [Dt,CL]
   have e:=Xt n (l.drop (i+1)) (fun b=>some (D4 b l[i])) (fun b=>D4 b l[i]) (fun _ _=>rfl) (by rw [List.length_drop];omega) (l.drop (i+1)).length n 0 (by omega) (by rw [List.length_drop];omega)
   have o:BN n (l.drop (i+1)) (fun b=>some (D4 b l[i])) n 0=_:=e
   rw [o,Ab,Ns]
   congr 1
   rw [List.any_eq_false]
   intro p g
   rw [D4]
   have ne:¬ Cb p.1 l[i].1=true:=by
    rw [Ei]
    intro q
    obtain ⟨j,c,rfl⟩:=List.mem_iff_getElem.1 g
    rw [List.length_drop] at c
    have:=List.pairwise_iff_getElem.1 hd i (i+1+j) (by simpa using a) (by simp;omega) (by omega)
    apply this
    simp only [List.getElem_map]
    rw [List.getElem_drop] at q
    exact q.symm
   simp [Bool.eq_false_iff.2 ne]
  rw [f,d,Ab,hnul _ (List.getElem_mem a)]
  rw [Ae (by rfl),Ae (by rw [List.length_take];omega),II,Ae (Av (by omega))]
  have e:l.take i++[l[i]]=l.take (i+1):=by rw [List.take_succ_eq_append_getElem a]
  rw [e]
  exact Zbm n l hl hn hnul hd k m (i+1) (by omega) (by omega)
theorem Zby {b:List (ByteArray × Vl)} (hb:SS b) (x:ByteArray × Vl) (hx:∀ p∈b,p.1≠x.1) {j:Nat} (h1:∀ p∈b.take j,ER p.1 x.1<0) (h2:∀ h:j<b.length,¬ ER b[j].1 x.1<0):SS (b.take j++[x]++b.drop j):=by
 unfold SS at *
 rw [List.append_assoc,List.singleton_append]
 have a:=hb
 rw [←List.take_append_drop j b] at a
 obtain ⟨i,c,f⟩:=List.pairwise_append.1 a
 have hd:∀ q∈b.drop j,ER x.1 q.1<0:=by
  by_cases hj:j<b.length
  ·have e:=List.drop_eq_getElem_cons hj
   rw [e] at c ⊢
   obtain ⟨k,n⟩:=List.pairwise_cons.1 c
   have g:ER x.1 b[j].1<0:=by
    have:=h2 hj
    have l:=RG b[j].1 x.1
    have m:ER b[j].1 x.1≠0:=fun q=>hx _ (List.getElem_mem hj) ((KD _ _).1 q)
    omega
   intro q hq
   rcases List.mem_cons.1 hq with rfl | hq
   ·exact g
   ·exact Qr g (k q hq)
  ·rw [List.drop_eq_nil_of_le (by omega)];simp
 refine List.pairwise_append.2 ⟨i,List.pairwise_cons.2 ⟨hd,c⟩,fun p d q hq=>?_⟩
 rcases List.mem_cons.1 hq with rfl | hq
 ·exact h1 p d
 ·exact f p d q hq
instance (k:IntKind) (n:Int):Decidable (inK k n):=by cases k<;>exact inferInstanceAs (Decidable (_∧_))
@[go_sem] theorem Zcv (n:Int):TZ (.val (.int .u8 n))=(0≤n∧n≤255):=rfl
@[go_sem] theorem ZgK:G3 []=(⟨#[]⟩:ByteArray):=rfl
@[go_sem] theorem ZfA (k:Nat):(∀ y∈List.replicate k (AV.val (.int .u8 0)),TZ y)↔True:=iff_true_intro fun y a=>by
 rw [List.eq_of_mem_replicate a,Zcv];omega
theorem Ty.Fine.own {d:Nat} {t:Ty} (h:t.Fine d):Om t=0:=by cases h with | mk _ _ a _ _ _=>exact a
theorem Ty.Fine.good:∀ {d:Nat} {t:Ty},t.Fine d→t.Good
 | 0,t,h=>by cases h
 | d+1,t,h=>by
  cases h with
  | mk _ _ own he hf hd=>exact .mk t own (fun x b=>(he x b).good) fun p a=>(hf p a).good
theorem Ty.Fine.elem {d:Nat} {t x:Ty} (h:t.Fine (d+1)) (hx:x∈t.elem):x.Fine d:=by cases h with | mk _ _ _ a _ _=>exact a x hx
theorem Ty.Fine.field {d:Nat} {t:Ty} {p:TF} (h:t.Fine (d+1)) (hx:p∈t.fields):p.2.2.2.1.Fine d:=by cases h with | mk _ _ _ _ a _=>exact a p hx
theorem Ty.Fine.dfl {d:Nat} {t:Ty} {p:TF} (h:t.Fine (d+1)) (hx:p∈t.fields):∀ v∈p.2.2.2.2,L1 v=0∧L0 12 p.2.2.2.1 v=true:=by cases h with | mk _ _ _ _ _ a=>exact a p hx
theorem Zco {v:Vl} (h:v.kind≠0):Ce v=false:=by
 rw [Ce,Ac h];simp
theorem ZaE {v:Vl} (h:v.Good):1≤v.kind∧v.kind≤10:=by
 have:=(Po (M7 h)).1
 omega
theorem MG (k:Int):∀ (l b:List TF),Fe k b l=0→(l.map fun p=>p.2.1).Nodup∧∀ p∈l,∀ q∈b,q.2.1≠p.2.1
 | [],_,_=>⟨.nil,by simp⟩
 | x::r,b,h=>by
  rw [Fe] at h
  by_cases q:HM k b x=0
  rotate_left
  ·rw [Af q] at h;exact absurd h q
  rw [Ae q] at h
  obtain ⟨f,c⟩:=MG k r (b++[x]) h
  have d:∀ y∈b,y.2.1≠x.2.1:=by
   intro y a e
   unfold HM at q
   by_cases c1:E5 x.2.1=true
   ·rw [Ae c1] at q
    by_cases c2:¬ (1≤x.1∧x.1≤9999)
    ·rw [Ae c2] at q;exact absurd q (by decide)
    rw [Af c2,Ae (List.any_eq_true.2 ⟨y,a,by rw [DL,(Ei _ _).2 e];simp⟩)] at q
    exact absurd q (by decide)
   ·rw [Af c1] at q;exact absurd q (by decide)
  refine ⟨List.nodup_cons.2 ⟨fun g=>?_,f⟩,fun p hp y a=>?_⟩
  ·obtain ⟨p,hp,e⟩:=List.mem_map.1 g
   exact c p hp x (by simp) e.symm
  ·rcases List.mem_cons.1 hp with rfl | hp
   ·exact d y a
   ·exact c p hp y (by simp [a])
theorem Qm (n:Nat) (t:Ty) (w:ByteArray) (hn:t.size+1450000≤n) (ht:t.small) (hk:t.kind=9∨t.kind=10):I2 n t w=some ((B6 t w).getD Nz,(B6 t w).isSome):=by
 have c:I2 n t w=(JO n t (fun x=>some (Cb x.2.1 w))).bind fun b=>some (b.1,b.2):=rfl
 have a:B6 t w=B7 t.fields (Ob (fun x:TF=>Cb x.2.1 w) t.fields 0):=UC _ _
 rw [c]
 rcases Zfu n t (fun x=>Cb x.2.1 w) hn ht with ⟨k1,k2,_⟩ | ⟨_,⟨q1,q2⟩ | ⟨j,hj,q1,q2⟩⟩
 ·omega
 ·rw [q2,a,q1];rfl
 ·rw [q2,a,q1,Az hj];rfl
theorem Zr (rec:Ty→Vl→Option Bool) (d n:Nat) (t:Ty) (v:Vl) (hn:t.size+1450000≤n) (hn2:v.size<n) (hs:v.size≤1000000000) (ht:t.small) (tk:t.kind=9) (vk:v.kind=9)
  (hr:∀ p∈t.fields,∀ q∈v.fields,rec p.2.2.2.1 q.2=some (L0 d p.2.2.2.1 q.2)):∀ (k m i:Nat),i+k=v.fields.length→k<m→Ir rec n t v m i=some ((v.fields.drop i).all (Zkw d t) && !(t.fields.any (ZcN v)))
 | k,0,i,_,h=>absurd h (Nat.not_lt_zero _)
 | 0,m+1,i,hi,_=>by
  have g:=t.lens.2
  have b:=ht.1
  have e:=Kp n t.fields (fun x=>KC n x v) (ZcN v) (fun x _=>by
   obtain ⟨u,f⟩:=ZbY n v x.2.1 vk hs hn2
   rw [KC,f];rfl) (by omega) (by omega)
  rw [Ir,As,Ac (by omega),Af (by decide),Pg,e,List.drop_eq_nil_of_le (by omega),List.all_nil,Bool.true_and];rfl
 | k+1,m+1,i,hi,hm=>by
  have a:i<v.fields.length:=by omega
  have j:=Pl v
  have ih:=Zr rec d n t v hn hn2 hs ht tk vk hr k m (i+1) (by omega) (by omega)
  rw [Ir,As,Ad a,Ae rfl,Az a,Ab,Qm n t _ hn ht (.inl tk),Ab,List.drop_eq_getElem_cons a,List.all_cons,Zkw]
  cases c:B6 t v.fields[i].1 with
  | none=>rw [Ae (by rfl)];rfl
  | some p =>
   rw [Af (by simp),Option.getD_some,hr _ (En c).1 _ (List.getElem_mem a),Ab]
   simp only
   cases L0 d p.2.2.2.1 v.fields[i].2 with
   | false=>rfl
   | true =>
    rw [Af (by decide),Ae (Av (by omega)),Bool.true_and]
    exact ih
theorem TN:∀ (n d:Nat) (t:Ty) (v:Vl),t.size+1500000≤n→v.size+1500000≤n→v.size≤1000000000→t.small→t.Good→v.Good→t.depth≤d→Jm n t v=some (L0 d t v)
 | 0,d,t,v,h,_,_,_,_,_,_=>by omega
 | n+1,0,t,v,_,_,_,_,_,_,hd=>by have:=t.depth_eq;omega
 | n+1,d+1,t,v,h1,h2,h3,ht,gt,gv,hd=>by
  obtain ⟨C,z,J⟩:=Rn (OO gt)
  obtain ⟨_,F⟩:=Po (M7 gv)
  have K:=t.lens
  have G:=ht.1
  have H:=It v
  have E:=(t.ok_eq.1 ht.2.2).1
  rw [Jm,TK,L0]
  by_cases hk:v.kind=t.kind
  rotate_left
  ·rw [Ac hk,Ae (fun q=>hk q.symm)];rfl
  rw [Ad hk,Af (show ¬ (t.kind≠v.kind) from fun q=>q hk.symm)]
  simp only [Bool.not_true,Bool.false_eq_true,if_false]
  have i:t.kind≠3→v.scale=t.scale:=fun q=>by rw [Ty.scale0 z q,Vl.scale0 F (by rw [hk];exact q)]
  rcases H7 C with tk | tk | tk | tk | tk | tk | tk | tk | tk | tk
  ·simp [tk,Du,QN]
  ·have q:=i (by omega);simp [tk,Du,q]
  ·simp [tk,Du,Bool.and_comm]
  ·have r:=QJ n t.words v.text (by omega) (by omega)
   have m:(t.words.any fun x=>Cb v.text x)=t.words.any fun x=>Cb x v.text:=by congr 1;funext x;exact ZbC _ _
   rw [Ac (show ¬ t.kind=2 by omega),Ac (show ¬ t.kind=6 by omega),Ac (show ¬ t.kind=7 by omega),Ac (show ¬ t.kind=3 by omega)]
   simp only [Bool.false_eq_true,if_false]
   rw [Du,Af (by decide),Ad tk,Ae rfl,Af (show ¬ (t.kind=2∨t.kind=6∨t.kind=7) by omega),Af (show ¬ t.kind=3 by omega),Ae tk]
   by_cases E:0<t.words.length
   ·rw [Ae (Ad (by omega)),r,m,Ac (show ¬ (t.words.length:Int)=0 by omega)]
    simp
   ·rw [Af (by rw [decide_eq_true_eq];omega),Ad (show (t.words.length:Int)=0 by omega)]
    have s:t.words=[]:=List.length_eq_zero_iff.1 (by omega)
    rw [s]
    rfl
  ·simp [tk,Du,Zx]
  ·have q:=i (by omega);simp [tk,Du,q]
  ·have q:=i (by omega);simp [tk,Du,q]
  ·obtain ⟨e,o⟩:=gt.own.elem tk
   have f:e∈t.elem:=by rw [o];simp
   have l:B7 t.elem 0=some e:=by rw [o];rfl
   have r:=X2 n v.list (fun x=>KE (Jm n) x t) (fun x => !L0 d e x) (fun x j=>by
    have a:=t.elem_size _ f
    have b:=v.list_size x j
    have c:=Ty.depth_elem f
    rw [KE,l,Ab,TN n d e x (by omega) (by omega) (by omega) (Ty.small_elem ht f) (GE gt f) (NS gv (by rw [BV,Ae (.inl (by omega))];exact j)) (by omega)];rfl) (by omega) (by omega)
   have m:(v.list.all fun x=>t.elem.all fun e=>L0 d e x)=v.list.all fun x=>L0 d e x:=by
    congr 1;funext x;rw [o];simp
   rw [m]
   simp only [tk,Du]
   simp only [show decide ((8:Int)=2)=false from rfl,show decide ((8:Int)=6)=false from rfl,show decide ((8:Int)=7)=false from rfl,show decide ((8:Int)=3)=false from rfl,show decide ((8:Int)=4)=false from rfl,show decide ((8:Int)=5)=false from rfl,decide_true,Bool.false_eq_true,if_false,if_true]
   rw [r]
   unfold Zx
   cases hr:decide (t.min≤(v.list.length:Int))&&decide ((v.list.length:Int)≤t.max) with
   | false=>simp
   | true =>
    simp only [if_true,Ab,Bool.and_true]
    rw [List.not_any_eq_all_not]
    simp
  ·have u:=Zr (Jm n) d n t v (by omega) (by omega) h3 ht tk (by omega) (fun p g q w=>by
     have a:=t.field_size p g
     have b:=v.field_size q w
     have c:=Ty.depth_field g
     exact TN n d _ _ (by omega) (by omega) (by omega) (Ty.small_field ht g) (BD gt g) (NS gv (by rw [BV,Af (by omega),Ae (by omega)];exact List.mem_map_of_mem w)) (by omega)) v.fields.length n 0 (by omega) (by omega)
   rw [List.drop_zero] at u
   have k:Ir (Jm n) n t v n 0=_:=u
   simp only [tk,Du]
   simp only [show decide ((9:Int)=2)=false from rfl,show decide ((9:Int)=6)=false from rfl,show decide ((9:Int)=7)=false from rfl,show decide ((9:Int)=3)=false from rfl,show decide ((9:Int)=4)=false from rfl,show decide ((9:Int)=5)=false from rfl,show decide ((9:Int)=8)=false from rfl,show decide ((9:Int)=10)=false from rfl,decide_true,Bool.false_eq_true,if_false,if_true]
   exact k
  ·have y:v.kind=10:=by omega
   obtain ⟨x,j⟩:=ZbX gv y
   have e:Du (Jm n) n t v false=some (match B6 t v.text with
    | some p=>v.list.all fun x=>L0 d p.2.2.2.1 x
    | none=>false):=by
    simp only [Du,tk,Qm n t _ (show t.size+1450000≤n by omega) ht (.inr tk),Ab]
    simp only [show decide ((10:Int)=4)=false from rfl,show decide ((10:Int)=5)=false from rfl,show decide ((10:Int)=8)=false from rfl,decide_true,Bool.false_eq_true,if_false,if_true]
    cases c:B6 t v.text with
    | none=>rfl
    | some p =>
     have g:=(En c).1
     have a:=t.field_size _ g
     have b:=v.list_size x (by rw [j];simp)
     have c:=Ty.depth_field g
     have D:=TN n d p.2.2.2.1 x (by omega) (by omega) (by omega) (Ty.small_field ht g) (BD gt g) (NS gv (by rw [BV,Ae (.inr y),j];simp)) (by omega)
     rw [j,Ae (by rfl),show B7 [x] 0=some x from rfl,Ab]
     simp [D]
   simp only [tk]
   exact e
theorem Zbt (n:Nat) (t:Ty) (v:Vl) (h1:t.size+1500000≤n) (h2:v.size+1500000≤n) (h3:v.size<1048576) (ht:t.small) (hv:v.ok) (gt:t.Good):JM n t v=some (decide (L1 v=0)&&L0 12 t v):=by
 rw [JM,Wa n v (by omega) h3 hv,Ab]
 by_cases h:L1 v=0
 ·rw [Ad h,Ae rfl,TN n 12 t v h1 h2 (by omega) ht gt (OR h) ht.2.1];rfl
 ·rw [Ac h,Af (by decide)];rfl
def Zba (P:Prop) (left:Int) (o:Option (Int × Int)):Prop:=∃ e l,o=some (e,l)∧(e=0→0≤l∧l≤left∧P)
theorem Zbl (r:Ty→Int→Int→Option (Int × Int)) (n D:Nat) (t:Ty) (lv:Int) (hlv:0≤lv∧lv≤9) (hn:t.size+2600000≤n) (ht:t.small) (hk:t.kind=9∨t.kind=10) (hg:∀ x∈t.fields,Si t.kind x)
  (hr:∀ p∈t.fields,∀ left,0≤left→left≤4096→Zba (p.2.2.2.1.Fine D) left (r p.2.2.2.1 (lv+1) left)):∀ (k m i:Nat) (left:Int),i+k=t.fields.length→k<m→0≤left→left≤4096 →
  Zba (∀ p∈t.fields.drop i,p.2.2.2.1.Fine D∧∀ v∈p.2.2.2.2,L1 v=0∧L0 12 p.2.2.2.1 v=true) left (Bv r n t lv (t.fields.map fun p=>p.2.2.2.1) m i left)
 | k,0,i,_,_,h,_,_=>absurd h (Nat.not_lt_zero _)
 | 0,m+1,i,left,hi,_,h1,h2=>by
  rw [Bv,As,Ac (show ¬ i<(t.fields.map fun p=>p.2.2.2.1).length by rw [List.length_map];omega)]
  refine ⟨0,left,rfl,fun _=>⟨h1,Int.le_refl _,?_⟩⟩
  rw [List.drop_eq_nil_of_le (by omega)];simp
 | k+1,m+1,i,left,hi,hm,h1,h2=>by
  have d:i<t.fields.length:=by omega
  have c:=List.getElem_mem d
  have K:=ht.1
  have hl:=t.lens
  have f:i<(t.fields.map fun p=>p.2.2.2.1).length:=by rw [List.length_map];exact d
  rw [Bv,As,Ad f]
  simp only [if_true,Az f,Az d,Ab,List.getElem_map]
  rw [Ae (by unfold BQ;omega)]
  obtain ⟨e,l,E,s⟩:=hr _ c left h1 h2
  rw [E,Ab]
  by_cases h0:e=0
  rotate_left
  ·rw [Ac h0]
   exact ⟨e,l,rfl,fun q=>absurd q h0⟩
  obtain ⟨N,Y,o⟩:=s h0
  rw [Ad h0]
  simp only [Bool.not_true,Bool.false_eq_true,if_false]
  rw [Ae (Av (by omega))]
  obtain ⟨C,J,G,z⟩:=Zbl r n D t lv hlv hn ht hk hg hr k m (i+1) l (by omega) (by omega) N (by omega)
  have fin:(∀ v∈t.fields[i].2.2.2.2,L1 v=0∧L0 12 t.fields[i].2.2.2.1 v=true)→Zba (∀ p∈t.fields.drop i,p.2.2.2.1.Fine D∧∀ v∈p.2.2.2.2,L1 v=0∧L0 12 p.2.2.2.1 v=true) left (Bv r n t lv (t.fields.map fun p=>p.2.2.2.1) m ((i:Int)+1) l):=fun hd=>by
   refine ⟨C,J,G,fun q=>?_⟩
   obtain ⟨F,U,O⟩:=z q
   refine ⟨F,by omega,fun x hx=>?_⟩
   rw [List.drop_eq_getElem_cons d] at hx
   rcases List.mem_cons.1 hx with rfl | hx
   ·exact ⟨o,hd⟩
   ·exact O x hx
  obtain ⟨g1,g2,g3,g4⟩:=hg _ c
  by_cases n3:t.fields[i].2.2.1=3
  ·have u:t.kind=9:=by
    rcases hk with hk | hk
    ·exact hk
    ·have:=g2 hk;omega
   obtain ⟨v,hv⟩:=List.length_eq_one_iff.1 (g3 n3)
   have j:B7 t.fields[i].2.2.2.2 0=some v:=by rw [hv];rfl
   obtain ⟨_,o2,Q,y⟩:=(t.ok_eq.1 ht.2.2).2.2.2 _ c
   obtain ⟨V,Z,H⟩:=y v (by rw [hv];simp)
   have a:=t.field_size _ c
   have g:=Zbt n t.fields[i].2.2.2.1 v (by omega) (by omega) (by omega) (Ty.small_field ht c) H o.good
   rw [Ad u,Ad n3]
   simp only [if_true,j,Ab,g]
   cases b:decide (L1 v=0)&&L0 12 t.fields[i].2.2.2.1 v with
   | false=>exact ⟨18,l,rfl,fun q=>absurd q (by decide)⟩
   | true =>
    rw [Bool.and_eq_true,decide_eq_true_eq] at b
    exact fin fun w hw=>by rw [hv,List.mem_singleton] at hw;subst hw;exact b
  ·have hd:t.fields[i].2.2.2.2=[]:=List.length_eq_zero_iff.1 (g4 n3)
   rw [Ac n3]
   simp only [Bool.false_eq_true,if_false,ite_self]
   exact fin fun w hw=>by rw [hd] at hw;simp at hw
theorem NT:∀ (n D:Nat) (t:Ty) (lv left:Int),t.size+2600001≤n→t.small→lv=9-(D:Int)→0≤lv→0≤left→left≤4096→Zba (t.Fine D) left (GB n t lv left)
 | 0,D,t,_,_,h,_,_,_,_,_=>by omega
 | n+1,D,t,lv,left,h,ht,hD,l1,h1,h2=>by
  have J:=t.lens
  have F:=ht.1
  have c:=Ty.fit_of ht (show t.size+2600000≤n by omega)
  rw [GB,MY]
  by_cases c1:left=0
  ·rw [Ad c1]
   exact ⟨9,left,rfl,fun q=>absurd q (by decide)⟩
  rw [Ac c1]
  simp only [Bool.false_eq_true,if_false]
  have w:BQ (left-1):=by unfold BQ;omega
  by_cases c2:8<lv
  ·rw [Ad c2]
   exact ⟨23,left,rfl,fun q=>absurd q (by decide)⟩
  obtain ⟨d,rfl⟩:∃ d,D=d+1:=⟨D-1,by omega⟩
  rw [Ac c2]
  simp only [Bool.false_eq_true,if_false,Ae w]
  rw [Zbn n t c,Ab]
  by_cases c3:Om t=0
  rotate_left
  ·rw [Ac c3]
   exact ⟨Om t,left-1,rfl,fun q=>absurd q c3⟩
  obtain ⟨H,C,x,o,K,z⟩:=KN c3
  rw [Ad c3]
  simp only [Bool.not_true,Bool.false_eq_true,if_false]
  rw [We n t (by omega) (by omega),Ab]
  by_cases k8:t.kind=8
  ·obtain ⟨u,_,_⟩:=x k8
   obtain ⟨e,he⟩:∃ e,t.elem=[e]:=List.length_eq_one_iff.1 u
   have s:e∈t.elem:=by rw [he];simp
   have v:=t.elem_size e s
   obtain ⟨n',rfl⟩:∃ k,n=k+2:=⟨n-2,by omega⟩
   obtain ⟨g,i,m,j⟩:=NT (n'+2) d e (lv+1) (left-1) (by omega) (Ty.small_elem ht s) (by omega) (by omega) (by omega) (by omega)
   have hf0:t.fields=[]:=List.length_eq_zero_iff.1 (o (by omega) (by omega))
   have l:BQ (lv+1):=by unfold BQ;omega
   rw [RX,Ae k8,he,Bv,Ae (by simp),show B7 [e] 0=some e from rfl,Ab,Ae l,m,Ab]
   by_cases c4:g=0
   ·obtain ⟨f,E,w4⟩:=j c4
    subst c4
    rw [Ac (show ¬ t.kind=9 by omega)]
    simp only [decide_true,Bool.not_true,Bool.false_eq_true,if_false]
    rw [Ae (by decide),Bv,Af (by simp)]
    refine ⟨0,i,rfl,fun _=>⟨f,by omega,?_⟩⟩
    exact .mk d t c3 (fun y hy=>by rw [he,List.mem_singleton] at hy;subst hy;exact w4) (fun y hy=>by rw [hf0] at hy;simp at hy) (fun y hy=>by rw [hf0] at hy;simp at hy)
   ·rw [Ac c4]
    exact ⟨g,i,rfl,fun q=>absurd q c4⟩
  ·rw [RX,Af k8]
   have b:t.elem=[]:=List.length_eq_zero_iff.1 (C k8)
   by_cases k9:t.kind=9∨t.kind=10
   ·rw [Ae k9]
    obtain ⟨g,i,m,j⟩:=Zbl (GB n) n d t lv ⟨l1,by omega⟩ (by omega) ht k9 z (fun p r a G f=>by
     have:=t.field_size p r
     exact NT n d p.2.2.2.1 (lv+1) a (by omega) (Ty.small_field ht r) (by omega) (by omega) G f) t.fields.length n 0 (left-1) (by omega) (by omega) (by omega) (by omega)
    refine ⟨g,i,m,fun q=>?_⟩
    obtain ⟨f,E,w4⟩:=j q
    rw [List.drop_zero] at w4
    exact ⟨f,by omega,.mk d t c3 (fun y hy=>by rw [b] at hy;simp at hy) (fun y hy=>(w4 y hy).1) (fun y hy=>(w4 y hy).2)⟩
   ·rw [Af k9]
    have hf0:t.fields=[]:=List.length_eq_zero_iff.1 (o (by omega) (by omega))
    obtain ⟨n',rfl⟩:∃ k,n=k+1:=⟨n-1,by omega⟩
    rw [Bv,Af (by simp)]
    exact ⟨0,left-1,rfl,fun _=>⟨by omega,by omega,.mk d t c3 (fun y hy=>by rw [b] at hy;simp at hy) (fun y hy=>by rw [hf0] at hy;simp at hy) (fun y hy=>by rw [hf0] at hy;simp at hy)⟩⟩
theorem ZdG {c:Int} (h:1≤c):1≤(if 4097<c then 4097 else c)∧(if 4097<c then 4097 else c)≤4097:=by split<;>omega
theorem QD:∀ (n:Nat) (t:Ty),t.size+10≤n→t.small→t.Good→∃ a,Ax n t=some a∧1≤a∧a≤4097
 | 0,t,h,_,_=>by omega
 | n+1,t,h,ht,gt=>by
  have Z:=t.lens
  have G:=ht.1
  obtain ⟨N,Y,D,Q,F,E⟩:=KN (OO gt)
  rw [Ax,HL]
  by_cases k8:t.kind=8
  ·obtain ⟨O,U,J⟩:=D k8
   have o:B7 t.elem 0=some t.elem[0]:=Az (k:=0) (by omega)
   rw [Ad k8,Ae rfl]
   by_cases l:0<t.min
   ·have f:=List.getElem_mem (show 0<t.elem.length by omega)
    have:=t.elem_size _ f
    obtain ⟨a,g,v,w⟩:=QD n t.elem[0] (by omega) (Ty.small_elem ht f) (GE gt f)
    have y:0≤t.min*a:=Int.mul_nonneg (by omega) (by omega)
    have p:0≤(256-t.min)*a:=Int.mul_nonneg (by omega) (by omega)
    rw [Int.sub_mul] at p
    rw [Ad l,Ae rfl,o,Ab,g,Ab,Ae (by unfold BQ;omega),Ae (by unfold BQ;omega)]
    exact ⟨_,rfl,ZdG (by omega)⟩
   ·rw [Ac l,Af (by decide)]
    exact ⟨_,rfl,ZdG (by omega)⟩
  rw [Ac k8,Af (by decide)]
  by_cases k10:t.kind=10
  ·have x:=F k10
   have d:=List.getElem_mem x
   have:=t.field_size _ d
   obtain ⟨a,g,v,w⟩:=QD n t.fields[0].2.2.2.1 (by omega) (Ty.small_field ht d) (BD gt d)
   rw [Ad k10,Ae rfl,show B7 t.fields 0=some t.fields[0] from Az (k:=0) x,Ab,g,Ab,Ae (by unfold BQ;omega)]
   exact ⟨_,rfl,ZdG (by omega)⟩
  rw [Ac k10,Af (by decide)]
  by_cases k9:t.kind=9
  ·rw [Ad k9,Ae rfl]
   have j:∀ (k m i:Nat) (a:Int),i+k=t.fields.length→k<m→1≤a→a≤2000000*(i+1)→∃ a',Bd (Ax n) n t m a i=some a'∧1≤a'∧a'≤4097:=by
    intro k
    induction k with
    | zero =>
     intro m i a z l r _
     obtain ⟨m,rfl⟩:∃ q,m=q+1:=⟨m-1,by omega⟩
     rw [Bd,As,Ac (show ¬ i<t.fields.length by omega)]
     exact ⟨_,rfl,ZdG r⟩
    | succ k ih =>
     intro m i a z l r h3
     obtain ⟨m,rfl⟩:∃ q,m=q+1:=⟨m-1,by omega⟩
     have e:i<t.fields.length:=by omega
     have b:=List.getElem_mem e
     have a1:=t.field_size _ b
     have u:∀ c:Int,1≤c→c≤2000000*((i:Int)+1+1)→∃ a',Dj (Ax n) n (Bd (Ax n) n t m) i c=some a'∧1≤a'∧a'≤4097:=fun c y p=>by
      rw [Dj,Ae (Av (by omega))]
      exact ih m (i+1) c (by omega) (by omega) y (by push_cast;exact p)
     rw [Bd,As,Ad e,Ae rfl,Az e,Ab]
     by_cases n1:t.fields[i].2.2.1=1
     ·obtain ⟨c,g,v,w⟩:=QD n t.fields[i].2.2.2.1 (by omega) (Ty.small_field ht b) (BD gt b)
      rw [Ad n1,Ae rfl,g,Ab,Ae (by unfold BQ;omega)]
      exact u _ (by omega) (by omega)
     rw [Ac n1,Af (by decide)]
     by_cases n3:t.fields[i].2.2.1=3
     ·have hd:=(E _ b).2.2.1 n3
      have s:B7 t.fields[i].2.2.2.2 0=some t.fields[i].2.2.2.2[0]:=Az (k:=0) (by omega)
      obtain ⟨_,o2,H,C⟩:=(t.ok_eq.1 ht.2.2).2.2.2 _ b
      obtain ⟨K,V,v3⟩:=C _ (List.getElem_mem (show 0<t.fields[i].2.2.2.2.length by omega))
      have hp:=KU _ t.fields[i].2.2.2.2[0] 1 (Nat.le_refl _)
      rw [Ad n3,Ae rfl,s,Ab,Vp _ (by omega),Ab,Ae (by unfold BQ;omega)]
      exact u _ (by omega) (by omega)
     ·rw [Ac n3,Af (by decide)]
      exact u a r (by omega)
   exact j t.fields.length n 0 1 (by omega) (by omega) (by decide) (by decide)
  ·rw [Ac k9,Af (by decide)]
   exact ⟨_,rfl,ZdG (by omega)⟩
theorem TA:∀ (n:Nat) (t:Ty),t.size+11≤n→t.small→t.Good→∃ a,AZ n t=some a
 | 0,t,h,_,_=>by omega
 | n+1,t,h,ht,gt=>by
  have r:=t.lens
  have o:=ht.1
  obtain ⟨a,l,_,_⟩:=QD n t (by omega) ht gt
  have f:∀ (k m i:Nat) (a:Int),i+k=t.fields.length→k<m→∃ a',BK (AZ n) n t m a i=some a':=by
   intro k
   induction k with
   | zero =>
    intro m i a j g
    obtain ⟨m,rfl⟩:∃ q,m=q+1:=⟨m-1,by omega⟩
    rw [BK,As,Ac (show ¬ i<t.fields.length by omega)]
    exact ⟨_,rfl⟩
   | succ k ih =>
    intro m i a j g
    obtain ⟨m,rfl⟩:∃ q,m=q+1:=⟨m-1,by omega⟩
    have d:i<t.fields.length:=by omega
    have b:=List.getElem_mem d
    have a1:=t.field_size _ b
    obtain ⟨c,e⟩:=TA n t.fields[i].2.2.2.1 (by omega) (Ty.small_field ht b) (BD gt b)
    rw [BK,As,Ad d,Ae rfl,Az d,Ab,e,Ab,Ae (Av (by omega))]
    exact ih m (i+1) _ (by omega) (by omega)
  have p:∀ (k m i:Nat) (a:Int),i+k=t.elem.length→k<m→∃ a',CX (AZ n) n t m a i=some a':=by
   intro k
   induction k with
   | zero =>
    intro m i a j g
    obtain ⟨m,rfl⟩:∃ q,m=q+1:=⟨m-1,by omega⟩
    rw [CX,As,Ac (show ¬ i<t.elem.length by omega)]
    exact f t.fields.length n 0 a (by omega) (by omega)
   | succ k ih =>
    intro m i a j g
    obtain ⟨m,rfl⟩:∃ q,m=q+1:=⟨m-1,by omega⟩
    have d:i<t.elem.length:=by omega
    have b:=List.getElem_mem d
    have a1:=t.elem_size _ b
    obtain ⟨c,e⟩:=TA n t.elem[i] (by omega) (Ty.small_elem ht b) (GE gt b)
    rw [CX,As,Ad d,Ae rfl,Az d,Ab,e,Ab,Ae (Av (by omega))]
    exact ih m (i+1) _ (by omega) (by omega)
  rw [AZ,FO,l,Ab]
  exact p t.elem.length n 0 a (by omega) (by omega)
theorem YT (n:Nat) (t:Ty) (hn:3000000≤n) (ht:t.small):∃ c,EG n t=some c∧(c=0→t.Fine 8):=by
 have f:=ht.1
 obtain ⟨e,l,i,d⟩:=NT n 8 t 1 4096 (by omega) ht (by decide) (by decide) (by decide) (by decide)
 rw [EG,i,Ab]
 by_cases h:e=0
 ·obtain ⟨_,_,g⟩:=d h
  obtain ⟨a,b⟩:=TA n t (by omega) ht g.good
  rw [Ad h,Af (by decide),b,Ab]
  by_cases c:4096<a
  ·rw [Ad c]
   exact ⟨9,rfl,fun q=>absurd q (by decide)⟩
  ·rw [Ac c]
   exact ⟨0,rfl,fun _=>g⟩
 ·rw [Ac h]
  exact ⟨e,rfl,fun q=>absurd q h⟩
theorem Zz (r:Ty→Int→Int→Option (Int × Int)) (n D:Nat) (t:Ty) (lv:Int) (hlv:0≤lv∧lv≤9) (hn:t.size+2600000≤n) (ht:t.small) (hk:t.kind=9∨t.kind=10) (hg:∀ x∈t.fields,Si t.kind x)
  (hf:∀ p∈t.fields,p.2.2.2.1.Fine D∧∀ v∈p.2.2.2.2,L1 v=0∧L0 12 p.2.2.2.1 v=true)
  (hr:∀ p∈t.fields,∀ left:Int,(p.2.2.2.1.size:Int)≤left→left≤4096→r p.2.2.2.1 (lv+1) left=some (0,left-(p.2.2.2.1.size:Int))):∀ (k m i:Nat) (left:Int),i+k=t.fields.length→k<m→(B9 (t.fields.drop i):Int)≤left→left≤4096 →
  Bv r n t lv (t.fields.map fun p=>p.2.2.2.1) m i left=some (0,left-(B9 (t.fields.drop i):Int))
 | k,0,i,_,_,h,_,_=>absurd h (Nat.not_lt_zero _)
 | 0,m+1,i,left,hi,_,h1,h2=>by
  rw [Bv,As,Ac (show ¬ i<(t.fields.map fun p=>p.2.2.2.1).length by rw [List.length_map];omega),Af (by decide),Ip,List.drop_eq_nil_of_le (by omega)]
  simp [B9]
 | k+1,m+1,i,left,hi,hm,h1,h2=>by
  have d:i<t.fields.length:=by omega
  have c:=List.getElem_mem d
  have l:=ht.1
  have F:=t.lens
  have f:=Nj t.fields i d
  have e:i<(t.fields.map fun p=>p.2.2.2.1).length:=by rw [List.length_map];exact d
  rw [Bv,As,Ad e]
  simp only [if_true,Az e,Az d,Ab,List.getElem_map]
  rw [Ae (by unfold BQ;omega),hr _ c left (by omega) h2,Ab]
  simp only [decide_true,Bool.not_true,Bool.false_eq_true,if_false]
  rw [Ae (Av (by omega))]
  have ih:Bv r n t lv (t.fields.map fun p=>p.2.2.2.1) m ((i:Int)+1) (left-(t.fields[i].2.2.2.1.size:Int))=_:=Zz r n D t lv hlv hn ht hk hg hf hr k m (i+1) (left-(t.fields[i].2.2.2.1.size:Int)) (by omega) (by omega) (by omega) (by omega)
  rw [ih]
  have fin:some ((0:Int),left-(t.fields[i].2.2.2.1.size:Int)-(B9 (t.fields.drop (i+1)):Int))=some (0,left-(B9 (t.fields.drop i):Int)):=by
   rw [f,Int.natCast_add,Int.sub_sub]
  obtain ⟨g1,g2,g3,g4⟩:=hg _ c
  obtain ⟨o,u⟩:=hf _ c
  by_cases n3:t.fields[i].2.2.1=3
  ·have q:t.kind=9:=by
    rcases hk with hk | hk
    ·exact hk
    ·have:=g2 hk;omega
   obtain ⟨v,hv⟩:=List.length_eq_one_iff.1 (g3 n3)
   have j:B7 t.fields[i].2.2.2.2 0=some v:=by rw [hv];rfl
   obtain ⟨_,C,z,s⟩:=(t.ok_eq.1 ht.2.2).2.2.2 _ c
   obtain ⟨y,E,w⟩:=s v (by rw [hv];simp)
   have a:=t.field_size _ c
   have g:=Zbt n t.fields[i].2.2.2.1 v (by omega) (by omega) (by omega) (Ty.small_field ht c) w o.good
   have b:(decide (L1 v=0)&&L0 12 t.fields[i].2.2.2.1 v)=true:=by
    have:=u v (by rw [hv];simp)
    rw [Ad this.1,this.2];rfl
   rw [Ad q,Ad n3]
   simp only [if_true,j,Ab,g,b,Bool.not_true,Bool.false_eq_true,if_false]
   exact fin
  ·rw [Ac n3]
   simp only [Bool.false_eq_true,if_false,ite_self]
   exact fin
theorem NK:∀ (n D:Nat) (t:Ty) (lv left:Int),t.size+2600001≤n→t.small→t.Fine D→lv=9-(D:Int)→0≤lv→(t.size:Int)≤left→left≤4096→GB n t lv left=some (0,left-(t.size:Int))
 | 0,D,t,_,_,h,_,_,_,_,_,_=>by omega
 | n+1,D,t,lv,left,h,ht,hF,hD,l1,h1,h2=>by
  have F:=t.lens
  have z:=ht.1
  have j:=Ty.fit_of ht (show t.size+2600000≤n by omega)
  have f:=t.size_eq
  cases hF with
  | mk d _ own he hf hd =>
  obtain ⟨E,y,w,q,G,x⟩:=KN own
  rw [GB,MY,Ac (show ¬ left=0 by omega)]
  simp only [Bool.false_eq_true,if_false]
  have v:BQ (left-1):=by unfold BQ;omega
  rw [Ac (show ¬ 8<lv by omega)]
  simp only [Bool.false_eq_true,if_false,Ae v]
  rw [Zbn n t j,Ab,Ad own]
  simp only [Bool.not_true,Bool.false_eq_true,if_false]
  rw [We n t (by omega) (by omega),Ab]
  by_cases k8:t.kind=8
  ·obtain ⟨s,_,_⟩:=w k8
   obtain ⟨e,hx⟩:∃ e,t.elem=[e]:=List.length_eq_one_iff.1 s
   have m:e∈t.elem:=by rw [hx];simp
   have u:=t.elem_size e m
   have c:t.fields=[]:=List.length_eq_zero_iff.1 (q (by omega) (by omega))
   have a:t.size=1+e.size:=by rw [f,hx,c];simp [FI,B9]
   have l:BQ (lv+1):=by unfold BQ;omega
   obtain ⟨n',rfl⟩:∃ k,n=k+2:=⟨n-2,by omega⟩
   rw [RX,Ae k8,hx,Bv,Ae (by simp),show B7 [e] 0=some e from rfl,Ab,Ae l,NK (n'+2) d e (lv+1) (left-1) (by omega) (Ty.small_elem ht m) (he e m) (by omega) (by omega) (by omega) (by omega),Ab]
   rw [Ac (show ¬ t.kind=9 by omega)]
   simp only [decide_true,Bool.not_true,Bool.false_eq_true,if_false]
   rw [Ae (by decide),Bv,Af (by simp),Ip,a,Int.natCast_add,Int.sub_sub]
   rfl
  ·rw [RX,Af k8]
   have i:t.elem=[]:=List.length_eq_zero_iff.1 (y k8)
   by_cases k9:t.kind=9∨t.kind=10
   ·have a:t.size=1+B9 t.fields:=by rw [f,i];simp [FI]
    rw [Ae k9]
    have o:=Zz (GB n) n d t lv ⟨l1,by omega⟩ (by omega) ht k9 x (fun p g=>⟨hf p g,hd p g⟩) (fun p g b C r=>by
     have:=t.field_size p g
     exact NK n d p.2.2.2.1 (lv+1) b (by omega) (Ty.small_field ht g) (hf p g) (by omega) (by omega) C r) t.fields.length n 0 (left-1) (by omega) (by omega) (by rw [List.drop_zero];omega) (by omega)
    rw [List.drop_zero] at o
    refine o.trans ?_
    rw [a,Int.natCast_add,Int.sub_sub]
    rfl
   ·rw [Af k9]
    have c:t.fields=[]:=List.length_eq_zero_iff.1 (q (by omega) (by omega))
    have a:t.size=1:=by rw [f,i,c];simp [FI,B9]
    obtain ⟨n',rfl⟩:∃ k,n=k+1:=⟨n-1,by omega⟩
    rw [Bv,Af (by simp),Ip,a]
    rfl
def YG (c:Int):Int:=if 4097<c then 4097 else c
def mxL (a b:Int):Int:=if a<b then b else a
def WC (r:Ty→Option Int) (p:TF):Int:=if p.2.2.1=1 then (r p.2.2.2.1).getD 0 else if p.2.2.1=3 then (match p.2.2.2.2 with | v::_=>((EQ 1 v).length:Int) | []=>0) else 0
theorem ZcK (n:Nat) (t:Ty) (h:t.size+10≤n+1) (ht:t.small) (gt:t.Good) (k9:t.kind=9):Ax (n+1) t=some (YG (1+(t.fields.map (WC (Ax n))).sum))∧∀ p∈t.fields,0≤WC (Ax n) p:=by
 have V:=t.lens
 have E:=ht.1
 obtain ⟨K,U,Q,O,Y,r⟩:=KN (OO gt)
 have g:∀ p∈t.fields,(p.2.2.1=1→Ax n p.2.2.2.1=some (WC (Ax n) p))∧0≤WC (Ax n) p∧WC (Ax n) p≤2000000:=fun p f=>by
  have a1:=t.field_size _ f
  rw [WC]
  by_cases n1:p.2.2.1=1
  ·obtain ⟨c,y,H,J⟩:=QD n p.2.2.2.1 (by omega) (Ty.small_field ht f) (BD gt f)
   rw [Ae n1,y]
   exact ⟨fun _=>rfl,by show 0≤c;omega,by show c≤_;omega⟩
  rw [Af n1]
  by_cases n3:p.2.2.1=3
  ·obtain ⟨v,hv⟩:=List.length_eq_one_iff.1 ((r _ f).2.2.1 n3)
   obtain ⟨_,C,s,o⟩:=(t.ok_eq.1 ht.2.2).2.2.2 _ f
   obtain ⟨w,z,D⟩:=o v (by rw [hv];simp)
   have f:=KU _ v 1 (Nat.le_refl _)
   rw [Ae n3,hv]
   exact ⟨fun q=>absurd q n1,by show (0:Int)≤((EQ 1 v).length:Int);omega,by show ((EQ 1 v).length:Int)≤_;omega⟩
  ·rw [Af n3]
   exact ⟨fun q=>absurd q n1,by omega,by omega⟩
 refine ⟨?_,fun p f=>(g p f).2.1⟩
 have j:∀ (k m i:Nat) (a:Int),i+k=t.fields.length→k<m→1≤a→a≤2000000*(i+1)→Bd (Ax n) n t m a i=some (YG (a+((t.fields.drop i).map (WC (Ax n))).sum)):=by
  intro k
  induction k with
  | zero =>
   intro m i a u F x _
   obtain ⟨m,rfl⟩:∃ q,m=q+1:=⟨m-1,by omega⟩
   rw [Bd,As,Ac (show ¬ i<t.fields.length by omega),Af (by decide),List.drop_eq_nil_of_le (by omega),List.map_nil,List.sum_nil,Int.add_zero];rfl
  | succ k ih =>
   intro m i a u F x Z
   obtain ⟨m,rfl⟩:∃ q,m=q+1:=⟨m-1,by omega⟩
   have d:i<t.fields.length:=by omega
   have b:=List.getElem_mem d
   obtain ⟨G,t2,N⟩:=g _ b
   have l:Dj (Ax n) n (Bd (Ax n) n t m) i (a+WC (Ax n) t.fields[i])=some (YG (a+((t.fields.drop i).map (WC (Ax n))).sum)):=by
    rw [Dj,Ae (Av (by omega)),List.drop_eq_getElem_cons d,List.map_cons,List.sum_cons,←Int.add_assoc]
    exact ih m (i+1) _ (by omega) (by omega) (by omega) (by push_cast;omega)
   rw [Bd,As,Ad d,Ae rfl,Az d,Ab]
   by_cases n1:t.fields[i].2.2.1=1
   ·rw [Ad n1,Ae rfl,G n1,Ab,Ae (by unfold BQ;omega)]
    exact l
   rw [Ac n1,Af (by decide)]
   by_cases n3:t.fields[i].2.2.1=3
   ·obtain ⟨v,hv⟩:=List.length_eq_one_iff.1 ((r _ b).2.2.1 n3)
    obtain ⟨_,C,s,o⟩:=(t.ok_eq.1 ht.2.2).2.2.2 _ b
    obtain ⟨w,z,D⟩:=o v (by rw [hv];simp)
    have f:=KU _ v 1 (Nat.le_refl _)
    have e:WC (Ax n) t.fields[i]=((EQ 1 v).length:Int):=by rw [WC,Af n1,Ae n3,hv]
    rw [Ad n3,Ae rfl,hv,show B7 [v] 0=some v from rfl,Ab,Vp _ (by omega),Ab,←e,Ae (by unfold BQ;omega)]
    exact l
   ·have e:WC (Ax n) t.fields[i]=0:=by rw [WC,Af n1,Af n3]
    rw [e,Int.add_zero] at l
    rw [Ac n3,Af (by decide)]
    exact l
 have:=j t.fields.length n 0 1 (by omega) (by omega) (by decide) (by decide)
 rw [List.drop_zero] at this
 rw [Ax,HL,Ac (show ¬ t.kind=8 by omega),Af (by decide),Ac (show ¬ t.kind=10 by omega),Af (by decide),Ad k9,Ae rfl]
 exact this
theorem Zdn (n:Nat) (t:Ty) (h:t.size+11≤n+1) (ht:t.small) (gt:t.Good) (k9:t.kind=9) (a:Int) (ha:Ax n t=some a):AZ (n+1) t=some (t.fields.foldl (fun a p=>mxL a ((AZ n p.2.2.2.1).getD 0)) a):=by
 have y:=t.lens
 have l:=ht.1
 obtain ⟨u,j,w,v,s,x⟩:=KN (OO gt)
 have e:t.elem=[]:=List.length_eq_zero_iff.1 (j (by omega))
 have f:∀ (k m i:Nat) (a:Int),i+k=t.fields.length→k<m→BK (AZ n) n t m a i=some ((t.fields.drop i).foldl (fun a p=>mxL a ((AZ n p.2.2.2.1).getD 0)) a):=by
  intro k
  induction k with
  | zero =>
   intro m i a r o
   obtain ⟨m,rfl⟩:∃ q,m=q+1:=⟨m-1,by omega⟩
   rw [BK,As,Ac (show ¬ i<t.fields.length by omega),Af (by decide),List.drop_eq_nil_of_le (by omega)];rfl
  | succ k ih =>
   intro m i a r o
   obtain ⟨m,rfl⟩:∃ q,m=q+1:=⟨m-1,by omega⟩
   have d:i<t.fields.length:=by omega
   have b:=List.getElem_mem d
   have a1:=t.field_size _ b
   obtain ⟨c,g⟩:=TA n t.fields[i].2.2.2.1 (by omega) (Ty.small_field ht b) (BD gt b)
   rw [BK,As,Ad d,Ae rfl,Az d,Ab,g,Ab,Ae (Av (by omega)),List.drop_eq_getElem_cons d,List.foldl_cons,g]
   exact ih m (i+1) _ (by omega) (by omega)
 obtain ⟨m,rfl⟩:∃ m,n=m+1:=⟨n-1,by omega⟩
 rw [AZ,FO,ha,Ab,CX,e,Af (by simp),GQ]
 have:=f t.fields.length (m+1) 0 a (by omega) (by omega)
 rw [List.drop_zero] at this
 exact this
def Ko (rec:Ty→Option Int) (n:Nat)  (b:Int):Option Int :=
 if BQ (b+1) then
  some (b+1)
 else none
def Gn (rec:Ty→Option Int) (n:Nat) (q:Ty):Nat→Int→Int→Option Int
 | 0,_,_=>none
 | m+1,g,b =>
  if decide (b<(q.fields.length:Int)) then
   (B7 q.fields b).bind fun s =>
   (rec s.2.2.2.1).bind fun h =>
   if BQ (b+1) then
    (Gn rec n q m) ((if g<h then h else g)) (b+1)
   else none
  else
   Ko rec n g
def LE (rec:Ty→Option Int) (n:Nat) (g:Ty) (b:Int):Option Int :=
 Gn rec n g n b 0
def G6 (rec:Ty→Option Int) (n:Nat) (q:Ty):Nat→Int→Int→Option Int
 | 0,_,_=>none
 | m+1,g,b =>
  if decide (b<(q.elem.length:Int)) then
   (B7 q.elem b).bind fun s =>
   (rec s).bind fun h =>
   if BQ (b+1) then
    (G6 rec n q m) ((if g<h then h else g)) (b+1)
   else none
  else
   LE rec n q g
def NC (rec:Ty→Option Int) (n:Nat) (b:Ty):Option Int :=
 G6 rec n b n 0 0
def HV:Nat→Ty→Option Int
 | 0,_=>none
 | n+1,b=>NC (HV n) n b
def PY (w0:World) (F:Ty→Option Int):Prop:=∀ (B:List (List AV)) (Rw:List RowA) (L:List LoopA) (b:Ty) (r:Int),F b=some r→ACalls Tryz.prog w0 74 [.agg (b.cs)] ⟨B,Rw,L⟩ fun x st=>x = .val (.int .i64 r)∧st=⟨B,Rw,L⟩
theorem VS (w0:World) (rec:Ty→Option Int) (ih:PY w0 rec) (n:Nat):PY w0 (NC rec n):=by
 intro B Rw L a0 r h
 rw [NC] at h
 refine hd [.tmp 2] Tryz.func74 Tryz.ntmps74 fun M0 W0 D k l d V j hs=>?_
 simp only [Au]
 refine rg [1] hs ?_
 refine rg [1,3] hs ?_
 refine Aw (fun e st=>∃ (i:Int),Ck e st B Rw L [(1,true,.box B.length 0),(3,true,.val (.int .i64 i))] [a0.cs] [] (LE rec n a0 i=some r)) ?_ ?_
 ·intro K5 G
  refine rg [1,3,4] hs ?_
  apply Ak
  refine AC (fun m e st=>∃ (b:Int) (g:Int),Ck e st B Rw L [(1,true,.box B.length 0),(3,true,.val (.int .i64 b)),(4,true,.val (.int .i64 g))] [a0.cs] [] (G6 rec n a0 m b g=some r)) n ⟨0,0,([]),Rw,ef hs,ef hs,j,h⟩ ?_
  rintro ml7 e st ⟨b,g,Xl7,Rl7,rfl,rfl,j,h⟩ Ul7 Vl7
  cases ml7 with
  | zero=>cases h
  | succ ml7 =>
  rw [G6] at h
  refine td D k l d j ?_
  apply Ah;intro K8 w
  refine rg [1,3,4,10] hs ?_
  refine AN h hs (fun hs h=>?_) (fun hs h=>?_)
  rotate_left
  ·refine sx [1,3] hs G ?_
   exact ⟨b,([]),Rl7,ef hs,ef hs,j,h⟩
  refine sk [1,3,4] hs w ?_
  clear w
  apply Ah;intro K11 o
  apply Ak
  obtain ⟨J,K,E,t,h⟩:=ix HF h
  obtain ⟨y,C,h⟩:=bind_some h
  have hs:=Aa t hs
  refine rk 2 [1,3,4] hs ?_
  refine Ai _ (ih _ _ _ J _ C) (hv hs) ?_
  refine ne hs o ?_
  clear o
  obtain ⟨O,h⟩:=Aj h
  refine rl [1,3,4] hs (fun e s=>Vl7 ml7 e s (Nat.lt_succ_self _)) ?_
  exact ⟨((if b<y then y else b)),(g+1),([]),Rl7,ef hs,ef hs,j,h⟩
 ·clear h;rintro e st ⟨i,Xk4,Rk4,rfl,rfl,j,h⟩
  rw [LE] at h
  refine td D k l d j ?_
  refine Aw (fun e st=>∃ (f:Int),Ck e st B Rw L [(3,true,.val (.int .i64 f))] [a0.cs] [] (Ko rec n f=some r)) ?_ ?_
  ·intro K17 x
   refine rg [1,3,5] hs ?_
   apply Ak
   refine AC (fun m e st=>∃ (a:Int) (c:Int),Ck e st B Rw L [(1,true,.box B.length 0),(3,true,.val (.int .i64 a)),(5,true,.val (.int .i64 c))] [a0.cs] [] (Gn rec n a0 m a c=some r)) n ⟨i,0,([]),Rk4,ef hs,ef hs,j,h⟩ ?_
   rintro ml19 e st ⟨a,c,Xl19,Rl19,rfl,rfl,j,h⟩ Ul19 Vl19
   cases ml19 with
   | zero=>cases h
   | succ ml19 =>
   rw [Gn] at h
   refine td D k l d j ?_
   apply Ah;intro K20 q
   refine rg [1,3,5,25] hs ?_
   refine AN h hs (fun hs h=>?_) (fun hs h=>?_)
   rotate_left
   ·refine sx [3] hs x ?_
    exact ⟨a,([]),Rl19,ef hs,ef hs,j,h⟩
   refine sk [1,3,5] hs q ?_
   clear q
   apply Ah;intro K23 p
   apply Ak
   obtain ⟨H,N,F,u,h⟩:=ix Cm h
   obtain ⟨z,v,h⟩:=bind_some h
   have hs:=Aa u hs
   refine rk 2 [1,3,5] hs ?_
   refine Ai _ (ih _ _ _ H.2.2.2.1 _ v) (hv hs) ?_
   refine ne hs p ?_
   clear p
   obtain ⟨Q,h⟩:=Aj h
   refine rl [1,3,5] hs (fun e s=>Vl19 ml19 e s (Nat.lt_succ_self _)) ?_
   exact ⟨((if a<z then z else a)),(c+1),([]),Rl19,ef hs,ef hs,j,h⟩
  ·clear h;rintro e st ⟨f,Xk16,Rk16,rfl,rfl,j,h⟩
   rw [Ko] at h
   refine td D k l d j ?_
   obtain ⟨U,h⟩:=Aj h
   refine rg [2] hs ?_
   exact rt h hs d j
theorem ON (w0:World):∀ n:Nat,PY w0 (HV n)
 | 0=>fun _ _ _ _ _ h=>(nomatch h)
 | n+1=>VS w0 (HV n) (ON w0 n) n
def On (rec:Ty→Option Int) (n:Nat)  (b:Int):Option Int :=
 some (b)
def Ha (rec:Ty→Option Int) (n:Nat) (q:Ty):Nat→Int→Int→Option Int
 | 0,_,_=>none
 | m+1,g,b =>
  if decide (b<(q.fields.length:Int)) then
   (B7 q.fields b).bind fun s =>
   (rec s.2.2.2.1).bind fun h =>
   if BQ (g+h) then
    if BQ (b+1) then
     (Ha rec n q m) (g+h) (b+1)
    else none
   else none
  else
   On rec n g
def P3 (rec:Ty→Option Int) (n:Nat) (g:Ty) (b:Int):Option Int :=
 Ha rec n g n b 0
def H8 (rec:Ty→Option Int) (n:Nat) (q:Ty):Nat→Int→Int→Option Int
 | 0,_,_=>none
 | m+1,g,b =>
  if decide (b<(q.elem.length:Int)) then
   (B7 q.elem b).bind fun s =>
   (rec s).bind fun h =>
   if BQ (g+h) then
    if BQ (b+1) then
     (H8 rec n q m) (g+h) (b+1)
    else none
   else none
  else
   P3 rec n q g
def O1 (rec:Ty→Option Int) (n:Nat) (b:Ty):Option Int :=
 H8 rec n b n 1 0
def I1:Nat→Ty→Option Int
 | 0,_=>none
 | n+1,b=>O1 (I1 n) n b
def RV (w0:World) (F:Ty→Option Int):Prop:=∀ (B:List (List AV)) (Rw:List RowA) (L:List LoopA) (b:Ty) (r:Int),F b=some r→ACalls Tryz.prog w0 75 [.agg (b.cs)] ⟨B,Rw,L⟩ fun x st=>x = .val (.int .i64 r)∧st=⟨B,Rw,L⟩
theorem Xc (w0:World) (rec:Ty→Option Int) (ih:RV w0 rec) (n:Nat):RV w0 (O1 rec n):=by
 intro B Rw L a0 r h
 rw [O1] at h
 refine hd [.tmp 2] Tryz.func75 Tryz.ntmps75 fun M0 W0 z k l c Y j hs=>?_
 simp only [Au]
 refine rg [1] hs ?_
 refine rg [1,3] hs ?_
 refine Aw (fun e st=>∃ (g:Int),Ck e st B Rw L [(1,true,.box B.length 0),(3,true,.val (.int .i64 g))] [a0.cs] [] (P3 rec n a0 g=some r)) ?_ ?_
 ·intro K5 E
  refine rg [1,3,4] hs ?_
  apply Ak
  refine AC (fun m e st=>∃ (d:Int) (f:Int),Ck e st B Rw L [(1,true,.box B.length 0),(3,true,.val (.int .i64 d)),(4,true,.val (.int .i64 f))] [a0.cs] [] (H8 rec n a0 m d f=some r)) n ⟨1,0,([]),Rw,ef hs,ef hs,j,h⟩ ?_
  rintro ml7 e st ⟨d,f,Xl7,Rl7,rfl,rfl,j,h⟩ Ul7 Vl7
  cases ml7 with
  | zero=>cases h
  | succ ml7 =>
  rw [H8] at h
  refine td z k l c j ?_
  apply Ah;intro K8 v
  refine rg [1,3,4,10] hs ?_
  refine AN h hs (fun hs h=>?_) (fun hs h=>?_)
  rotate_left
  ·refine sx [1,3] hs E ?_
   exact ⟨d,([]),Rl7,ef hs,ef hs,j,h⟩
  refine sk [1,3,4] hs v ?_
  clear v
  apply Ah;intro K11 o
  apply Ak
  obtain ⟨K,N,C,u,h⟩:=ix HF h
  obtain ⟨G,y,h⟩:=bind_some h
  obtain ⟨O,h⟩:=Aj h
  have hs:=Aa u hs
  refine rk 2 [1,3,4] hs ?_
  refine Ai _ (ih _ _ _ K _ y) (hv hs) ?_
  refine ne hs o ?_
  clear o
  obtain ⟨Q,h⟩:=Aj h
  refine rl [1,3,4] hs (fun e s=>Vl7 ml7 e s (Nat.lt_succ_self _)) ?_
  exact ⟨(d+G),(f+1),([]),Rl7,ef hs,ef hs,j,h⟩
 ·clear h;rintro e st ⟨g,Xk4,Rk4,rfl,rfl,j,h⟩
  rw [P3] at h
  refine td z k l c j ?_
  refine Aw (fun e st=>∃ (i:Int),Ck e st B Rw L [(3,true,.val (.int .i64 i))] [a0.cs] [] (On rec n i=some r)) ?_ ?_
  ·intro K18 w
   refine rg [1,3,5] hs ?_
   apply Ak
   refine AC (fun m e st=>∃ (a:Int) (b:Int),Ck e st B Rw L [(1,true,.box B.length 0),(3,true,.val (.int .i64 a)),(5,true,.val (.int .i64 b))] [a0.cs] [] (Ha rec n a0 m a b=some r)) n ⟨g,0,([]),Rk4,ef hs,ef hs,j,h⟩ ?_
   rintro ml20 e st ⟨a,b,Xl20,Rl20,rfl,rfl,j,h⟩ Ul20 Vl20
   cases ml20 with
   | zero=>cases h
   | succ ml20 =>
   rw [Ha] at h
   refine td z k l c j ?_
   apply Ah;intro K21 q
   refine rg [1,3,5,25] hs ?_
   refine AN h hs (fun hs h=>?_) (fun hs h=>?_)
   rotate_left
   ·refine sx [3] hs w ?_
    exact ⟨a,([]),Rl20,ef hs,ef hs,j,h⟩
   refine sk [1,3,5] hs q ?_
   clear q
   apply Ah;intro K24 p
   apply Ak
   obtain ⟨H,D,F,t,h⟩:=ix Cm h
   obtain ⟨J,x,h⟩:=bind_some h
   obtain ⟨U,h⟩:=Aj h
   have hs:=Aa t hs
   refine rk 2 [1,3,5] hs ?_
   refine Ai _ (ih _ _ _ H.2.2.2.1 _ x) (hv hs) ?_
   refine ne hs p ?_
   clear p
   obtain ⟨V,h⟩:=Aj h
   refine rl [1,3,5] hs (fun e s=>Vl20 ml20 e s (Nat.lt_succ_self _)) ?_
   exact ⟨(a+J),(b+1),([]),Rl20,ef hs,ef hs,j,h⟩
  ·clear h;rintro e st ⟨i,Xk17,Rk17,rfl,rfl,j,h⟩
   rw [On] at h
   refine td z k l c j ?_
   refine rg [2] hs ?_
   exact rt h hs c j
theorem Vg (w0:World):∀ n:Nat,RV w0 (I1 n)
 | 0=>fun _ _ _ _ _ h=>(nomatch h)
 | n+1=>Xc w0 (I1 n) (Vg w0 n) n
def La (n:Nat) (b:Ty):Option Bool :=
 (HV n b).bind fun h =>
 if decide (h≤10) then
  (I1 n b).bind fun g =>
  some (decide (g≤60))
 else
  some (false)
theorem Ou (w0:World) (n:Nat) (B:List (List AV)) (Rw:List RowA) (L:List LoopA) (a0:Ty) (r:Bool) (h:La n a0=some r) :
  ACalls Tryz.prog w0 27 [.agg (a0.cs)] ⟨B,Rw,L⟩ fun x st=>x = .val (.bool r)∧st=⟨B,Rw,L⟩:=by
 rw [La] at h
 refine hd [.tmp 2] Tryz.func27 Tryz.ntmps27 fun M0 W0 l g f a k e hs=>?_
 simp only [Au]
 refine rg [1] hs ?_
 apply Ah;intro K2 b
 obtain ⟨i,c,h⟩:=bind_some h
 rcases Bool.eq_false_or_eq_true (decide (i≤10)) with hf4 | hf4
 ·replace h:=Ba h hf4
  obtain ⟨j,d,h⟩:=bind_some h
  have hs:=Aa hf4 hs
  refine rk 3 [2] hs ?_
  refine Ai _ (ON w0 n _ _ _ a0 _ c) (hv hs) ?_
  refine nc hs ?_
  refine Ai _ (Vg w0 n _ _ _ a0 _ d) (hv hs) ?_
  refine ne hs b ?_
  clear b
  exact rt h hs a e
 ·replace h:=A9 h hf4
  have hs:=Aa hf4 hs
  refine rk 3 [2] hs ?_
  refine Ai _ (ON w0 n _ _ _ a0 _ c) (hv hs) ?_
  refine nc hs ?_
  refine AD ?_
  refine ne hs b ?_
  clear b
  exact rt h hs a e
theorem LP {B:List (List AV)} {l:Nat} {cs:List AV} (h:B[l]? = some cs) (i:Nat):∀ (X:List (List AV)) (c c':List AV),(B.set i c++X).set l c'=(B.set i c).set l c'++X:=fun X c c'=>List.set_append_left _ _ (by rw [List.length_set];exact (Ag.1 h).1)
theorem Aq {B:List (List AV)} {l:Nat} {c:List AV} (h:B[l]? = some c):B.set l c=B:=by
 apply List.ext_getElem?
 intro i
 by_cases q:l=i
 ·subst q
  rw [List.getElem?_set_self (Ag.1 h).1,h]
 ·rw [List.getElem?_set_ne q]
@[go_sem] theorem Zkp:Gu Tryz.prog 119=none:=by kernel_rfl
@[go_sem] theorem Zl2:Gu Tryz.prog 69=none:=by kernel_rfl
@[go_sem] theorem ZhA:I9 Tryz.prog 249=false:=by kernel_rfl
@[go_sem] theorem ZeT (xs ys:List AV):OC Tryz.prog .eql 106 xs ys=(obK [(none,true),(some .i64,false)] xs ys,OD xs ys):=ZbJ (by kernel_rfl) xs ys
@[go_sem] theorem Zh7:Fh Tryz.prog 122 0=some (0,1,false):=by kernel_rfl
@[go_sem] theorem Zhy:Fh Tryz.prog 122 1=some (1,1,false):=by kernel_rfl
@[go_sem] theorem ZjI:NH Tryz.prog 249=some .u64:=by kernel_rfl
@[go_sem] theorem Zhe:D9 Tryz.prog 119=some [(0,1),(1,1)]:=by kernel_rfl
@[go_sem] theorem Zk0:EL Tryz.prog 249=false:=by kernel_rfl
@[go_sem] theorem ZlV:IW Tryz.prog 106=some (2,true):=by kernel_rfl
@[go_sem] theorem Zln:IW Tryz.prog 120=some (1,false):=by kernel_rfl
@[go_sem] theorem Zld:IW Tryz.prog 249=some (1,false):=by kernel_rfl
@[go_sem] theorem Zjx:C5 Tryz.prog 119=some [.val (.string ⟨#[]⟩),.val (.int .i64 0)]:=by kernel_rfl
@[go_sem] theorem Zjb:C5 Tryz.prog 249=some [.val (.int .u64 0)]:=by kernel_rfl
def HU  : List (Nat × Vl)→Int→Option Int
 | [],b1_r6 =>
  some (b1_r6)
 | p_r6::rest,b1_r6 =>
  (HU  rest) ((if b1_r6<(p_r6.1:Int) then (p_r6.1:Int) else b1_r6))
def O5 (b:Vl):Option Int :=
 if b.depth<4611686018427387904∧b.wide=true then
  HU  (EQ 1 b) 0
 else none
theorem TU (w0:World) (B:List (List AV)) (Rw:List RowA) (L:List LoopA) (a0:Vl) (r:Int) (h:O5 a0=some r) :
  ACalls Tryz.prog w0 76 [.agg (a0.cs)] ⟨B,Rw,L⟩ fun x st=>x = .val (.int .i64 r)∧st=⟨B,Rw,L⟩:=by
 rw [O5] at h
 refine hd [.tmp 2] Tryz.func76 Tryz.ntmps76 fun M0 W0 w n u c H d hs=>?_
 simp only [Au]
 refine rg [1] hs ?_
 refine rg [1,3] hs ?_
 apply Ah;intro K3 f
 refine rc 2 [3,6] hs ?_;intro K4 g
 refine BB _ (OQ w0 _ _ _ a0) (hv hs) ?_;rintro _ _ ⟨rfl,rfl⟩
 refine ne hs g ?_
 clear g
 apply Ak
 obtain ⟨q,h⟩:=Aj h
 refine R7 (I3 a0) (fun st=>st.boxes[(B.length+2)]? = some a0.cs) (fun i st=>∃ (a:Int) (Rr6:List RowA),st=⟨B++([a0.cs,[.val (.int .i64 a)],a0.cs]),Rr6,L⟩∧Owns Rw Rr6 []∧HU  ((EQ 1 a0).drop i) a=some r) (fun _ _=>False) ev ev (Md w0 a0 q _) (fun x t=>P9 a0 x t) (by decide) ?_ ⟨0,Rw,ef hs,d,h⟩ (fun _ _ h=>h.elim) ?_ ?_ ?_
 ·rintro i st k ⟨a,Rr6,rfl,d,h⟩ _ _;simp +decide [St.push]
 ·rintro i E ⟨XB,XR,XL⟩ x M1 W1 l k C hX z p j t y K v
  obtain ⟨b,o,rfl,D⟩:=P6 a0 i x t
  (try simp only at hX)
  subst hX
  obtain ⟨a,Rr6,rfl,d,h⟩:=z
  rw [UN o,HU] at h
  have e:=d
  simp only [St.ext,St.push,List.append_assoc,List.append_nil]
  apply Ao 1 [3,4]
  rw [Am];simp +decide only [go_sem,Nat.reduceAdd]
  (repeat' apply Aa)<;>first | refine v _ _ (by simp [St.ext,St.push]) (fun F m=>?_) | exact cl
  clear v
  dsimp only [St.ext,St.push]
  apply Ak
  apply Ao 1 [3]
  rw [Am];simp +decide only [go_sem,Nat.reduceAdd]
  (repeat' apply Aa)<;>first | refine m _ _ _ ⟨⟨B++[a0.cs,[.val (.int .i64 ((if a<(b.1:Int) then (b.1:Int) else a)))],a0.cs],Rr6,L⟩,[],by first | rfl | (simp only [List.append_assoc,List.append_nil,List.cons_append,List.nil_append];done),⟨by simp,by first | exact Nat.le_refl _ | (have:=d.len;simp;omega),rfl⟩,rfl,⟨((if a<(b.1:Int) then (b.1:Int) else a)),Rr6,ef hs,d,h⟩,?_⟩ | exact cl
  exact .inl rfl
 ·rintro s k ⟨XB,XR,XL⟩ hXR ⟨a,Rr6,rfl,d,h⟩ _ _
  simp only at hXR
  subst hXR
  rw [List.drop_eq_nil_of_le (by rw [L9];exact Nat.le_refl _),HU] at h
  simp only [St.ext,St.push,List.append_assoc,List.append_nil]
  (repeat' apply Aa)<;>first | refine f _ _ ?_ | exact cl
  clear f
  refine Rq (bs:=[a0.cs,[.val (.int .i64 a)],a0.cs]) w n u rfl c d ow ow ?_
  refine rg [2] hs ?_
  exact rt h hs c d
 ·rintro G s k X hX h;exact h.elim
def OZ (b:Vl):Option Bool :=
 (O5 b).bind fun h =>
 if decide (h≤12) then
  (M4 b).bind fun g =>
  some (decide (g≤1000))
 else
  some (false)
theorem WA (w0:World) (B:List (List AV)) (Rw:List RowA) (L:List LoopA) (a0:Vl) (r:Bool) (h:OZ a0=some r) :
  ACalls Tryz.prog w0 28 [.agg (a0.cs)] ⟨B,Rw,L⟩ fun x st=>x = .val (.bool r)∧st=⟨B,Rw,L⟩:=by
 rw [OZ] at h
 refine hd [.tmp 2] Tryz.func28 Tryz.ntmps28 fun M0 W0 l g f a k e hs=>?_
 simp only [Au]
 refine rg [1] hs ?_
 apply Ah;intro K2 b
 obtain ⟨i,c,h⟩:=bind_some h
 rcases Bool.eq_false_or_eq_true (decide (i≤12)) with hf4 | hf4
 ·replace h:=Ba h hf4
  obtain ⟨j,d,h⟩:=bind_some h
  have hs:=Aa hf4 hs
  refine rk 3 [2] hs ?_
  refine Ai _ (TU w0 _ _ _ a0 _ c) (hv hs) ?_
  refine nc hs ?_
  refine Ai _ (WS w0 _ _ _ a0 _ d) (hv hs) ?_
  refine ne hs b ?_
  clear b
  exact rt h hs a e
 ·replace h:=A9 h hf4
  have hs:=Aa hf4 hs
  refine rk 3 [2] hs ?_
  refine Ai _ (TU w0 _ _ _ a0 _ c) (hv hs) ?_
  refine nc hs ?_
  refine AD ?_
  refine ne hs b ?_
  clear b
  exact rt h hs a e
theorem UU:∀ (l:List Vl) (v:Vl),v∈l→v.bulk≤H9 l
 | [],_,h=>by simp at h
 | a::r,v,h=>by
  rcases List.mem_cons.1 h with rfl | h
  ·simp [H9]
  ·have:=UU r v h
   simp [H9];omega
theorem Vf:∀ (l:List ByteArray) (v:ByteArray),v∈l→v.size+1≤NF l
 | [],_,h=>by simp at h
 | a::r,v,h=>by
  rcases List.mem_cons.1 h with rfl | h
  ·simp [NF]
  ·have:=Vf r v h
   simp [NF];omega
theorem TY:∀ l:List ByteArray,l.length≤NF l
 | []=>Nat.le_refl _
 | v::r=>by have:=TY r;simp [NF];omega
mutual
theorem Vl.size_bulk:∀ v:Vl,v.size≤v.bulk
 | .mk _ _ _ _ l f=>by have:=Og l;have:=S5 f;simp only [Vl.size,Vl.bulk];omega
theorem Og:∀ l:List Vl,G8 l≤H9 l
 | []=>Nat.le_refl _
 | v::r=>by have:=v.size_bulk;have:=Og r;simp only [G8,H9];omega
theorem S5:∀ l:List (ByteArray × Vl),Gk l≤Oy l
 | []=>Nat.le_refl _
 | (_,v)::r=>by have:=v.size_bulk;have:=S5 r;simp only [Gk,Oy];omega
end
theorem Zaq (l:List Vl):l.length≤H9 l:=Nat.le_trans (Ny l) (Og l)
mutual
theorem Ty.size_bulk:∀ t:Ty,t.size≤t.bulk
 | .mk _ _ _ _ _ l f=>by have:=SI l;have:=Q8 f;simp only [Ty.size,Ty.bulk];omega
theorem SI:∀ l:List Ty,FI l≤OK l
 | []=>Nat.le_refl _
 | v::r=>by have:=v.size_bulk;have:=SI r;simp only [FI,OK];omega
theorem Q8:∀ l:List TF,B9 l≤HO l
 | []=>Nat.le_refl _
 | (_,_,_,v,_)::r=>by have:=v.size_bulk;have:=Q8 r;simp only [B9,HO];omega
end
mutual
theorem Vl.ok_bulk:∀ v:Vl,v.bulk≤1048576→v.ok
 | .mk _ _ _ t l f,h=>by
  simp only [Vl.bulk] at h
  exact ⟨by omega,Wb l (by omega),WX f (by omega)⟩
theorem Wb:∀ l:List Vl,H9 l≤1048576→Zaw l
 | [],_=>trivial
 | v::r,h=>by
  simp only [H9] at h
  exact ⟨v.ok_bulk (by omega),Wb r (by omega)⟩
theorem WX:∀ l:List (ByteArray × Vl),Oy l≤1048576→ZF l
 | [],_=>trivial
 | (_,v)::r,h=>by
  simp only [Oy] at h
  exact ⟨by omega,v.ok_bulk (by omega),WX r (by omega)⟩
end
theorem Vl.small_bulk (v:Vl) (h:v.bulk≤1048575):v.small:=by
 have:=v.size_bulk
 have:=v.depth_size
 exact ⟨by omega,by omega,v.ok_bulk (by omega)⟩
mutual
theorem Ty.ok_bulk:∀ t:Ty,t.bulk≤1048576→t.ok
 | .mk _ _ _ _ w l f,h=>by
  simp only [Ty.bulk] at h
  have:=TY w
  exact ⟨by omega,fun x a=>by have:=Vf w x a;omega,WG l (by omega),UV f (by omega)⟩
theorem WG:∀ l:List Ty,OK l≤1048576→Zb6 l
 | [],_=>trivial
 | v::r,h=>by
  simp only [OK] at h
  exact ⟨v.ok_bulk (by omega),WG r (by omega)⟩
theorem UV:∀ l:List TF,HO l≤1048576→V8 l
 | [],_=>trivial
 | (_,n,_,v,d)::r,h=>by
  simp only [HO] at h
  have:=Zaq d
  have b:=v.size_bulk
  have:=v.size_pos
  exact ⟨⟨by omega,v.ok_bulk (by omega),by omega,fun x a=>x.small_bulk (by have:=UU d x a;omega)⟩,UV r (by omega)⟩
end
theorem Ty.small_of {t:Ty} (h:t.bulk≤1048576) (h1:t.size≤200) (h2:t.depth≤12):t.small:=⟨h1,h2,t.ok_bulk h⟩
theorem TW (rec:Ty→Option Int) (n:Nat) (t:Ty) (hr:∀ p∈t.fields,rec p.2.2.2.1=some (p.2.2.2.1.size:Int)) (hl:t.fields.length≤1000000000):∀ (k m i c:Nat),i+k=t.fields.length→k<m→c+B9 (t.fields.drop i)≤1000000000 →
  Ha rec n t m (c:Int) i=some ((c+B9 (t.fields.drop i):Nat):Int)
 | k,0,i,c,_,h,_=>absurd h (Nat.not_lt_zero _)
 | 0,m+1,i,c,hi,_,_=>by
  rw [Ha,As,Ac (show ¬ i<t.fields.length by omega),List.drop_eq_nil_of_le (by omega)]
  rfl
 | k+1,m+1,i,c,hi,hm,hc=>by
  have a:i<t.fields.length:=by omega
  rw [Nj _ _ a] at hc
  rw [Ha,As,Ad a]
  rw [Ae rfl,Az a,Ab,hr _ (List.getElem_mem a),Ab]
  rw [Ae (by unfold BQ;omega),Ae (Av (by omega)),Nj _ _ a,←Nat.add_assoc]
  exact TW rec n t hr hl k m (i+1) (c+t.fields[i].2.2.2.1.size) (by omega) (by omega) (by omega)
theorem Ws (rec:Ty→Option Int) (n:Nat) (t:Ty) (hs:t.size≤1000000000) (hn:t.fields.length<n) (hr:∀ x∈t.elem,rec x=some (x.size:Int)) (hr2:∀ p∈t.fields,rec p.2.2.2.1=some (p.2.2.2.1.size:Int)):∀ (k m i c:Nat),i+k=t.elem.length→k<m→c+FI (t.elem.drop i)+B9 t.fields≤1000000000 →
  H8 rec n t m (c:Int) i=some ((c+FI (t.elem.drop i)+B9 t.fields:Nat):Int)
 | k,0,i,c,_,h,_=>absurd h (Nat.not_lt_zero _)
 | 0,m+1,i,c,hi,_,hc=>by
  have:=t.lens
  rw [H8,As,Ac (show ¬ i<t.elem.length by omega),List.drop_eq_nil_of_le (by omega)]
  have:=TW rec n t hr2 (by omega) t.fields.length n 0 c (by omega) hn (by rw [List.drop_zero];omega)
  rw [List.drop_zero] at this
  exact this
 | k+1,m+1,i,c,hi,hm,hc=>by
  have:=t.lens
  have a:i<t.elem.length:=by omega
  rw [SE _ _ a] at hc
  rw [H8,As,Ad a]
  rw [Ae rfl,Az a,Ab,hr _ (List.getElem_mem a),Ab]
  rw [Ae (by unfold BQ;omega),Ae (Av (by omega)),SE _ _ a,←Nat.add_assoc]
  exact Ws rec n t hs hn hr hr2 k m (i+1) (c+t.elem[i].size) (by omega) (by omega) (by omega)
theorem Rr:∀ (n:Nat) (t:Ty),t.size<n→t.size≤1000000000→I1 n t=some (t.size:Int)
 | 0,t,h,_=>absurd h (Nat.not_lt_zero _)
 | n+1,t,h,hs=>by
  have d:=t.lens
  have c:=t.size_eq
  rw [I1,O1]
  have:=Ws (I1 n) n t hs (by omega) (fun x b=>Rr n x (by have:=t.elem_size x b;omega) (by have:=t.elem_size x b;omega)) (fun p a=>Rr n _ (by have:=t.field_size p a;omega) (by have:=t.field_size p a;omega)) t.elem.length n 0 1 (by omega) (by omega) (by rw [List.drop_zero];omega)
  rw [List.drop_zero,←c] at this
  exact this
theorem QG (l:List Ty) (i:Nat) (h:i<l.length):Ec (l.drop i)=Max.max l[i].depth (Ec (l.drop (i+1))):=by rw [List.drop_eq_getElem_cons h,Ec]
theorem PQ (l:List TF) (i:Nat) (h:i<l.length):CC (l.drop i)=Max.max l[i].2.2.2.1.depth (CC (l.drop (i+1))):=by
 rw [List.drop_eq_getElem_cons h];rfl
theorem Za8 (a b:Nat):(if (a:Int)<(b:Int) then (b:Int) else (a:Int))=((Max.max a b:Nat):Int):=by
 split<;>omega
theorem S7 (rec:Ty→Option Int) (n:Nat) (t:Ty) (hr:∀ p∈t.fields,rec p.2.2.2.1=some (p.2.2.2.1.depth:Int)) (hl:t.fields.length≤1000000000):∀ (k m i c:Nat),i+k=t.fields.length→k<m→Max.max c (CC (t.fields.drop i))≤1000000000 →
  Gn rec n t m (c:Int) i=some ((Max.max c (CC (t.fields.drop i))+1:Nat):Int)
 | k,0,i,c,_,h,_=>absurd h (Nat.not_lt_zero _)
 | 0,m+1,i,c,hi,_,hc=>by
  rw [Gn,As,Ac (show ¬ i<t.fields.length by omega),List.drop_eq_nil_of_le (by omega),Af (by decide),Ko,Ae (by unfold BQ;omega)]
  simp [CC]
 | k+1,m+1,i,c,hi,hm,hc=>by
  have a:i<t.fields.length:=by omega
  rw [PQ _ _ a] at hc
  rw [Gn,As,Ad a]
  rw [Ae rfl,Az a,Ab,hr _ (List.getElem_mem a),Ab]
  rw [Ae (Av (by omega)),PQ _ _ a,Za8,←Nat.max_assoc]
  exact S7 rec n t hr hl k m (i+1) _ (by omega) (by omega) (by omega)
theorem Ut (rec:Ty→Option Int) (n:Nat) (t:Ty) (hs:t.size≤1000000000) (hn:t.fields.length<n) (hr:∀ x∈t.elem,rec x=some (x.depth:Int)) (hr2:∀ p∈t.fields,rec p.2.2.2.1=some (p.2.2.2.1.depth:Int)):∀ (k m i c:Nat),i+k=t.elem.length→k<m→Max.max (Max.max c (Ec (t.elem.drop i))) (CC t.fields)≤1000000000 →
  G6 rec n t m (c:Int) i=some ((Max.max (Max.max c (Ec (t.elem.drop i))) (CC t.fields)+1:Nat):Int)
 | k,0,i,c,_,h,_=>absurd h (Nat.not_lt_zero _)
 | 0,m+1,i,c,hi,_,hc=>by
  have:=t.lens
  rw [G6,As,Ac (show ¬ i<t.elem.length by omega),Af (by decide)]
  rw [List.drop_eq_nil_of_le (by omega)] at hc ⊢
  have h:=S7 rec n t hr2 (by omega) t.fields.length n 0 c (by omega) hn (by rw [List.drop_zero];simp only [Ec] at hc;omega)
  rw [List.drop_zero] at h
  rw [LE]
  refine h.trans ?_
  simp only [Ec,Nat.max_zero]
 | k+1,m+1,i,c,hi,hm,hc=>by
  have:=t.lens
  have a:i<t.elem.length:=by omega
  rw [QG _ _ a] at hc
  rw [G6,As,Ad a]
  rw [Ae rfl,Az a,Ab,hr _ (List.getElem_mem a),Ab]
  rw [Ae (Av (by omega)),QG _ _ a,Za8,←Nat.max_assoc]
  exact Ut rec n t hs hn hr hr2 k m (i+1) _ (by omega) (by omega) (by omega)
mutual
theorem Ty.depth_size:∀ v:Ty,v.depth≤v.size
 | .mk _ _ _ _ _ l f=>by have:=QK l;have:=PM f;simp only [Ty.depth,Ty.size];omega
theorem QK:∀ l:List Ty,Ec l≤FI l
 | []=>Nat.le_refl _
 | v::r=>by have:=v.depth_size;have:=QK r;simp only [Ec,FI];omega
theorem PM:∀ l:List TF,CC l≤B9 l
 | []=>Nat.le_refl _
 | (_,_,_,v,_)::r=>by have:=v.depth_size;have:=PM r;simp only [CC,B9];omega
end
theorem P1:∀ (n:Nat) (t:Ty),t.size<n→t.size≤1000000000→HV n t=some (t.depth:Int)
 | 0,t,h,_=>absurd h (Nat.not_lt_zero _)
 | n+1,t,h,hs=>by
  have d:=t.lens
  have c:=t.depth_eq
  have hd:=t.depth_size
  rw [HV,NC]
  have:=Ut (HV n) n t hs (by omega) (fun x b=>P1 n x (by have:=t.elem_size x b;omega) (by have:=t.elem_size x b;omega)) (fun p a=>P1 n _ (by have:=t.field_size p a;omega) (by have:=t.field_size p a;omega)) t.elem.length n 0 0 (by omega) (by omega) (by rw [List.drop_zero];omega)
  rw [List.drop_zero,Nat.zero_max,Nat.add_comm,←c] at this
  exact this
theorem ZK (n:Nat) (t:Ty) (hn:t.size<n) (hs:t.size≤1000000000):La n t=some (decide (t.depth≤10∧t.size≤60)):=by
 rw [La,P1 n t hn hs,Ab]
 by_cases h:t.depth≤10
 ·rw [Ad (show (t.depth:Int)≤10 by omega),Ae rfl,Rr n t hn hs,Ab]
  congr 1
  rw [decide_eq_decide]
  omega
 ·rw [Ac (show ¬ (t.depth:Int)≤10 by omega),Af (by decide)]
  congr 1
  exact (Ac (by omega)).symm
theorem Wv:∀ (l:List (Nat × Vl)) (b:Int),∃ c,HU l b=some c
 | [],b=>⟨b,rfl⟩
 | p::r,b=>by rw [HU];exact Wv r _
theorem Zds (v:Vl) (h:v.size≤1048576):∃ b,OZ v=some b:=by
 obtain ⟨c,a⟩:=Wv (EQ 1 v) 0
 rw [OZ,O5,Ae ⟨by have:=v.depth_size;omega,Hk _ v (Nat.le_refl _) (by omega)⟩,a,Ab]
 by_cases q:c≤12
 ·rw [Ad q,Ae rfl,Vp v h];exact ⟨_,rfl⟩
 ·rw [Ac q,Af (by decide)];exact ⟨_,rfl⟩
def EZ (b:Int × ByteArray × Int × Ty × List Vl) (g:Int):Bool :=
 decide (b.1=g)
theorem Rj (w0:World) (B:List (List AV)) (Rw:List RowA) (L:List LoopA) (a0:Int × ByteArray × Int × Ty × List Vl) (la1:Nat) (a1:Int) (hla1:B[la1]? = some ([.val (.int .i64 a1)])) (r:Bool) (h:EZ a0 a1=r) :
  ACalls Tryz.prog w0 191 [.agg (.val (.int .i64 a0.1)::(.val (.string a0.2.1)::(.val (.int .i64 a0.2.2.1)::((a0.2.2.2.1.cs)++([.list (a0.2.2.2.2.map Bo) .none]))))),.box la1 0] ⟨B,Rw,L⟩ fun x st=>x = .val (.bool r)∧st=⟨B,Rw,L⟩:=by
 rw [EZ] at h
 refine hd [.tmp 3] Tryz.func191 Tryz.ntmps191 fun M0 W0 g e c a f d hs=>?_
 simp only [Au]
 have b:=(Ag.1 hla1).1
 have hs:=Aa (An hla1) hs
 refine rg [1,2] hs ?_
 refine rg [3] hs ?_
 exact rT h hs a d
theorem QP (w0:World) (B:List (List AV)) (Rw:List RowA) (L:List LoopA) (a0:Int × ByteArray × Int × Ty × List Vl) (la1:Nat) (a1:Int) (hla1:B[la1]? = some ([.val (.int .i64 a1)])) :
  ACalls Tryz.prog w0 191 [.agg (.val (.int .i64 a0.1)::(.val (.string a0.2.1)::(.val (.int .i64 a0.2.2.1)::((a0.2.2.2.1.cs)++([.list (a0.2.2.2.2.map Bo) .none]))))),.box la1 0] ⟨B,Rw,L⟩ fun x st=>x = .val (.bool (EZ a0 a1))∧st=⟨B,Rw,L⟩:=Rj w0 B Rw L a0 la1 a1 hla1 _ rfl
def C4 (n:Nat) (b:List (Int × ByteArray × Int × Ty × List Vl)) (s:Int):Option ((Int × ByteArray × Int × Ty × List Vl) × Bool) :=
 (AX n b (fun (h:Int × ByteArray × Int × Ty × List Vl)=>some (EZ h s))).bind fun g =>
 if decide (g<0) then
  some (((0,(⟨#[]⟩:ByteArray),0,Ty.mk 0 0 0 0 ([]) ([]) ([]),[]),false))
 else
  (B7 b g).bind fun q =>
  some ((q,true))
theorem EJ (w0:World) (n:Nat) (B:List (List AV)) (Rw:List RowA) (L:List LoopA) (a0:List (Int × ByteArray × Int × Ty × List Vl)) (a1:Int) (r:(Int × ByteArray × Int × Ty × List Vl) × Bool) (h:C4 n a0 a1=some r) :
  ACalls Tryz.prog w0 133 [.list (a0.map Cm) .none,.val (.int .i64 a1)] ⟨B,Rw,L⟩ fun x st=>x = .tup [.agg (.val (.int .i64 r.1.1)::(.val (.string r.1.2.1)::(.val (.int .i64 r.1.2.2.1)::((r.1.2.2.2.1.cs)++([.list (r.1.2.2.2.2.map Bo) .none]))))),.val (.bool r.2)]∧st=⟨B,Rw,L⟩:=by
 rw [C4] at h
 refine hd [.cell 4 54,.tmp 5] Tryz.func133 Tryz.ntmps133 fun M0 W0 u o p a t l hs=>?_
 simp only [Au]
 refine rg [0,3,4] hs ?_
 obtain ⟨v,hy3,h⟩:=bind_some h
 refine rc 2 [0,4,6] hs ?_;intro K2 e
 refine Ai _ (DR w0 n _ _ _ a0 191 [.box B.length 0] (fun (x0:Int × ByteArray × Int × Ty × List Vl)=>some (EZ x0 a1)) (fun x0 r hx q g hB' m=>by cases hx;exact QP w0 _ _ _ x0 _ a1 (DY hB' ev)) _ hy3) (hv hs) ?_
 refine ne hs e ?_
 clear e
 apply Ah;intro K4 d
 refine rg [0,4,6,11] hs ?_
 refine AN h hs (fun hs h=>?_) (fun hs h=>?_)
 ·refine rg [4,5] hs ?_
  exact rt h hs a l
 refine sk [0,4,6] hs d ?_
 clear d
 obtain ⟨s,i,h⟩:=bind_some h
 obtain ⟨j,k,c⟩:=AA i
 have b:=AB (f:=Cm) c
 have hs:=Aa b hs
 refine rg [4,5] hs ?_
 exact rt h hs a l
def H4 (n:Nat)  (b:Int):Option (Int × Bool) :=
 some ((b,true))
def Dm (n:Nat) (h:Int):Nat→Int→Int→Option (Int × Bool)
 | 0,_,_=>none
 | m+1,b,g =>
  if decide (h<g) then
   if !(decide ((b.tmod 10)=0)) then
    some ((0,false))
   else
    if BQ (b.tdiv 10) then
     if BQ (g-1) then
      (Dm n h m) (b.tdiv 10) (g-1)
     else none
    else none
  else
   H4 n b
def Em (n:Nat) (h:Int) (b:Int) (g:Int):Option (Int × Bool) :=
 Dm n h n b g
def CV (n:Nat) (h:Int):Nat→Int→Int→Option (Int × Bool)
 | 0,_,_=>none
 | m+1,b,g =>
  if decide (g<h) then
   if BQ (b*10) then
    if (decide (999999999999999<(b*10)))||(decide ((b*10)<((-999999999999999)))) then
     some ((0,false))
    else
     if BQ (g+1) then
      (CV n h m) (b*10) (g+1)
     else none
   else none
  else
   Em n h b g
def Dx (n:Nat) (g:Int) (b:Int) (h:Int):Option (Int × Bool) :=
 CV n h n g b
theorem IH (w0:World) (n:Nat) (B:List (List AV)) (Rw:List RowA) (L:List LoopA) (a0:Int) (a1:Int) (a2:Int) (r:Int × Bool) (h:Dx n a0 a1 a2=some r) :
  ACalls Tryz.prog w0 129 [.val (.int .i64 a0),.val (.int .i64 a1),.val (.int .i64 a2)] ⟨B,Rw,L⟩ fun x st=>x = .tup [.val (.int .i64 r.1),.val (.bool r.2)]∧st=⟨B,Rw,L⟩:=by
 rw [Dx] at h
 refine hd [.tmp 6,.tmp 7] Tryz.func129 Tryz.ntmps129 fun M0 W0 y l o a G k hs=>?_
 simp only [Au]
 refine rg [0,1,2] hs ?_
 refine Aw (fun e st=>∃ (i:Int) (j:Int),Ck e st B Rw L [(0,true,.val (.int .i64 i)),(1,true,.val (.int .i64 j)),(2,true,.val (.int .i64 a2))] [] [] (Em n a2 i j=some r)) ?_ ?_
 ·intro K4 z
  apply Ak
  refine AC (fun m e st=>∃ (f:Int) (d:Int),Ck e st B Rw L [(0,true,.val (.int .i64 f)),(1,true,.val (.int .i64 d)),(2,true,.val (.int .i64 a2))] [] [] (CV n a2 m f d=some r)) n ⟨a0,a1,([]),Rw,ef hs,ef hs,k,h⟩ ?_
  rintro ml5 e st ⟨f,d,Xl5,Rl5,rfl,rfl,k,h⟩ Ul5 Vl5
  cases ml5 with
  | zero=>cases h
  | succ ml5 =>
  rw [CV] at h
  refine td y l o a k ?_
  apply Ah;intro K6 v
  refine rg [0,1,2,10] hs ?_
  refine AN h hs (fun hs h=>?_) (fun hs h=>?_)
  rotate_left
  ·refine sx [0,1,2] hs z ?_
   exact ⟨f,d,([]),Rl5,ef hs,ef hs,k,h⟩
  refine sk [0,1,2] hs v ?_
  clear v
  apply Ah;intro K9 u
  apply Ak
  obtain ⟨E,h⟩:=Aj h
  refine rg [0,1,2] hs ?_
  refine rg [0,1,2,20] hs ?_
  refine AN h hs (fun hs h=>?_) (fun hs h=>?_)
  ·refine rg [6,7] hs ?_
   exact rt h hs a k
  refine sk [0,1,2] hs u ?_
  clear u
  obtain ⟨C,h⟩:=Aj h
  refine rl [0,1,2] hs (fun e s=>Vl5 ml5 e s (Nat.lt_succ_self _)) ?_
  exact ⟨(f*10),(d+1),([]),Rl5,ef hs,ef hs,k,h⟩
 ·clear h;rintro e st ⟨i,j,Xk3,Rk3,rfl,rfl,k,h⟩
  rw [Em] at h
  refine td y l o a k ?_
  refine Aw (fun e st=>∃ (g:Int),Ck e st B Rw L [(0,true,.val (.int .i64 g))] [] [] (H4 n g=some r)) ?_ ?_
  ·intro K18 w
   apply Ak
   refine AC (fun m e st=>∃ (b:Int) (c:Int),Ck e st B Rw L [(0,true,.val (.int .i64 b)),(1,true,.val (.int .i64 c)),(2,true,.val (.int .i64 a2))] [] [] (Dm n a2 m b c=some r)) n ⟨i,j,([]),Rk3,ef hs,ef hs,k,h⟩ ?_
   rintro ml19 e st ⟨b,c,Xl19,Rl19,rfl,rfl,k,h⟩ Ul19 Vl19
   cases ml19 with
   | zero=>cases h
   | succ ml19 =>
   rw [Dm] at h
   refine td y l o a k ?_
   apply Ah;intro K20 t
   refine rg [0,1,2,23] hs ?_
   refine AN h hs (fun hs h=>?_) (fun hs h=>?_)
   rotate_left
   ·refine sx [0] hs w ?_
    exact ⟨b,([]),Rl19,ef hs,ef hs,k,h⟩
   refine sk [0,1,2] hs t ?_
   clear t
   apply Ah;intro K23 p
   apply Ak
   apply Ah;intro K24 q
   refine rg [0,1,2,28] hs ?_
   refine AN h hs (fun hs h=>?_) (fun hs h=>?_)
   ·refine rg [6,7] hs ?_
    exact rt h hs a k
   refine sk [0,1,2] hs q ?_
   clear q
   obtain ⟨F,h⟩:=Aj h
   refine rl [0,1,2] hs p ?_
   clear p
   obtain ⟨D,h⟩:=Aj h
   refine rl [0,1,2] hs (fun e s=>Vl19 ml19 e s (Nat.lt_succ_self _)) ?_
   exact ⟨(b.tdiv 10),(c-1),([]),Rl19,ef hs,ef hs,k,h⟩
  ·clear h;rintro e st ⟨g,Xk17,Rk17,rfl,rfl,k,h⟩
   rw [H4] at h
   refine td y l o a k ?_
   refine rg [6,7] hs ?_
   exact rt h hs a k
def Xy (n:Nat)  (b:Int):Option (Int × Bool) :=
 some ((b,true))
def Hr (n:Nat)  : Nat→Int→Int→Option (Int × Bool)
 | 0,_,_=>none
 | m+1,b,g =>
  if decide (g<0) then
   if !(decide ((b.tmod 10)=0)) then
    some ((0,false))
   else
    if BQ (b.tdiv 10) then
     if BQ (g+1) then
      (Hr n m) (b.tdiv 10) (g+1)
     else none
    else none
  else
   Xy n b
def JA (n:Nat)  (b:Int) (g:Int):Option (Int × Bool) :=
 Hr n n b g
def G4 (n:Nat)  : Nat→Int→Int→Option (Int × Bool)
 | 0,_,_=>none
 | m+1,b,g =>
  if decide (0<g) then
   if (decide (999999999999999<b))||(decide (b<((-999999999999999)))) then
    some ((b,true))
   else
    if BQ (10*b) then
     if BQ (g-1) then
      (G4 n m) (10*b) (g-1)
     else none
    else none
  else
   JA n b g
def G9 (n:Nat) (b:Int) (g:Int):Option (Int × Bool) :=
 G4 n n b g
def Vn (n:Nat)  : Option ((Int × ByteArray × Int × Ty × List Vl) × Bool) :=
 some (((0,(⟨#[]⟩:ByteArray),0,Ty.mk 0 0 0 0 ([]) ([]) ([]),[]),false))
def GX (n:Nat) (h:Ty) (q:Int):Nat→Int→Option ((Int × ByteArray × Int × Ty × List Vl) × Bool)
 | 0,_=>none
 | m+1,b =>
  if decide (b<(h.fields.length:Int)) then
   (B7 h.fields b).bind fun g =>
   if decide (g.1=q) then
    some ((g,true))
   else
    if BQ (b+1) then
     (GX n h q m) (b+1)
    else none
  else
   Vn n 
def Gz (n:Nat) (b:Ty) (g:Int):Option ((Int × ByteArray × Int × Ty × List Vl) × Bool) :=
 GX n b g n 0
def OX (n:Nat)  : Option (Vl × Bool) :=
 some ((Vl.mk 0 0 0 ((⟨#[]⟩:ByteArray)) ([]) ([]),false))
def G7 (n:Nat) (h:Vl) (q:ByteArray):Nat→Int→Option (Vl × Bool)
 | 0,_=>none
 | m+1,b =>
  if decide (b<(h.fields.length:Int)) then
   (B7 h.fields b).bind fun g =>
   if Cb g.1 q then
    some ((g.2,true))
   else
    if BQ (b+1) then
     (G7 n h q m) (b+1)
    else none
  else
   OX n 
def HY (n:Nat) (b:Vl) (g:ByteArray):Option (Vl × Bool) :=
 G7 n b g n 0
theorem S1 (w0:World) (n:Nat) (B:List (List AV)) (Rw:List RowA) (L:List LoopA) (a0:Vl) (a1:ByteArray) (r:Vl × Bool) (h:HY n a0 a1=some r) :
  ACalls Tryz.prog w0 44 [.agg (a0.cs),.val (.string a1)] ⟨B,Rw,L⟩ fun x st=>x = .tup [.agg (r.1.cs),.val (.bool r.2)]∧st=⟨B,Rw,L⟩:=by
 rw [HY] at h
 refine hd [.cell 4 46,.tmp 5] Tryz.func44 Tryz.ntmps44 fun M0 W0 v j o b y c hs=>?_
 simp only [Au]
 refine rg [1,2,4] hs ?_
 refine Aw (fun e st=>Ck e st B Rw L [(4,true,.box (B.length+1) 0)] [a0.cs,[.val (.int .i64 0),.val (.int .i64 0),.val (.int .i64 0),.val (.string ((⟨#[]⟩:ByteArray))),.list ([]) .full,.list ([]) .full]] [] (OX n  = some r)) ?_ ?_
 ·intro K4 q
  refine rg [1,2,4,6] hs ?_
  apply Ak
  refine AC (fun m e st=>∃ (a:Int),Ck e st B Rw L [(1,true,.val (.string a1)),(2,true,.box B.length 0),(4,true,.box (B.length+1) 0),(6,true,.val (.int .i64 a))] [a0.cs,[.val (.int .i64 0),.val (.int .i64 0),.val (.int .i64 0),.val (.string ((⟨#[]⟩:ByteArray))),.list ([]) .full,.list ([]) .full]] [] (G7 n a0 a1 m a=some r)) n ⟨0,([]),Rw,ef hs,ef hs,c,h⟩ ?_
  rintro ml6 e st ⟨a,Xl6,Rl6,rfl,rfl,c,h⟩ Ul6 Vl6
  cases ml6 with
  | zero=>cases h
  | succ ml6 =>
  rw [G7] at h
  refine td v j o b c ?_
  apply Ah;intro K7 k
  refine rg [1,2,4,6,11] hs ?_
  refine AN h hs (fun hs h=>?_) (fun hs h=>?_)
  rotate_left
  ·refine sx [4] hs q ?_
   exact ⟨([]),Rl6,ef hs,ef hs,c,h⟩
  refine sk [1,2,4,6] hs k ?_
  clear k
  apply Ah;intro K10 d
  apply Ak
  obtain ⟨w,l,h⟩:=bind_some h
  obtain ⟨t,p,g⟩:=AA l
  have i:=AB (f:=BM) g
  have hs:=Aa i hs
  refine rg [1,2,4,6,21] hs ?_
  refine AN h hs (fun hs h=>?_) (fun hs h=>?_)
  ·refine rg [4,5] hs ?_
   exact rt h hs b c
  refine sk [1,2,4,6] hs d ?_
  clear d
  obtain ⟨u,h⟩:=Aj h
  refine rl [1,2,4,6] hs (fun e s=>Vl6 ml6 e s (Nat.lt_succ_self _)) ?_
  exact ⟨(a+1),([]),Rl6,ef hs,ef hs,c,h⟩
 ·clear h;rintro e st ⟨Xk3,Rk3,rfl,rfl,c,h⟩
  rw [OX] at h
  refine td v j o b c ?_
  refine rg [4,5] hs ?_
  exact rt h hs b c
def Bi (b:Int) (g:Ty):Bool :=
 (decide (g.min≤b))&&(decide (b≤g.max))
def Va (n:Nat) (g:ByteArray) (b:Ty):Option Bool :=
 some ((decide ((b.words.length:Int)=0))&&(Bi (g.size:Int) b))
def KH (n:Nat) (h:ByteArray) (g:Ty):Nat→Int→Option Bool
 | 0,_=>none
 | m+1,b =>
  if decide (b<(g.words.length:Int)) then
   (B7 g.words b).bind fun q =>
   if Cb q h then
    some (true)
   else
    if BQ (b+1) then
     (KH n h g m) (b+1)
    else none
  else
   Va n h g 
def O3 (n:Nat) (b:ByteArray) (g:Ty):Option Bool :=
 KH n b g n 0
def D8 (b:Int × ByteArray × Int × Ty × List Vl) (g:ByteArray):Bool :=
 Cb b.2.1 g
theorem Qn (w0:World) (B:List (List AV)) (Rw:List RowA) (L:List LoopA) (a0:Int × ByteArray × Int × Ty × List Vl) (la1:Nat) (a1:ByteArray) (hla1:B[la1]? = some ([.val (.string a1)])) (r:Bool) (h:D8 a0 a1=r) :
  ACalls Tryz.prog w0 203 [.agg (.val (.int .i64 a0.1)::(.val (.string a0.2.1)::(.val (.int .i64 a0.2.2.1)::((a0.2.2.2.1.cs)++([.list (a0.2.2.2.2.map Bo) .none]))))),.box la1 0] ⟨B,Rw,L⟩ fun x st=>x = .val (.bool r)∧st=⟨B,Rw,L⟩:=by
 rw [D8] at h
 refine hd [.tmp 3] Tryz.func203 Tryz.ntmps203 fun M0 W0 g e c a f d hs=>?_
 simp only [Au]
 have b:=(Ag.1 hla1).1
 have hs:=Aa (An hla1) hs
 refine rg [1,2] hs ?_
 refine rg [3] hs ?_
 exact rT h hs a d
theorem PC (w0:World) (B:List (List AV)) (Rw:List RowA) (L:List LoopA) (a0:Int × ByteArray × Int × Ty × List Vl) (la1:Nat) (a1:ByteArray) (hla1:B[la1]? = some ([.val (.string a1)])) :
  ACalls Tryz.prog w0 203 [.agg (.val (.int .i64 a0.1)::(.val (.string a0.2.1)::(.val (.int .i64 a0.2.2.1)::((a0.2.2.2.1.cs)++([.list (a0.2.2.2.2.map Bo) .none]))))),.box la1 0] ⟨B,Rw,L⟩ fun x st=>x = .val (.bool (D8 a0 a1))∧st=⟨B,Rw,L⟩:=Qn w0 B Rw L a0 la1 a1 hla1 _ rfl
def Di (n:Nat) (b:Ty) (s:ByteArray):Option ((Int × ByteArray × Int × Ty × List Vl) × Bool) :=
 (AX n b.fields (fun (h:Int × ByteArray × Int × Ty × List Vl)=>some (D8 h s))).bind fun g =>
 if decide (g<0) then
  some (((0,(⟨#[]⟩:ByteArray),0,Ty.mk 0 0 0 0 ([]) ([]) ([]),[]),false))
 else
  (B7 b.fields g).bind fun q =>
  some ((q,true))
theorem Ft (w0:World) (n:Nat) (B:List (List AV)) (Rw:List RowA) (L:List LoopA) (a0:Ty) (a1:ByteArray) (r:(Int × ByteArray × Int × Ty × List Vl) × Bool) (h:Di n a0 a1=some r) :
  ACalls Tryz.prog w0 159 [.agg (a0.cs),.val (.string a1)] ⟨B,Rw,L⟩ fun x st=>x = .tup [.agg (.val (.int .i64 r.1.1)::(.val (.string r.1.2.1)::(.val (.int .i64 r.1.2.2.1)::((r.1.2.2.2.1.cs)++([.list (r.1.2.2.2.2.map Bo) .none]))))),.val (.bool r.2)]∧st=⟨B,Rw,L⟩:=by
 rw [Di] at h
 refine hd [.cell 4 54,.tmp 5] Tryz.func159 Tryz.ntmps159 fun M0 W0 u o p a t l hs=>?_
 simp only [Au]
 refine rg [2,3,4] hs ?_
 obtain ⟨v,hy3,h⟩:=bind_some h
 refine rc 2 [2,4,6] hs ?_;intro K2 e
 refine Ai _ (DR w0 n _ _ _ a0.fields 203 [.box (B.length+1) 0] (fun (x0:Int × ByteArray × Int × Ty × List Vl)=>some (D8 x0 a1)) (fun x0 r hx q g hB' m=>by cases hx;exact PC w0 _ _ _ x0 _ a1 (DY hB' ev)) _ hy3) (hv hs) ?_
 refine ne hs e ?_
 clear e
 apply Ah;intro K4 d
 refine rg [2,4,6,12] hs ?_
 refine AN h hs (fun hs h=>?_) (fun hs h=>?_)
 ·refine rg [4,5] hs ?_
  exact rt h hs a l
 refine sk [2,4,6] hs d ?_
 clear d
 obtain ⟨s,i,h⟩:=bind_some h
 obtain ⟨j,k,c⟩:=AA i
 have b:=AB (f:=Cm) c
 have hs:=Aa b hs
 refine rg [4,5] hs ?_
 exact rt h hs a l
abbrev nilV:Vl:=Vl.mk 0 0 0 (⟨#[]⟩:ByteArray) [] []
def E6 (l:List TF) (k:Int):Option TF:=l.find? fun p=>decide (p.1=k)
def CG (v:Vl) (w:ByteArray):Option Vl:=(v.fields.find? fun q=>Cb q.1 w).map (·.2)
theorem UE {α β:Type} (p:α→Bool) (l:List α) (A:β) (B:α→Option β):(if decide (Ob p l 0<0)=true then some A else (B7 l (Ob p l 0)).bind B)=match l.find? p with | none=>some A | some x=>B x:=by
 rw [Zbq,←UC]
 cases h:l.find? p with
 | none=>rw [Ae];simpa [List.find?_eq_none] using h
 | some x =>
  rw [Af];rfl
  have:=List.find?_some h
  have:=List.mem_of_find?_eq_some h
  simp only [Bool.not_eq_true',Bool.not_eq_false]
  exact List.any_eq_true.2 ⟨x,this,by assumption⟩
theorem ZkI (n:Nat) (l:List TF) (f:TF→Option Bool) (p:TF→Bool) (hf:∀ x,f x=some (p x)) (hl:l.length≤1000000000) (hn:l.length<n):AX n l f=some (Ob p l 0):=Zam n l f p (fun x _=>hf x) hl l.length n 0 (by omega) hn
theorem Q3 (n:Nat) (l:List TF) (k:Int) (hl:l.length≤1000000000) (hn:l.length<n):C4 n l k=some ((E6 l k).getD Nz,(E6 l k).isSome):=by
 rw [C4,ZkI n l (fun a=>some (EZ a k)) (fun p=>decide (p.1=k)) (fun x=>rfl) hl hn,Ab,UE (fun p:TF=>decide (p.1=k))]
 rw [E6]
 cases l.find? (fun p:TF=>decide (p.1=k))<;>rfl
theorem J8 (n:Nat) (t:Ty) (w:ByteArray) (hl:t.fields.length≤1000000000) (hn:t.fields.length<n):Di n t w=some ((B6 t w).getD Nz,(B6 t w).isSome):=by
 rw [Di,ZkI n t.fields (fun a=>some (D8 a w)) (fun p=>Cb p.2.1 w) (fun x=>rfl) hl hn,Ab,UE (fun p:TF=>Cb p.2.1 w)]
 rw [B6]
 cases t.fields.find? (fun p:TF=>Cb p.2.1 w)<;>rfl
theorem ZjO (n:Nat) (l:List (ByteArray × Vl)) (f:ByteArray × Vl→Option Bool) (p:ByteArray × Vl→Bool) (hf:∀ x,f x=some (p x)) (hl:l.length≤1000000000) (hn:l.length<n):CL n l f=some (Ob p l 0):=Xt n l f p (fun x _=>hf x) hl l.length n 0 (by omega) hn
theorem Ym (n:Nat) (v:Vl) (w:ByteArray) (hk:v.kind=9) (hl:v.fields.length≤1000000000) (hn:v.fields.length<n) (hc:∀ q∈v.fields,Bn n q.2=some q.2):HB n v w=some ((CG v w).getD nilV,(CG v w).isSome):=by
 rw [HB,Ja,ZjO n v.fields (fun b=>some (FX b w)) (fun q=>Cb q.1 w) (fun x=>rfl) hl hn]
 simp only [Ab]
 rw [show ((!decide (v.kind=9))||decide (Ob (fun q:ByteArray × Vl=>Cb q.1 w) v.fields 0<0))=decide (Ob (fun q:ByteArray × Vl=>Cb q.1 w) v.fields 0<0) by simp [hk],UE (fun q:ByteArray × Vl=>Cb q.1 w),CG]
 cases h:v.fields.find? (fun q:ByteArray × Vl=>Cb q.1 w) with
 | none=>rfl
 | some q =>
  have a:=List.mem_of_find?_eq_some h
  simp only [hc q a,Ab]
  rfl
theorem SD (n:Nat) (t:Ty) (k:Int) (hl:t.fields.length≤1000000000):∀ (c m i:Nat),i+c=t.fields.length→c<m→GX n t k m i=some ((E6 (t.fields.drop i) k).getD Nz,(E6 (t.fields.drop i) k).isSome)
 | c,0,i,_,h=>absurd h (Nat.not_lt_zero _)
 | 0,m+1,i,hi,_=>by
  rw [GX,As,Ac (by omega),List.drop_eq_nil_of_le (by omega)];rfl
 | c+1,m+1,i,hi,hm=>by
  have a:i<t.fields.length:=by omega
  rw [GX,As,Ad a,Ae rfl,Az a,Ab,List.drop_eq_getElem_cons a,E6,List.find?_cons]
  by_cases q:t.fields[i].1=k
  ·rw [Ad q,Ae rfl];rfl
  ·rw [Ac q,Af (by decide),Ae (Av (by omega))]
   exact SD n t k hl c m (i+1) (by omega) (by omega)
theorem JF (n:Nat) (t:Ty) (k:Int) (hl:t.fields.length≤1000000000) (hn:t.fields.length<n):Gz n t k=some ((E6 t.fields k).getD Nz,(E6 t.fields k).isSome):=SD n t k hl t.fields.length n 0 (by omega) hn
theorem WV (n:Nat) (v:Vl) (w:ByteArray) (hl:v.fields.length≤1000000000):∀ (c m i:Nat),i+c=v.fields.length→c<m→G7 n v w m i=some ((((v.fields.drop i).find? fun q=>Cb q.1 w).map (·.2)).getD nilV,(((v.fields.drop i).find? fun q=>Cb q.1 w).map (·.2)).isSome)
 | c,0,i,_,h=>absurd h (Nat.not_lt_zero _)
 | 0,m+1,i,hi,_=>by
  rw [G7,As,Ac (by omega),List.drop_eq_nil_of_le (by omega)];rfl
 | c+1,m+1,i,hi,hm=>by
  have a:i<v.fields.length:=by omega
  rw [G7,As,Ad a,Ae rfl,Az a,Ab,List.drop_eq_getElem_cons a,List.find?_cons]
  cases q:Cb v.fields[i].1 w with
  | true=>rw [Ae rfl];rfl
  | false =>
   rw [Af (by decide),Ae (Av (by omega))]
   exact WV n v w hl c m (i+1) (by omega) (by omega)
theorem SA (n:Nat) (v:Vl) (w:ByteArray) (hl:v.fields.length≤1000000000) (hn:v.fields.length<n):HY n v w=some ((CG v w).getD nilV,(CG v w).isSome):=WV n v w hl v.fields.length n 0 (by omega) hn
def Oc (n:Int) (t:Ty):Bool:=decide (t.min≤n)&&decide (n≤t.max)
def JR (s:ByteArray) (t:Ty):Bool:=if t.words=[] then Oc s.size t else t.words.any fun x=>Cb x s
theorem ZaY (n:Nat) (s:ByteArray) (t:Ty) (hl:t.words.length≤1000000000):∀ (c m i:Nat),i+c=t.words.length→c<m→KH n s t m i=some (((t.words.drop i).any fun x=>Cb x s)||(decide (t.words.length=0)&&Oc s.size t))
 | c,0,i,_,h=>absurd h (Nat.not_lt_zero _)
 | 0,m+1,i,hi,_=>by
  rw [KH,As,Ac (by omega),List.drop_eq_nil_of_le (by omega),Af (by decide),Va,Bi,Oc,List.any_nil,Bool.false_or,show decide ((t.words.length:Int)=0)=decide (t.words.length=0) by rw [decide_eq_decide];omega]
 | c+1,m+1,i,hi,hm=>by
  have a:i<t.words.length:=by omega
  rw [KH,As,Ad a,Ae rfl,Az a,Ab,List.drop_eq_getElem_cons a,List.any_cons]
  cases q:Cb t.words[i] s with
  | true=>rw [Ae rfl];rfl
  | false =>
   rw [Af (by decide),Ae (Av (by omega)),Bool.false_or]
   exact ZaY n s t hl c m (i+1) (by omega) (by omega)
theorem Xj (n:Nat) (s:ByteArray) (t:Ty) (hl:t.words.length≤1000000000) (hn:t.words.length<n):O3 n s t=some (JR s t):=by
 refine (ZaY n s t hl t.words.length n 0 (by omega) hn).trans ?_
 rw [List.drop_zero,JR]
 cases h:t.words with
 | nil=>simp
 | cons a r=>simp
theorem Zc2 (a b:ByteArray):Cb a b=Cb b a:=by
 cases h:Cb b a with
 | true=>rw [(Ei _ _).1 h];exact ME _
 | false =>
  cases h2:Cb a b with
  | false=>rfl
  | true=>rw [(Ei _ _).1 h2,ME] at h;cases h
theorem Js (n:Nat) (s:ByteArray) (t:Ty) (hl:t.words.length≤1000000000) (hn:t.words.length<n):BG n t.words s=some (t.words.any fun x=>Cb x s):=by
 rw [QJ n t.words s hl hn]
 congr 2
 funext x
 exact Zc2 _ _
def upN:Nat→Int→Option Int
 | 0,x=>some x
 | k+1,x=>if -999999999999999≤x*10∧x*10≤999999999999999 then upN k (x*10) else none
def dnN:Nat→Int→Option Int
 | 0,x=>some x
 | k+1,x=>if x.tmod 10=0 then dnN k (x.tdiv 10) else none
def NX (x a b:Int):Option Int:=if a≤b then upN (b-a).toNat x else dnN (a-b).toNat x
theorem Zed {x:Int} (h : -999999999999999≤x∧x≤999999999999999) : -999999999999999≤x.tdiv 10∧x.tdiv 10≤999999999999999:=by
 rcases Int.le_total 0 x with q | q
 ·rw [Int.tdiv_eq_ediv_of_nonneg q];omega
 ·obtain ⟨z,rfl⟩:∃ z,x = -z:=⟨-x,by omega⟩
  rw [Int.neg_tdiv,Int.tdiv_eq_ediv_of_nonneg (by omega)];omega
theorem TI (n:Nat) (b:Int):∀ (k m:Nat) (x a:Int),-999999999999999≤x∧x≤999999999999999 → -200≤a→a≤100→a-b≤k→b≤a → -100≤b→k<m→Dm n b m x a=some ((dnN (a-b).toNat x).getD 0,(dnN (a-b).toNat x).isSome)
 | k,0,x,a,_,_,_,_,_,_,h=>absurd h (Nat.not_lt_zero _)
 | 0,m+1,x,a,hx,h0,h1,hk,hb,hb2,_=>by
  rw [Dm,Ac (by omega),Af (by decide),show (a-b).toNat=0 by omega];rfl
 | k+1,m+1,x,a,hx,h0,h1,hk,hb,hb2,hm=>by
  rw [Dm]
  by_cases q:b<a
  ·obtain ⟨j,hj⟩:∃ j,(a-b).toNat=j+1:=⟨(a-b).toNat-1,by omega⟩
   rw [Ad q,Ae rfl,hj,dnN]
   by_cases c:x.tmod 10=0
   ·have d:=Zed hx
    rw [Ad c,Af (by decide),Ae c,Ae (by unfold BQ;omega),Ae (by unfold BQ;omega),TI n b k m (x.tdiv 10) (a-1) d (by omega) (by omega) (by omega) (by omega) hb2 (by omega),show (a-1-b).toNat=j by omega]
   ·rw [Ac c,Ae (by rfl),Af c];rfl
  ·rw [Ac q,Af (by decide),show (a-b).toNat=0 by omega];rfl
theorem Zda (n:Nat) (b:Int):∀ (k m:Nat) (x a:Int),-999999999999999≤x∧x≤999999999999999→0≤a→a≤100→b-a≤k→a≤b→b≤100→k<m→200<n→CV n b m x a=some ((upN (b-a).toNat x).getD 0,(upN (b-a).toNat x).isSome)
 | k,0,x,a,_,_,_,_,_,_,h,_=>absurd h (Nat.not_lt_zero _)
 | 0,m+1,x,a,hx,h0,h1,hk,hb,hb2,_,hn=>by
  rw [CV,Ac (by omega),Af (by decide),show (b-a).toNat=0 by omega,Em,TI n b 0 n x a hx (by omega) h1 (by omega) (by omega) (by omega) (by omega),show (a-b).toNat=0 by omega];rfl
 | k+1,m+1,x,a,hx,h0,h1,hk,hb,hb2,hm,hn=>by
  rw [CV]
  by_cases q:a<b
  ·obtain ⟨j,hj⟩:∃ j,(b-a).toNat=j+1:=⟨(b-a).toNat-1,by omega⟩
   rw [Ad q,Ae rfl,hj,upN,Ae (by unfold BQ;omega)]
   by_cases c : -999999999999999≤x*10∧x*10≤999999999999999
   ·rw [Ac (by omega),Ac (by omega),Af (by decide),Ae c,Ae (by unfold BQ;omega),Zda n b k m (x*10) (a+1) c (by omega) (by omega) (by omega) (by omega) hb2 (by omega) hn,show (b-(a+1)).toNat=j by omega]
   ·rw [Ae (by rw [Bool.or_eq_true,decide_eq_true_eq,decide_eq_true_eq];omega),Af c];rfl
  ·rw [Ac q,Af (by decide),show (b-a).toNat=0 by omega,Em,TI n b 0 n x a hx (by omega) h1 (by omega) (by omega) (by omega) (by omega),show (a-b).toNat=0 by omega];rfl
theorem PU (n:Nat) (x a b:Int) (hx : -999999999999999≤x∧x≤999999999999999) (ha:0≤a∧a≤100) (hb:0≤b∧b≤100) (hn:200<n):Dx n x a b=some ((NX x a b).getD 0,(NX x a b).isSome):=by
 rw [Dx,NX]
 by_cases q:a≤b
 ·rw [Ae q,Zda n b 100 n x a hx ha.1 ha.2 (by omega) q hb.2 (by omega) hn]
 ·rw [Af q]
  obtain ⟨m,rfl⟩:∃ m,n=m+1:=⟨n-1,by omega⟩
  rw [CV,Ac (by omega),Af (by decide),Em,TI _ b 100 _ x a hx (by omega) ha.2 (by omega) (by omega) (by omega) (by omega)]
def Zhz (o:Option Int) (y:Int × Bool):Prop:=match o with | some m=>y=(m,true) | none=>y.2=false∨(y.2=true∧(999999999999999<y.1∨y.1 < -999999999999999))
theorem Ya (n:Nat):∀ (k m:Nat) (x d:Int),-999999999999999≤x∧x≤999999999999999 → -d≤k→d≤0 → -100≤d→k<m→Hr n m x d=some ((dnN (-d).toNat x).getD 0,(dnN (-d).toNat x).isSome)
 | k,0,x,d,_,_,_,_,h=>absurd h (Nat.not_lt_zero _)
 | 0,m+1,x,d,hx,h0,h1,h2,_=>by
  rw [Hr,Ac (by omega),Af (by decide),show (-d).toNat=0 by omega];rfl
 | k+1,m+1,x,d,hx,h0,h1,h2,hm=>by
  rw [Hr]
  by_cases q:d<0
  ·obtain ⟨j,hj⟩:∃ j,(-d).toNat=j+1:=⟨(-d).toNat-1,by omega⟩
   rw [Ad q,Ae rfl,hj,dnN]
   by_cases c:x.tmod 10=0
   ·have a:=Zed hx
    rw [Ad c,Af (by decide),Ae c,Ae (by unfold BQ;omega),Ae (by unfold BQ;omega),Ya n k m (x.tdiv 10) (d+1) a (by omega) (by omega) (by omega) (by omega),show (-(d+1)).toNat=j by omega]
   ·rw [Ac c,Ae (by rfl),Af c];rfl
  ·rw [Ac q,Af (by decide),show (-d).toNat=0 by omega];rfl
theorem ZgI (n:Nat) (hn:200<n):∀ (k m:Nat) (x d:Int),-999999999999999≤x∧x≤999999999999999→d≤k→0≤d→d≤100→k<m→∃ y,G4 n m x d=some y∧Zhz (upN d.toNat x) y
 | k,0,x,d,_,_,_,_,h=>absurd h (Nat.not_lt_zero _)
 | 0,m+1,x,d,hx,h0,h1,h2,_=>by
  rw [G4,Ac (by omega),Af (by decide),show d.toNat=0 by omega,JA,Ya n 0 n x d hx (by omega) (by omega) (by omega) (by omega),show (-d).toNat=0 by omega]
  exact ⟨_,rfl,rfl⟩
 | k+1,m+1,x,d,hx,h0,h1,h2,hm=>by
  rw [G4]
  by_cases q:0<d
  ·obtain ⟨j,hj⟩:∃ j,d.toNat=j+1:=⟨d.toNat-1,by omega⟩
   rw [Ad q,Ae rfl,hj,upN,Ac (by omega),Ac (by omega),Af (by decide),Ae (by unfold BQ;omega),Ae (by unfold BQ;omega),Int.mul_comm 10 x]
   by_cases c : -999999999999999≤x*10∧x*10≤999999999999999
   ·rw [Ae c]
    obtain ⟨y,b,a⟩:=ZgI n hn k m (x*10) (d-1) c (by omega) (by omega) (by omega) (by omega)
    rw [show (d-1).toNat=j by omega] at a
    exact ⟨y,b,a⟩
   ·rw [Af c]
    obtain ⟨m,rfl⟩:∃ q,m=q+1:=⟨m-1,by omega⟩
    rw [G4]
    by_cases q2:0<d-1
    ·rw [Ad q2,Ae rfl,Ae (by rw [Bool.or_eq_true,decide_eq_true_eq,decide_eq_true_eq];omega)]
     exact ⟨_,rfl,.inr ⟨rfl,by simp only;omega⟩⟩
    ·rw [Ac q2,Af (by decide),JA]
     obtain ⟨n,rfl⟩:∃ q,n=q+1:=⟨n-1,by omega⟩
     rw [Hr,Ac (by omega),Af (by decide)]
     exact ⟨_,rfl,.inr ⟨rfl,by simp only;omega⟩⟩
  ·rw [Ac q,Af (by decide),show d.toNat=0 by omega,JA,Ya n 0 n x d hx (by omega) (by omega) (by omega) (by omega),show (-d).toNat=0 by omega]
   exact ⟨_,rfl,rfl⟩
theorem UO (n:Nat) (x a b:Int) (hx : -999999999999999≤x∧x≤999999999999999) (ha:0≤a∧a≤100) (hb:0≤b∧b≤100) (hn:200<n):∃ y,G9 n x (b-a)=some y∧Zhz (NX x a b) y:=by
 rw [G9,NX]
 by_cases q:a≤b
 ·rw [Ae q]
  exact ZgI n hn 100 n x (b-a) hx (by omega) (by omega) (by omega) (by omega)
 ·rw [Af q]
  obtain ⟨m,rfl⟩:∃ m,n=m+1:=⟨n-1,by omega⟩
  rw [G4,Ac (by omega),Af (by decide),JA,Ya _ 100 _ x (b-a) hx (by omega) (by omega) (by omega) (by omega),show (-(b-a)).toNat=(a-b).toNat by omega]
  refine ⟨_,rfl,?_⟩
  cases h:dnN (a-b).toNat x with
  | none=>exact .inl rfl
  | some m=>rfl
end Go.Proofs.YtgpmlelfkjfbiaaGreatDoor
namespace Go.Ev
open Go Go.RowKit
section
variable {o:VO} {n:Nat}
@[go_sem] theorem Zjw:(J5 o n).cells=[J5 o n]:=by cases o<;>rfl
@[go_sem] theorem Zml:(J5 o n).one=true:=by cases o<;>rfl
@[go_sem] theorem Zhr:A5 (J5 o n)=true:=by cases o<;>rfl
@[go_sem] theorem Zi2:GM (J5 o n)=false:=by cases o<;>rfl
@[go_sem] theorem Zk8:VY (J5 o n)=false:=by cases o<;>rfl
@[go_sem] theorem ZaQ (id ver:Nat):J5 (.row id ver) n = .vec id ver 0 n:=rfl
def VO.under:VO→Nat→Prop
 | .nil,_=>True
 | .row id _,k=>id<k
@[go_sem] theorem Zji {nb nr nl:Nat}:Under nb nr nl (J5 o n)↔o.under nr:=by
 cases o with
 | nil=>exact ⟨fun _=>trivial,fun _ => .list (by simp) trivial⟩
 | row id ver=>exact ⟨fun h=>by cases h;assumption,fun h => .vec h⟩
@[go_sem] theorem Zgs (k:Nat):VO.nil.under k=True:=rfl
@[go_sem] theorem QR (id ver k:Nat):(VO.row id ver).under k=(id<k):=rfl
end
def PN:VO→List RowA→VO
 | .nil,rows => .row rows.length 0
 | .row id ver,_ => .row id (ver+1)
def Q1:VO→List RowA→Nat→List AV→List RowA
 | .nil,rows,sz,cs=>rows++[.vec 0 sz cs]
 | .row id ver,rows,sz,cs=>rows.set id (.vec (ver+1) sz cs)
section
variable {Rw rows:List RowA} {l:List (Nat × Nat × Own)} {ho:Own} {v:List VE} {o:VO} {sz:Nat} {cs:List AV}
theorem OwnsAt.up {lo:Nat} {x:Nat × Nat × Own} (h:OwnsAt lo ho rows x) (r:List RowA):OwnsAt lo ho (rows++r) x:=by
 rcases h with h | ⟨id,h1,h2,h3⟩
 ·exact .inl h
 ·exact .inr ⟨id,h1,h2,by rw [List.getElem?_append_left (Ag.1 h3).1];exact h3⟩
theorem OwnsAt.set {lo:Nat} {x:Nat × Nat × Own} (h:OwnsAt lo ho rows x) {i:Nat} {a s:Nat} {c:List AV} (hi:rows[i]? = some (.vec a s c)) (r:RowA):OwnsAt lo ho (rows.set i r) x:=by
 rcases h with h | ⟨id,h1,h2,h3⟩
 ·exact .inl h
 ·refine .inr ⟨id,h1,h2,?_⟩
  rw [List.getElem?_set_ne (fun e=>by rw [e,h3] at hi;cases hi)]
  exact h3
theorem VAt.lt {lo:Nat} {x:VE} (h:VAt lo rows x):x.1.under rows.length:=by
 rcases h with h | ⟨id,ver,h1,h2,h3⟩
 ·rw [h.1];trivial
 ·rw [h1];exact (Ag.1 h3).1
theorem Owns.nilV (h:Owns Rw rows l ho v) (sz:Nat):Owns Rw rows l ho ((.nil,sz,[])::v) :=
 ⟨h.len,h.keep,fun i r b q a=>h.calm i r b q fun x hx=>a x (List.mem_cons_of_mem _ hx),h.each,h.apart,fun x hx=>by
  rcases List.mem_cons.1 hx with rfl | hx
  ·exact .inl ⟨rfl,rfl⟩
  ·exact h.veach x hx,List.pairwise_cons.2 ⟨fun _ _ _ _ _ q=>(nomatch q),h.vapart⟩⟩
theorem Owns.newV (h:Owns Rw rows l ho v) (sz:Nat) (cs:List AV):Owns Rw (rows++[.vec 0 sz cs]) l ho ((.row rows.length 0,sz,cs)::v):=by
 have m:=h.len
 refine ⟨by simp;omega,fun i d g=>?_,fun i r c q f=>?_,fun x hx=>(h.each x hx).up _,h.apart,fun x hx=>?_,List.pairwise_cons.2 ⟨fun y j id a b q k=>?_,h.vapart⟩⟩
 ·rw [List.getElem?_append_left (by omega)];exact h.keep i d g
 ·by_cases d:i<rows.length
  ·rw [List.getElem?_append_left d] at c
   exact h.calm i r c q fun x hx=>f x (List.mem_cons_of_mem _ hx)
  ·have e:i=rows.length:=by
    have:=(Ag.1 c).1
    simp at this;omega
   exact absurd (by rw [e]) (f _ (List.mem_cons_self ..) 0)
 ·rcases List.mem_cons.1 hx with rfl | hx
  ·exact .inr ⟨_,_,rfl,m,by simp⟩
  ·exact (h.veach x hx).up _
 ·cases q
  have:=(h.veach y j).lt
  rw [k] at this
  exact Nat.lt_irrefl _ this
theorem Owns.setV {id ver:Nat} (h:Owns Rw rows l ho ((.row id ver,sz,cs)::v)) (ver':Nat) (cs':List AV):Owns Rw (rows.set id (.vec ver' sz cs')) l ho ((.row id ver',sz,cs')::v):=by
 obtain ⟨m,p,u,o,s,j,t⟩:=h
 obtain ⟨hid,hrow⟩:Rw.length≤id∧rows[id]? = some (.vec ver sz cs):=by
  rcases j _ (List.mem_cons_self ..) with q | ⟨c,ver',q1,q2,q3⟩
  ·cases q.1
  ·cases q1;exact ⟨q2,q3⟩
 have d:=(Ag.1 hrow).1
 obtain ⟨p1,p2⟩:=List.pairwise_cons.1 t
 refine ⟨by simpa using m,fun i w n=>?_,fun i r g q f=>?_,fun x hx=>(o x hx).set hrow _,s,fun x hx=>?_,List.pairwise_cons.2 ⟨fun y hy c a b q=>by cases q;exact p1 y hy id ver b rfl,p2⟩⟩
 ·rw [List.getElem?_set_ne (by omega)];exact p i w n
 ·by_cases e:id=i
  ·exact absurd (by rw [e]) (f _ (List.mem_cons_self ..) ver')
  ·rw [List.getElem?_set_ne e] at g
   refine u i r g q fun x hx=>?_
   rcases List.mem_cons.1 hx with rfl | hx
   ·intro a k;cases k;exact e rfl
   ·exact f x (List.mem_cons_of_mem _ hx)
 ·rcases List.mem_cons.1 hx with rfl | hx
  ·exact .inr ⟨id,ver',rfl,hid,by simp [d]⟩
  ·exact (j x (List.mem_cons_of_mem _ hx)).set (fun a k=>p1 x hx id ver a rfl k) _
theorem Owns.bump (h:Owns Rw rows l ho ((o,sz,cs)::v)) (cs':List AV):Owns Rw (Q1 o rows sz cs') l ho ((PN o rows,sz,cs')::v):=by
 cases o with
 | nil =>
  have b:Owns Rw rows l ho v:=⟨h.len,h.keep,fun i r d q c=>h.calm i r d q fun x hx=>by
   rcases List.mem_cons.1 hx with rfl | hx
   ·intro a k;cases k
   ·exact c x hx,h.each,h.apart,fun x hx=>h.veach x (List.mem_cons_of_mem _ hx),(List.pairwise_cons.1 h.vapart).2⟩
  exact b.newV sz cs'
 | row id ver=>exact h.setV (ver+1) cs'
theorem Owns.eqV {v':List VE} (h:Owns Rw rows l ho v) (he:v=v'):Owns Rw rows l ho v':=he▸h
theorem Owns.nilZ (h:Owns Rw rows l ho ((o,sz,cs)::v)) (hs:0<sz) {n:Nat} (hn:cs.length=n*sz):o = .nil→n=0:=fun e=>by
 rcases h.veach _ (List.mem_cons_self ..) with q | ⟨id,ver,q1,a,q3⟩
 ·have a:cs=[]:=q.2
  rw [a] at hn
  rcases Nat.eq_zero_or_pos n with w | w
  ·exact w
  ·have:=Nat.mul_pos w hs
   simp at hn;omega
 ·rw [e] at q1;cases q1
theorem Owns.lenV (h:Owns Rw rows l ho ((o,sz,cs)::v)) (hs:0<sz) {n:Nat} (hn:cs.length=n*sz) (P:Program) (t:TypeId):Tf P t (J5 o n)=((Kq P t).isSome=true,.val (.int .i64 n)):=by
 cases o with
 | nil=>rw [h.nilZ hs hn rfl];rfl
 | row id ver=>rfl
theorem Owns.underV (h:Owns Rw rows l ho v):∀ x∈v,x.1.under rows.length:=fun x a=>(h.veach x a).lt
theorem Owns.appendV {P:Program} {t el:TypeId} {by8 n m:Nat} {ag:Bool} (h:Owns Rw rows l ho ((o,sz,cs)::v)) (he:Kq P t=some (el,sz,ag,by8)) (hz:(C5 P el).isSome=true) (hs:0<sz) (hn:cs.length=n*sz) (hm:0<m)
  (hb:(n+m)*by8≤140737488355328) (hb2:n+m≤4611686018427387904) (ys:List AV) (hy:ys.length=m) (cs':List AV) (hc:cs++ys.flatMap (fun y=>y.pub.cells)=cs') :
  ∃ o' rows',Owns Rw rows' l ho ((o',sz,cs')::v)∧∀ (B:List (List AV)) (L:List LoopA) (o2:Own),BA P ⟨B,rows,L⟩ t (J5 o n) (.list ys o2)=((∀ y∈ys,y.cells.length=sz∧A5 y=true),J5 o' (n+m),⟨B,rows',L⟩):=by
 subst hc
 refine ⟨_,_,h.bump _,fun B L o2=>?_⟩
 cases o with
 | nil =>
  have e0:=h.nilZ hs hn rfl
  subst e0
  have ec:cs=[]:=List.length_eq_zero_iff.1 (by simpa using hn)
  subst ec
  simp only [J5,BA,he,AY,CE,CP,hs,hz,hy,hm,PN,Q1,List.length_nil,List.nil_append,Nat.zero_add,true_and,and_true,Prod.mk.injEq,eq_iff_iff,and_self]
  rw [Nat.zero_add] at hb hb2
  exact ⟨fun q=>q.2.2,fun q=>⟨hb,hb2,q⟩⟩
 | row id ver =>
  obtain ⟨id',ver',e,hlt,hv⟩:∃ id' ver',VO.row id ver = .row id' ver'∧id'<rows.length∧EW rows id' ver'=some (sz,cs):=by
   rcases h.veach _ (List.mem_cons_self ..) with q | ⟨id,ver,q1,q2,q3⟩
   ·cases q.1
   ·refine ⟨id,ver,q1,(Ag.1 q3).1,?_⟩
    simp only [EW,q3,if_true]
  cases e
  have a:cs.take (n*sz)=cs:=List.take_of_length_le (by omega)
  have b:=hb
  simp only [J5,BA,he,hv,AY,CE,CP,hs,hz,hy,PN,Q1,a,Nat.le_of_eq hn.symm,true_and,and_true,Prod.mk.injEq,eq_iff_iff]
  exact ⟨fun q=>q.2.2,fun q=>⟨hb,hb2,q⟩⟩
theorem Owns.callV {rows':List RowA} {v':List VE} (h:Owns Rw rows l ho v) (hc:Owns rows rows' [] .none v'):Owns Rw rows' l ho (v'++v):=by
 have p:=h.len
 have t:=hc.len
 have keep:∀ i,i<rows.length→rows'[i]? = rows[i]? := fun i g=>hc.keep i g (fun q=>by cases q)
 have d:∀ x∈v,x.1.under rows.length:=h.underV
 have new:∀ x∈v',∀ id c,x.1 = .row id c→rows.length≤id:=fun x hx id c e=>by
  rcases hc.veach x hx with q | ⟨id',ver',q1,q2,q3⟩
  ·rw [q.1] at e;cases e
  ·rw [q1] at e;cases e;exact q2
 refine ⟨by omega,fun i g n=>?_,fun i r f q j=>?_,fun x hx=>?_,h.apart,fun x hx=>?_,List.pairwise_append.2 ⟨hc.vapart,h.vapart,fun x hx y o id a b e k=>?_⟩⟩
 ·rw [keep i (by omega)];exact h.keep i g n
 ·by_cases e:rows.length≤i
  ·exact hc.calm i r f (.inl e) fun x hx=>j x (List.mem_append_left _ hx)
  ·rw [keep i (by omega)] at f
   exact h.calm i r f q fun x hx=>j x (List.mem_append_right _ hx)
 ·rcases h.each x hx with q | ⟨id,q1,q2,q3⟩
  ·exact .inl q
  ·exact .inr ⟨id,q1,q2,by rw [keep id (Ag.1 q3).1];exact q3⟩
 ·rcases List.mem_append.1 hx with hx | hx
  ·rcases hc.veach x hx with q | ⟨id,c,q1,q2,q3⟩
   ·exact .inl q
   ·exact .inr ⟨id,c,q1,by omega,q3⟩
  ·rcases h.veach x hx with q | ⟨id,c,q1,q2,q3⟩
   ·exact .inl q
   ·exact .inr ⟨id,c,q1,q2,by rw [keep id (Ag.1 q3).1];exact q3⟩
 ·have s:=new x hx id a e
  have m:=d y o
  rw [k] at m
  exact absurd m (by simp only [VO.under];omega)
theorem Owns.dropV {x:VE} (h:Owns Rw rows l ho ((.nil,sz,cs)::v)):Owns Rw rows l ho v :=
 ⟨h.len,h.keep,fun i r c q b=>h.calm i r c q fun x hx=>by
  rcases List.mem_cons.1 hx with rfl | hx
  ·intro a k;cases k
  ·exact b x hx,h.each,h.apart,fun x hx=>h.veach x (List.mem_cons_of_mem _ hx),(List.pairwise_cons.1 h.vapart).2⟩
theorem Owns.deadV {id ver:Nat} (h:Owns Rw rows l ho ((.row id ver,sz,cs)::v)):Owns Rw (rows.set id (.dead (ver+1))) l ho v:=by
 obtain ⟨d,m,t,j,n,c,s⟩:=h
 obtain ⟨hid,hrow⟩:Rw.length≤id∧rows[id]? = some (.vec ver sz cs):=by
  rcases c _ (List.mem_cons_self ..) with q | ⟨id',ver',q1,q2,q3⟩
  ·cases q.1
  ·cases q1;exact ⟨q2,q3⟩
 have b:=(Ag.1 hrow).1
 obtain ⟨g,p⟩:=List.pairwise_cons.1 s
 refine ⟨by simpa using d,fun i u f=>?_,fun i r hr q o=>?_,fun x hx=>(j x hx).set hrow _,n,fun x hx=>?_,p⟩
 ·rw [List.getElem?_set_ne (by omega)];exact m i u f
 ·by_cases e:id=i
  ·subst e
   rw [List.getElem?_set_self b] at hr
   cases hr;rfl
  ·rw [List.getElem?_set_ne e] at hr
   refine t i r hr q fun x hx=>?_
   rcases List.mem_cons.1 hx with rfl | hx
   ·intro a k;cases k;exact e rfl
   ·exact o x hx
 ·exact (c x (List.mem_cons_of_mem _ hx)).set (fun a k=>g x hx id ver a rfl k) _
end
section
variable {P:Program} {w0:World} {n:Nat} {e:Env} {st:St} {M0:Mem} {W0:World} {ro:Option Nat} {Q:AQ} {c:Code}
variable {Rw:List RowA} {lw:List (Nat × Nat × Own)} {oh:Own} {v:List VE} {o:VO} {sz m:Nat} {cs xs:List AV}
theorem S9 (l i:Nat) {bs:List AV} (hl:st.boxes[l]? = some bs) (hi:bs[i]? = some (J5 o m)) (ho:Owns Rw st.rows lw oh ((o,sz,cs)::v)) (ag:Bool) (hag:ag=true∨sz=1) (hs:0<sz) (hn:cs.length=m*sz) (hx:PH sz ag cs 0 m=xs)
  (h:∀ rows',Owns Rw rows' lw oh v→GL P w0 n M0 W0 ro c Q e { st with boxes:=st.boxes.set l (bs.set i (.list xs .none)),rows:=rows' }):GL P w0 n M0 W0 ro c Q e st:=by
 cases o with
 | nil =>
  have e0:=ho.nilZ hs hn rfl
  subst e0
  have ex:xs=[]:=by rw [←hx];rfl
  subst ex
  exact Tc l i hl hi rfl (h _ (ho.dropV (x:=(.nil,0,[]))))
 | row id ver =>
  rcases ho.veach _ (List.mem_cons_self ..) with q | ⟨id',ver',q1,q2,q3⟩
  ·cases q.1
  ·cases q1
   subst hx
   exact OG l i ag hl hi (by simp only [EW,q3,if_true]) hag (by rw [Nat.zero_add];omega) (h _ ho.deadV)
end
theorem Zbc {α:Type} {f:α→AV} {g:α→List AV} (sz:Nat) (hf:∀ x,f x = .agg (g x)) (hg:∀ x,(g x).length=sz) (xs:List α):PH sz true (xs.flatMap fun x=>(f x).cells) 0 xs.length=xs.map f:=by
 have b:(xs.flatMap fun x=>(f x).cells)=xs.flatMap g:=by
  congr 1;funext x;rw [hf];rfl
 rw [b]
 refine List.ext_getElem (by simp [PH]) fun i c a=>?_
 simp only [List.length_map] at a
 simp only [PH,List.getElem_map,List.getElem_range,Nat.zero_add,PP,if_true]
 rw [Ht sz hg (List.getElem?_eq_getElem a),hf]
theorem Hg {α:Type} {f:α→AV} {sz:Nat} (hf:∀ x,(f x).cells.length=sz) (xs:List α):(xs.flatMap fun x=>(f x).cells).length=xs.length*sz:=by
 induction xs with
 | nil=>simp
 | cons x xs ih=>rw [List.flatMap_cons,List.length_append,ih,hf,List.length_cons,Nat.succ_mul,Nat.add_comm]
theorem YY {α:Type} {f:α→AV} {sz:Nat} (hf:∀ x,(f x).cells.length=sz) {xs:List α} {i:Nat} {x:α} (h:xs[i]? = some x) :
  (∀ j,j<sz→Yb (xs.flatMap fun x=>(f x).cells) (i*sz+j)=Yb (f x).cells j)∧(∀ j k,j+k≤sz→((xs.flatMap fun x=>(f x).cells).drop (i*sz+j)).take k=((f x).cells.drop j).take k):=by
 have a:=Ht (f:=fun x=>(f x).cells) sz hf h
 have b:∀ j k,j+k≤sz→((xs.flatMap fun x=>(f x).cells).drop (i*sz+j)).take k=((f x).cells.drop j).take k:=fun j k d=>by
  rw [←a,List.drop_take,List.take_take,List.drop_drop,Nat.min_eq_left (by omega)]
 refine ⟨fun j e=>?_,b⟩
 have:=b j 1 (by omega)
 simp only [Yb,List.getD_eq_getElem?_getD]
 have c:∀ (l:List AV) (q:Nat),l[q]? = ((l.drop q).take 1)[0]? := fun l q=>by simp [List.getElem?_take_of_lt,List.getElem?_drop]
 rw [c,c (f x).cells,this]
section
variable {P:Program} {w0:World} {f:FuncId} {st:St}
def finV (st:St) (Post:AV→St→Prop) (r:AV) (s:St):Prop :=
 st.boxes.length≤s.boxes.length∧st.rows.length≤s.rows.length∧st.loops.length≤s.loops.length∧Calm st.boxes.length s.rows.length st.loops.length (s.cut st.boxes.length s.rows.length st.loops.length) ∧
  Under st.boxes.length s.rows.length st.loops.length r∧Post r (s.cut st.boxes.length s.rows.length st.loops.length)
theorem ACalls.finV {args:List AV} {Post:AV→St→Prop} (h:ACalls P w0 f args st (finV st Post)):ACalls P w0 f args st Post:=by
 refine ⟨h.1,fun M w b a c=>(h.2 M w b a c).mono ?_⟩
 rintro en m ⟨v,M',r,d,j,⟨i,n,e,l,g,k⟩,h3,h4,h5⟩
 exact ⟨v,M'.cut st.boxes.length d.rows.length st.loops.length,r,_,j,k,h3.cut (by have:=a.N;omega) (by have:=a.NR;omega) (by have:=a.loop.NL;omega) (by rw [h4.loop.NL];exact e),h4.cut i (Nat.le_refl _) e l,h5.cut g⟩
theorem ZkY {B B' X:List (List AV)} {R0 rows:List RowA} {L l:List LoopA} {Post:AV→St→Prop} {r:AV} {ow:List (Nat × Nat × Own)} {v:List VE} (ho:Owns R0 rows ow .none v) (hc:Calm B.length R0.length L.length ⟨B',R0,L⟩) (hB:B'.length=B.length) (hu:Under B.length rows.length L.length r)
  (hv:∀ x∈v,∀ y∈x.2.2,Under B.length rows.length L.length y) (hp:Post r ⟨B',rows,L⟩):Go.Ev.finV ⟨B,R0,L⟩ Post r ⟨B'++X,rows,L++l⟩:=by
 have e:St.cut ⟨B'++X,rows,L++l⟩ B.length rows.length L.length=⟨B',rows,L⟩:=by simp [St.cut,←hB]
 have d:=ho.len
 refine ⟨by simp [hB],d,by simp,?_,hu,by simp only [e];exact hp⟩
 simp only [e]
 exact ⟨ho.rowsCalm (Nat.le_refl _) hc.rows hv,fun cs a x b=>C3 (Nat.le_refl _) d (Nat.le_refl _) (hc.boxes cs a x b),fun f a k x b c=>C3 (Nat.le_refl _) d (Nat.le_refl _) (hc.loops f a k x b c)⟩
theorem ZdJ {B B' X:List (List AV)} {R0 rows:List RowA} {L:List LoopA} {Post:AV→St→Prop} {r:AV} {ow:List (Nat × Nat × Own)} {v:List VE} (ho:Owns R0 rows ow .none v) (hc:Calm B.length R0.length L.length ⟨B',R0,L⟩) (hB:B'.length=B.length) (hu:Under B.length rows.length L.length r)
  (hv:∀ x∈v,∀ y∈x.2.2,Under B.length rows.length L.length y) (hp:Post r ⟨B',rows,L⟩):Go.Ev.finV ⟨B,R0,L⟩ Post r ⟨B'++X,rows,L⟩:=by
 have:=ZkY (X:=X) (l:=[]) ho hc hB hu hv hp
 rwa [List.append_nil] at this
end
abbrev VP (Rw:List RowA) (o:VO) (sz:Nat) (cs:List AV):Prop:=VAt 0 Rw (o,sz,cs)
theorem Owns.vp {Rw rows:List RowA} {l:List (Nat × Nat × Own)} {ho:Own} {v:List VE} {o:VO} {sz:Nat} {cs:List AV} (h:Owns Rw rows l ho ((o,sz,cs)::v)):VP rows o sz cs:=by
 rcases h.veach _ (List.mem_cons_self ..) with q | ⟨id,ver,q1,q2,q3⟩
 ·exact .inl q
 ·exact .inr ⟨id,ver,q1,Nat.zero_le _,q3⟩
theorem VP.up {Rw rows:List RowA} {o:VO} {sz:Nat} {cs:List AV} {l:List (Nat × Nat × Own)} {v:List VE} (h:VP Rw o sz cs) (ho:Owns Rw rows l .none v):VP rows o sz cs:=by
 rcases h with q | ⟨id,ver,q1,q2,q3⟩
 ·exact .inl q
 ·refine .inr ⟨id,ver,q1,q2,?_⟩
  rw [ho.keep id (Ag.1 q3).1 (fun e=>by cases e)]
  exact q3
theorem VP.row {rows:List RowA} {o:VO} {sz:Nat} {cs:List AV} (h:VP rows o sz cs) (hne:0<cs.length):∃ id ver,o = .row id ver∧id<rows.length∧EW rows id ver=some (sz,cs):=by
 rcases h with q | ⟨id,ver,q1,a,q3⟩
 ·have a:cs=[]:=q.2
  rw [a] at hne;simp at hne
 ·refine ⟨id,ver,q1,(Ag.1 q3).1,?_⟩
  simp only [EW,q3,if_true]
theorem VP.lenV {rows:List RowA} {o:VO} {sz:Nat} {cs:List AV} (h:VP rows o sz cs) (hs:0<sz) {n:Nat} (hn:cs.length=n*sz) (P:Program) (t:TypeId):Tf P t (J5 o n)=((Kq P t).isSome=true,.val (.int .i64 n)):=by
 cases o with
 | nil =>
  rcases h with q | ⟨id,ver,q1,a,q3⟩
  ·have a:cs=[]:=q.2
   rw [a] at hn
   rcases Nat.eq_zero_or_pos n with w | w
   ·rw [w];rfl
   ·have:=Nat.mul_pos w hs
    simp at hn;omega
  ·cases q1
 | row id ver=>rfl
theorem VP.under {rows:List RowA} {o:VO} {sz:Nat} {cs:List AV} (h:VP rows o sz cs):o.under rows.length:=VAt.lt h
end Go.Ev
namespace Go.Ev
open Go Go.RowKit Go.Shelf Go.Lib Go.Proofs
structure InsLay (P:Program) (ρ:Ren) (nm:String) (sz bytes:Nat) (z:Value):Prop where
 mixed:P.follows .mixedOrders=true
 nmo:nm ≠ "runtime.NumGoroutine"
 f22:P.funcs[ρ.f 22]? = some { Body2.n22 ρ with name:=nm }
 ov:∀ (w:World) (x y:Value),(Extern.SlicesOverlaps.overlaps #[ρ.t 24,ρ.t 24] #[ρ.t 4] #[x,y]).run P w = .ok (.bool false) w→(callFunc (ρ.f 29) #[x,y]).run P w = .ok (.value (.bool false)) w
 t0:P.underlying (ρ.t 0)=some (TypeDesc.tuple #[])
 a0:∀ w,(isAgg (ρ.t 0)).run P w = .ok false w
 z0:∀ w,(Go.sizeOf (ρ.t 0)).run P w = .ok 1 w
 v0:∀ w,(zeroValue (ρ.t 0)).run P w = .ok (Value.tuple #[]) w
 t3:P.underlying (ρ.t 3)=some (TypeDesc.int IntKind.i64)
 a3:∀ w,(isAgg (ρ.t 3)).run P w = .ok false w
 z3:∀ w,(Go.sizeOf (ρ.t 3)).run P w = .ok 1 w
 v3:∀ w,(zeroValue (ρ.t 3)).run P w = .ok (Value.int IntKind.i64 0) w
 t4:P.underlying (ρ.t 4)=some (TypeDesc.bool)
 a4:∀ w,(isAgg (ρ.t 4)).run P w = .ok false w
 z4:∀ w,(Go.sizeOf (ρ.t 4)).run P w = .ok 1 w
 v4:∀ w,(zeroValue (ρ.t 4)).run P w = .ok (Value.bool false) w
 z9:∀ w,(Go.sizeOf (ρ.t 9)).run P w = .ok sz w
 t24:P.underlying (ρ.t 24)=some (TypeDesc.slice (ρ.t 9))
 a24:∀ w,(isAgg (ρ.t 24)).run P w = .ok false w
 z24:∀ w,(Go.sizeOf (ρ.t 24)).run P w = .ok 1 w
 v24:∀ w,(zeroValue (ρ.t 24)).run P w = .ok (Value.slice none 0 0) w
 i9:(P.info? (ρ.t 9)).map (fun i=>(i.zero,i.size,i.bytes))=some (some z,sz,bytes)
theorem Ri {P:Program} (w:World) (tS tR e:TypeId) (ht:P.underlying tS=some (.slice e)) (size:Nat) (hz:∀ w,(Go.sizeOf e).run P w = .ok size w)
  (a b:Addr) (la ca lb cb:Nat) (hne:a.block≠b.block) (tA tB:TypeId) (kA kB:Nat)
  (hsa:w.shape? a.block=some (tA,kA)) (hsb:w.shape? b.block=some (tB,kB)) (hkA:kA≠0) (hkB:kB≠0)
  (hfb:∀ j,w.frozen? { block:=b.block,off:=j }=false) (hb:b.spot=none) :
  (Extern.SlicesOverlaps.overlaps #[tS,tS] #[tR] #[.slice (some a) la ca,.slice (some b) lb cb]).run P w = .ok (.bool false) w:=by
 have d:(a.block != b.block)=true:=by simpa using hne
 have c:(a.block == b.block)=false:=by simpa using hne
 have f:w.frozen? b=false:=by
  obtain ⟨h,g,i⟩:=b
  cases hb
  exact hfb g
 change Sem.run P (α:=Value) (do
  let some t:=(#[tS,tS]:Array TypeId)[0]? | stuck "slices.overlaps: no parameter types"
  let .slice elem ← underlying t | stuck "slices.overlaps: slice type expected"
  let size ← sizeOf elem
  match (some a:Option Addr),(some b:Option Addr) with
  | some a,some b =>
   if la=0∨lb=0∨size=0 then pure (Value.bool false)
   else if a.block != b.block&&(← frozen a)&&(← frozen b) then unsupported .addressObserved
   else do
    if a.block != b.block then do
     noView a;noView b
     if ← mayBeOne a b then return Value.bool ((← choose (.extern "sameAddr.stringBytes" 2)) == 1)
    pure (Value.bool (a.block == b.block&&a.off<b.off+lb*size&&b.off<a.off+la*size))
  | _,_=>pure (Value.bool false)) w=_
 by_cases h0:la=0∨lb=0∨size=0
 ·simp [run_underlying ht,hz,h0]
 ·cases kB with
  | zero=>exact absurd rfl hkB
  | succ kB =>
  cases kA with
  | zero=>exact absurd rfl hkA
  | succ kA =>
   cases hfa:w.frozen? a<;>cases hfe:w.frozen? { block:=a.block,off:=kA+1 } <;>
    simp [run_underlying ht,hz,h0,d,c,frozen,noView,viewAt,mayBeOne,stringish,shape,Sem.run,hsa,hsb,hfa,hfe,f,hfb]
section
variable {P:Program} {ρ:Ren} {nm:String} {sz bytes:Nat} {z:Value}
theorem Lx (w:World) (dT sT ty elem:TypeId) (b o dLen dCap:Nat) (a:Addr) (sLen sCap:Nat) (cs:List Value)
  (hu:P.underlying dT=some (.slice elem)) (hs:(P.info? elem).map (·.size)=some sz) (hn:cs.length=Nat.min sLen dLen*sz)
  (hsrc:∀ j v,cs[j]? = some v→w.cell? (a.add j)=some v) (hc:∀ j,j<cs.length→(w.cell? ⟨b,o+j,none⟩).isSome=true) (hf:∀ j,j<cs.length→w.frozen? ⟨b,o+j,none⟩=false) (h1:∀ v∈cs,v.oneCell'=true) :
  (Builtin.copy_ #[dT,sT] ty #[.slice (some ⟨b,o,none⟩) dLen dCap,.slice (some a) sLen sCap]).run P w = .ok (goInt (Nat.min sLen dLen)) (w.setCells b o cs):=by
 have d:=run_loadCells_list (P:=P) w a cs hsrc
 have c:=run_storeCells_cells (P:=P) b o cs 0 w (by simpa using hc) (by simpa using hf) h1
 rw [Nat.add_zero] at c
 rw [hn] at d
 cases hq:P.info? elem with
 | none=>simp [hq] at hs
 | some i =>
  have e:i.size=sz:=by simpa [hq] using hs
  simp [Builtin.copy_,run_underlying hu,Builtin.lenOf,Builtin.firstCells,sizeOf,typeInfo,hq,e,d,c]
theorem Zb8 (L:InsLay P ρ nm sz bytes z) (b off n c i vb voff m vc:Nat) (cs vs:List Value) (w:World) (hi:i<n) (hm:0<m) (hroom:n+m≤c) (hc63:c≤9223372036854775807) (hvb:vb≠b)
  (hcl:cs.length=n*sz) (hvl:vs.length=m*sz)
  (hcs:∀ j v,cs[j]? = some v→w.cell? ⟨b,off+j,none⟩=some v) (hsp:∀ j,j<n*sz+m*sz→(w.cell? ⟨b,off+j,none⟩).isSome=true) (hfz:∀ j,j<n*sz+m*sz→w.frozen? ⟨b,off+j,none⟩=false)
  (hvs:∀ j v,vs[j]? = some v→w.cell? ⟨vb,voff+j,none⟩=some v) (h1c:∀ v∈cs,v.oneCell'=true) (h1v:∀ v∈vs,v.oneCell'=true)
  (tA tB:TypeId) (kA kB:Nat) (hsa:w.shape? vb=some (tA,kA)) (hsb:w.shape? b=some (tB,kB)) (hkA:kA≠0) (hkB:kB≠0) (hfb:∀ j,w.frozen? ⟨b,j,none⟩=false) :
  Calls P (ρ.f 22) #[.slice (some ⟨b,off,none⟩) n c,.int .i64 i,.slice (some ⟨vb,voff,none⟩) m vc] w fun e w' =>
   e = .returned (.slice (some ⟨b,off,none⟩) (n+m) c)∧w'=(w.drew.setCells b (off+(i*sz+m*sz)) (cs.drop (i*sz))).setCells b (off+i*sz) vs:=by
 have t0:=L.t0;have a0:=L.a0;have z0:=L.z0;have v0:=L.v0;have t3:=L.t3;have a3:=L.a3;have z3:=L.z3;have v3:=L.v3;have t4:=L.t4;have a4:=L.a4;have z4:=L.z4;have v4:=L.v4;have z9:=L.z9;have af:=L.t24;have Z:=L.a24;have ai:=L.z24;have U:=L.v24
 have u0:=run_underlying L.t0;have u3:=run_underlying L.t3;have u4:=run_underlying L.t4;have ah:=run_underlying L.t24
 have ae:¬ ((m:Int)=0):=by omega
 have N:¬ ((i:Int)=(n:Int)):=by omega
 have s:(P.info? (ρ.t 9)).map (·.size)=some sz:=by
  obtain ⟨i0,D,h0,h1,h2⟩:=info_parts L.i9
  rw [D];simp [h1]
 have H:=L.mixed
 have aa:IntKind.i64.wrap ((i:Int)+(m:Int))=(i:Int)+(m:Int):=by rw [IntKind.wrap_i64];omega
 have ab:(0:Int)≤(i:Int)+(m:Int):=by omega
 have J:i≤n:=by omega
 have aj:((i:Int)+(m:Int)).toNat=i+m:=by omega
 have O:¬ (c=i+m):=by omega
 have ad:(i:Int)≤(n:Int)+(m:Int):=by omega
 have ag:¬ (c=i):=by omega
 have V:(i+m)*sz=i*sz+m*sz:=Nat.add_mul ..
 have Q:i*sz≤n*sz:=Nat.mul_le_mul_right _ J
 have u:(n-i)*sz=n*sz-i*sz:=Nat.sub_mul ..
 have E:∀ K F,(callFunc (ρ.f 29) #[.slice (some ⟨vb,voff,none⟩) m vc,.slice (some ⟨b,off+(i*sz+m*sz),none⟩) K F]).run P w = .ok (.value (.bool false)) w:=fun K F =>
  L.ov _ _ _ (Ri w (ρ.t 24) (ρ.t 4) (ρ.t 9) L.t24 sz L.z9 ⟨vb,voff,none⟩ ⟨b,off+(i*sz+m*sz),none⟩ m vc K F hvb tA tB kA kB hsa hsb hkA hkB hfb rfl)
 have C:(cs.drop (i*sz)).length=n*sz-i*sz:=by rw [List.length_drop,hcl]
 have d:∀ l o y,(Builtin.copy_ #[(ρ.t 24),(ρ.t 24)] l #[.slice (some ⟨b,off+(i*sz+m*sz),none⟩) (n+m-(i+m)) o,.slice (some ⟨b,off+i*sz,none⟩) (n+m-i) y]).run P w.drew = .ok (goInt ((n-i:Nat):Int)) (w.drew.setCells b (off+(i*sz+m*sz)) (cs.drop (i*sz))):=fun l o y=>by
  have a:Nat.min (n+m-i) (n+m-(i+m))=n-i:=by simp only [Nat.min_def];split<;>omega
  have:=Lx (P:=P) w.drew (ρ.t 24) (ρ.t 24) l (ρ.t 9) b (off+(i*sz+m*sz)) (n+m-(i+m)) o ⟨b,off+i*sz,none⟩ (n+m-i) y (cs.drop (i*sz)) L.t24 s (by rw [C,a,u])
   (fun j v g=>by rw [Addr.add_lit,Nat.add_assoc];exact hcs (i*sz+j) v (by rwa [List.getElem?_drop] at g))
   (fun j g=>by rw [Nat.add_assoc];exact hsp _ (by omega)) (fun j g=>by rw [Nat.add_assoc];exact hfz _ (by omega)) (fun v hv=>h1c v (List.mem_of_mem_drop hv))
  rwa [a] at this
 obtain ⟨W1,hW1⟩:∃ W1,W1=w.drew.setCells b (off+(i*sz+m*sz)) (cs.drop (i*sz)):=⟨_,rfl⟩
 have p:∀ k,k<n*sz+m*sz→(W1.cell? ⟨b,off+k,none⟩).isSome=true:=fun k Y=>by
  rw [hW1]
  exact isSome_setCells b _ _ _ (fun j g=>by rw [Nat.add_assoc];exact hsp _ (by omega)) _ (hsp k Y)
 have r:∀ (W:World),(∀ x,W.cell? x=W1.cell? x)→(∀ x,W.frozen? x=W1.frozen? x)→∀ l o,(Builtin.copy_ #[(ρ.t 24),(ρ.t 24)] l #[.slice (some ⟨b,off+i*sz,none⟩) (n+m-i) o,.slice (some ⟨vb,voff,none⟩) m vc]).run P W = .ok (goInt m) (W.setCells b (off+i*sz) vs):=fun W q G l o=>by
  have a:Nat.min m (n+m-i)=m:=by simp only [Nat.min_def];split<;>omega
  have:=Lx (P:=P) W (ρ.t 24) (ρ.t 24) l (ρ.t 9) b (off+i*sz) (n+m-i) o ⟨vb,voff,none⟩ m vc vs L.t24 s (by rw [hvl,a])
   (fun j v g=>by
    rw [Addr.add_lit,q,hW1,World.cell?_setCells_out b _ _ _ _ (fun h _=>absurd h hvb)]
    exact hvs j v g)
   (fun j g=>by rw [q,Nat.add_assoc];exact p _ (by omega)) (fun j g=>by rw [G,hW1,World.frozen?_setCells,Nat.add_assoc];exact hfz _ (by omega)) h1v
  rwa [a] at this
 rw [←hW1] at d
 have FG:=L.f22
 go_enter FG,Body2.n22_ntmps ρ
 go_wp2_with (simp only [E])
 go_region_law_o (refine step_copy_runI rfl _ _ (ρ.t 24) (ρ.t 24) rfl _ _ (by simp [Act.eval,Act.put]) (by simp [Act.eval,Act.put]) (d _ _ _) ?_)
 go_wp2_with (at_builtin;refine wpList_copy_runI _ rfl _ _ (ρ.t 24) (ρ.t 24) rfl _ _ rfl rfl (r _ (fun _=>rfl) (fun _=>rfl) _ _) ?_)
 go_ret
 first | exact ⟨rfl,rfl⟩ | exact ⟨rfl,by rw [hW1]⟩
theorem ZcX (L:InsLay P ρ nm sz bytes z) (hzc:z.cells.size=sz) (h0:0<sz) (b off n c i vb voff m vc:Nat) (cs vs:List Value) (w:World) (hi:i<n) (hm:0<m) (hnc:n≤c) (hroom:c<n+m) (hbig:(n+m)*bytes≤140737488355328) (hbig2:n+m≤4611686018427387904)
  (hcl:cs.length=n*sz) (hvl:vs.length=m*sz)
  (hcs:∀ j v,cs[j]? = some v→w.cell? ⟨b,off+j,none⟩=some v)
  (hvs:∀ j v,vs[j]? = some v→w.cell? ⟨vb,voff+j,none⟩=some v) (h1c:∀ v∈cs,v.oneCell'=true) (h1v:∀ v∈vs,v.oneCell'=true) :
  Calls P (ρ.f 22) #[.slice (some ⟨b,off,none⟩) n c,.int .i64 i,.slice (some ⟨vb,voff,none⟩) m vc] w fun e w' =>
   e = .returned (.slice (some ⟨w.heap.size,0,none⟩) (n+m) (grownCap w (n+m) c (ρ.t 9))) ∧
   w'=(((w.alloc (.cells ((cs.take (i*sz)).toArray++Builtin.zeroCells z.cells (n+m-i)++Builtin.zeroCells z.cells (grownCap w (n+m) c (ρ.t 9)-(n+m))) (ρ.t 9))).drew.setCells w.heap.size (i*sz) vs).drew).setCells w.heap.size (i*sz+m*sz) (cs.drop (i*sz)):=by
 have t0:=L.t0;have a0:=L.a0;have z0:=L.z0;have v0:=L.v0;have t3:=L.t3;have a3:=L.a3;have z3:=L.z3;have v3:=L.v3;have t4:=L.t4;have a4:=L.a4;have z4:=L.z4;have v4:=L.v4;have z9:=L.z9;have a7:=L.t24;have ay:=L.a24;have a9:=L.z24;have av:=L.v24
 have u0:=run_underlying L.t0;have u3:=run_underlying L.t3;have u4:=run_underlying L.t4;have a8:=run_underlying L.t24
 have ai:=L.mixed
 obtain ⟨N,E,Y,D,C⟩:=info_parts L.i9
 have a6:¬ ((m:Int)=0):=by omega
 have ar:¬ ((i:Int)=(n:Int)):=by omega
 have ax:(c:Int)<(n:Int)+(m:Int):=by omega
 have H:(P.info? (ρ.t 9)).map (·.size)=some sz:=by rw [E];simp [D]
 have u:(i+m)*sz=i*sz+m*sz:=Nat.add_mul ..
 have au:i*sz≤n*sz:=Nat.mul_le_mul_right _ (by omega)
 have am:0<m*sz:=Nat.mul_pos hm h0
 have K:(n-i)*sz=n*sz-i*sz:=Nat.sub_mul ..
 have ah:(n+m)*sz=n*sz+m*sz:=Nat.add_mul ..
 have ao:0<n*sz:=Nat.mul_pos (by omega) h0
 have O:b<w.heap.size:=block_lt_of_cell (hcs 0 _ (List.getElem?_eq_getElem (by omega)))
 have Q:vb<w.heap.size:=block_lt_of_cell (hvs 0 _ (List.getElem?_eq_getElem (by omega)))
 have y:(n:Int)+(m:Int)-(i:Int)=((n+m-i:Nat):Int):=by omega
 have s:i+(n+m-i)=n+m:=by omega
 have o:(Builtin.firstCells N.size i (.slice (some ⟨b,off,none⟩) i c)).run P w.drew = .ok (cs.take (i*sz)).toArray w.drew:=by
  rw [D]
  exact run_firstCells_some w.drew sz i ⟨b,off,none⟩ i c (cs.take (i*sz)) (by rw [List.length_take];omega) (fun j v hj=>by
   rw [Addr.add_lit]
   rw [List.getElem?_take] at hj
   split at hj
   ·exact hcs j v hj
   ·cases hj)
 have p:n+m≤maxLen:=by unfold maxLen;omega
 have l:∀ g,(Builtin.append_ #[(ρ.t 24),(ρ.t 3)] g #[.slice (some ⟨b,off,none⟩) i c,.int .i64 ((n:Int)+(m:Int)-(i:Int))]).run P w =
   .ok (.slice (some ⟨w.heap.size,0,none⟩) (n+m) (grownCap w (n+m) c (ρ.t 9))) (w.drew.alloc (.cells ((cs.take (i*sz)).toArray++Builtin.zeroCells z.cells (n+m-i)++Builtin.zeroCells z.cells (grownCap w (n+m) c (ρ.t 9)-(n+m))) (ρ.t 9))):=fun g=>by
  have ak:(n+m-i)*N.bytes≤(n+m)*N.bytes:=Nat.mul_le_mul_right _ (by omega)
  have h:=Lib.run_append_grow_zeros w (ρ.t 24) (ρ.t 3) g (ρ.t 9) N _ .i64 .i64 L.t24 L.t3 E Y (some ⟨b,off,none⟩) i c (cs.take (i*sz)) o (n+m-i) (by omega) (by omega) (by omega) (by omega) (by rw [C] at ak ⊢; omega) (by rw [C,s];exact growslice_fits hroom hbig)
  rw [s] at h
  rw [y]
  exact h
 obtain ⟨G,hG⟩:∃ G,G=grownCap w (n+m) c (ρ.t 9):=⟨_,rfl⟩
 have bc:n+m≤G:=by rw [hG];exact grownCap_ge w _ _ _
 have aq:G≤9223372036854775807:=by
  have:=grownCap_le_maxLen w (n+m) c (ρ.t 9) p
  rw [←hG] at this
  unfold maxLen at this
  omega
 obtain ⟨ROW,hROW⟩:∃ ROW:Array Value,ROW=(cs.take (i*sz)).toArray++Builtin.zeroCells z.cells (n+m-i)++Builtin.zeroCells z.cells (G-(n+m)):=⟨_,rfl⟩
 rw [←hG] at l ⊢
 rw [←hROW] at l ⊢
 have ad:n*sz+m*sz≤ROW.size:=by
  have e1:(n+m-i)*sz=n*sz+m*sz-i*sz:=by rw [Nat.sub_mul,ah]
  rw [hROW]
  simp only [Array.size_append,List.size_toArray,List.length_take,size_zeroCells,hzc]
  omega
 obtain ⟨W1,hW1⟩:∃ W1,W1=w.drew.alloc (.cells ROW (ρ.t 9)):=⟨_,rfl⟩
 rw [←hW1] at l
 have hN:∀ j,j<n*sz+m*sz→(W1.cell? ⟨w.heap.size,j,none⟩).isSome=true:=fun j hj=>by
  rw [hW1,World.cell?_alloc_at (w:=w.drew) ROW _ w.heap.size j rfl,Array.getElem?_eq_getElem (by omega)];rfl
 have J:∀ j,W1.frozen? ⟨w.heap.size,j,none⟩=false:=fun j=>by rw [hW1];exact World.frozen?_alloc_at (w:=w.drew) ROW _ w.heap.size j rfl
 have U:∀ j v,w.cell? ⟨b,j,none⟩=some v→W1.cell? ⟨b,j,none⟩=some v:=fun j v h=>by rw [hW1,World.cell?_alloc_past (w:=w.drew) _ b j O];exact h
 have ab:∀ j v,w.cell? ⟨vb,j,none⟩=some v→W1.cell? ⟨vb,j,none⟩=some v:=fun j v h=>by rw [hW1,World.cell?_alloc_past (w:=w.drew) _ vb j Q];exact h
 have F:∀ (W:World),(∀ x,W.cell? x=W1.cell? x)→(∀ x,W.frozen? x=W1.frozen? x)→∀ g q,(Builtin.copy_ #[(ρ.t 24),(ρ.t 24)] g #[.slice (some ⟨w.heap.size,i*sz,none⟩) (n+m-i) q,.slice (some ⟨vb,voff,none⟩) m vc]).run P W = .ok (goInt m) (W.setCells w.heap.size (i*sz) vs):=fun W d r g q=>by
  have a:Nat.min m (n+m-i)=m:=by simp only [Nat.min_def];split<;>omega
  have:=Lx (P:=P) W (ρ.t 24) (ρ.t 24) g (ρ.t 9) w.heap.size (i*sz) (n+m-i) q ⟨vb,voff,none⟩ m vc vs L.t24 H (by rw [hvl,a])
   (fun j v hj=>by rw [Addr.add_lit,d];exact ab _ v (hvs j v hj))
   (fun j hj=>by rw [d];exact hN _ (by omega)) (fun j hj=>by rw [r];exact J _) h1v
  rwa [a] at this
 have a2:¬ (G=i):=by omega
 have ap:¬ (G=i+m):=by omega
 have aw:¬ (c=i):=by omega
 have V:b≠w.heap.size:=by omega
 have aa:(cs.drop (i*sz)).length=n*sz-i*sz:=by rw [List.length_drop,hcl]
 have k:∀ (W:World),(∀ x,W.cell? x=(W1.setCells w.heap.size (i*sz) vs).cell? x)→(∀ x,W.frozen? x=(W1.setCells w.heap.size (i*sz) vs).frozen? x)→∀ g q Z,(Builtin.copy_ #[(ρ.t 24),(ρ.t 24)] g #[.slice (some ⟨w.heap.size,i*sz+m*sz,none⟩) (n+m-(i+m)) q,.slice (some ⟨b,off+i*sz,none⟩) (n-i) Z]).run P W = .ok (goInt ((n-i:Nat):Int)) (W.setCells w.heap.size (i*sz+m*sz) (cs.drop (i*sz))):=fun W d r g q Z=>by
  have a:Nat.min (n-i) (n+m-(i+m))=n-i:=by simp only [Nat.min_def];split<;>omega
  have:=Lx (P:=P) W (ρ.t 24) (ρ.t 24) g (ρ.t 9) w.heap.size (i*sz+m*sz) (n+m-(i+m)) q ⟨b,off+i*sz,none⟩ (n-i) Z (cs.drop (i*sz)) L.t24 H (by rw [aa,a,K])
   (fun j v hj=>by
    rw [Addr.add_lit,d,World.cell?_setCells_out _ _ _ _ _ (fun h _=>absurd h V),Nat.add_assoc]
    exact U _ v (hcs (i*sz+j) v (by rwa [List.getElem?_drop] at hj)))
   (fun j hj=>by rw [d];exact isSome_setCells _ _ _ _ (fun t ht=>hN _ (by omega)) _ (hN _ (by omega)))
   (fun j hj=>by rw [r,World.frozen?_setCells];exact J _) (fun v hv=>h1c v (List.mem_of_mem_drop hv))
  rwa [a] at this
 subst hW1
 have ag:∀ x,((w.alloc (.cells ROW (ρ.t 9))).drew).cell? x=(w.drew.alloc (.cells ROW (ρ.t 9))).cell? x:=fun x=>rfl
 have af:∀ x,((w.alloc (.cells ROW (ρ.t 9))).drew).frozen? x=(w.drew.alloc (.cells ROW (ρ.t 9))).frozen? x:=fun x=>rfl
 have aj:∀ x,(((w.alloc (.cells ROW (ρ.t 9))).drew.setCells w.heap.size (i*sz) vs).drew).cell? x=((w.drew.alloc (.cells ROW (ρ.t 9))).setCells w.heap.size (i*sz) vs).cell? x:=fun x=>rfl
 have ae:∀ x,(((w.alloc (.cells ROW (ρ.t 9))).drew.setCells w.heap.size (i*sz) vs).drew).frozen? x=((w.drew.alloc (.cells ROW (ρ.t 9))).setCells w.heap.size (i*sz) vs).frozen? x:=fun x=>rfl
 have az:IntKind.i64.wrap ((i:Int)+(m:Int))=(i:Int)+(m:Int):=by rw [IntKind.wrap_i64];omega
 have a1:(0:Int)≤(i:Int)+(m:Int):=by omega
 have ba:i≤n:=by omega
 have bb:((i:Int)+(m:Int)).toNat=i+m:=by omega
 have a5:(i:Int)≤(n:Int):=by omega
 clear y s o hROW hG ad
 have FG:=L.f22
 rw [←u] at k ⊢
 go_enter FG,Body2.n22_ntmps ρ
 go_wp2_with (first
  | (at_builtin;refine Lib.wpList_append_run _ rfl _ _ _ _ rfl _ _ rfl rfl _ _ (l _) ?_)
  | (at_builtin;refine wpList_copy_runI _ rfl _ _ (ρ.t 24) (ρ.t 24) rfl _ _ rfl rfl (F _ ag af _ _) ?_)
  | (at_builtin;refine wpList_copy_runI _ rfl _ _ (ρ.t 24) (ρ.t 24) rfl _ _ rfl rfl (k _ (fun _=>rfl) (fun _=>rfl) _ _ _) ?_))
 go_region_law_o (refine step_copy_runI rfl _ _ (ρ.t 24) (ρ.t 24) rfl (.slice (some ⟨w.heap.size,(i+m)*sz,none⟩) (n+m-(i+m)) (G-(i+m))) (.slice (some ⟨b,off+i*sz,none⟩) (n-i) (c-i)) (by simp [Act.eval,Act.put]) (by simp [Act.eval,Act.put]) (k _ aj ae (ρ.t 3) (G-(i+m)) (c-i)) ?_)
 go_wp2
 go_ret
 exact ⟨rfl,by rw [u]⟩
theorem Zfi (L:InsLay P ρ nm sz bytes z) (base:Option Addr) (n c:Nat) (va:Addr) (m vc:Nat) (w w1:World) (r:Value) (hm:0<m) (hnc:n≤c) (hbase:base=none→n=0)
  (hrun:∀ ty,(Builtin.append_ #[(ρ.t 24),(ρ.t 24)] ty #[.slice base n c,.slice (some va) m vc]).run P w = .ok r w1) :
  Calls P (ρ.f 22) #[.slice base n c,.int .i64 n,.slice (some va) m vc] w fun e w'=>e = .returned r∧w'=w1:=by
 have H:=L.t0;have a0:=L.a0;have F:=L.z0;have J:=L.v0;have x:=L.t3;have a3:=L.a3;have q:=L.z3;have E:=L.v3;have p:=L.t4;have a4:=L.a4;have K:=L.z4;have D:=L.v4;have s:=L.z9;have k:=L.t24;have g:=L.a24;have o:=L.z24;have d:=L.v24
 have C:=run_underlying L.t0;have u:=run_underlying L.t3;have G:=run_underlying L.t4;have l:=run_underlying L.t24
 have b:=L.mixed
 have j:¬ ((m:Int)=0):=by omega
 have i:=L.f22
 go_enter i,Body2.n22_ntmps ρ
 cases base with
 | none =>
  have h0:=hbase rfl
  subst h0
  go_wp2_with (at_builtin;refine Lib.wpList_append_run _ rfl _ _ _ _ rfl _ _ rfl rfl _ _ (hrun _) ?_)
  go_ret
  exact ⟨rfl,rfl⟩
 | some a =>
  obtain ⟨y,v,h⟩:=a
  go_wp2_with (at_builtin;refine Lib.wpList_append_run _ rfl _ _ _ _ rfl _ _ rfl rfl _ _ (hrun _) ?_)
  all_goals (go_ret;exact ⟨rfl,rfl⟩)
end
end Go.Ev
