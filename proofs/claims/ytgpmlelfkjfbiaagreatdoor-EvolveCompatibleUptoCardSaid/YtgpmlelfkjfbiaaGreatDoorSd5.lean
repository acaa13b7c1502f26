/-
  Part 5 of the proof: rules and walks that the claim's last text uses.
-/
import Derived.Shelf.Spec.SlicesInsertGrow
import Derived.Test.YtgpmlelfkjfbiaaGreatDoorSd4
set_option linter.unusedSimpArgs false
set_option linter.unusedVariables false
set_option maxRecDepth 100000
set_option maxHeartbeats 4000000
namespace Go.Proofs.YtgpmlelfkjfbiaaGreatDoor
open Go Go.RowKit Go.Ev
def Z8 (x:ByteArray):Int:=N1 (Vl.mk 4 0 0 x [] [])
def Zs:Option ByteArray→List ByteArray→Int
 | _,[]=>0
 | none,x::r=>if Z8 x=0 then Zs (some x) r else Z8 x
 | some p,x::r=>if Z8 x=0 then (if Dz x p=true then 7 else if Wj x p=true then 24 else Zs (some x) r) else Z8 x
def Zn (l:List ByteArray):Nat→Option ByteArray
 | 0=>none
 | i+1=>l[i]?
theorem ZfG (x:ByteArray) (h:x.size≤1048576):(Vl.mk 4 0 0 x [] []).ok∧(Vl.mk 4 0 0 x [] []).size=1:=⟨by simp [Vl.ok,Zag,Zx,h],by simp [Vl.size,GU,F9]⟩
theorem Zjn (n:Nat) (hn:4≤n) (x:ByteArray) (h:x.size≤1048576):EO n (Gn x)=some (Z8 x):=by
 obtain ⟨b,a⟩:=ZfG x h
 have e:Gn x=Vl.mk 4 0 0 x [] []:=rfl
 rw [e]
 exact Wp n _ (by rw [a];omega) (by rw [a];omega) b
theorem Zc8 (n:Nat) (hn:4≤n) (t:Ty) (hl:t.words.length≤1000000000) (hz:∀ x∈t.words,x.size≤1048576):∀ (k m i:Nat),i+k=t.words.length→k<m→FV n t m i=some (Zs (Zn t.words i) (t.words.drop i))
 | k,0,i,_,h=>absurd h (Nat.not_lt_zero _)
 | 0,m+1,i,hi,_=>by
  rw [FV,An,decide_eq_false (by omega)]
  simp only [Bool.false_eq_true,if_false,LG]
  rw [List.drop_eq_nil_of_le (by omega)]
  cases Zn t.words i<;>rfl
 | k+1,m+1,i,hi,hm=>by
  have a:i<t.words.length:=by omega
  have ih:=Zc8 n hn t hl hz k m (i+1) (by omega) (by omega)
  rw [FV,An,decide_eq_true a]
  simp only [if_true,Au a,Option.bind_some]
  rw [Zjn n hn _ (hz _ (List.getElem_mem a)),List.drop_eq_getElem_cons a]
  simp only [Option.bind_some]
  have d:Zn t.words (i+1)=some t.words[i]:=by simp only [Zn,List.getElem?_eq_getElem a]
  rw [d] at ih
  cases i with
  | zero =>
   simp only [Zn,Zs]
   by_cases hb:Z8 t.words[0]=0
   ·rw [if_pos hb,decide_eq_true hb]
    simp only [Bool.not_true,Bool.false_eq_true,if_false]
    rw [if_neg (by decide),if_pos (Ar (by omega))]
    exact ih
   ·rw [if_neg hb,decide_eq_false hb];rfl
  | succ j =>
   have b:j<t.words.length:=by omega
   have c:Zn t.words (j+1)=some t.words[j]:=by simp only [Zn,List.getElem?_eq_getElem b]
   rw [c]
   simp only [Zs]
   by_cases hb:Z8 t.words[j+1]=0
   ·rw [if_pos hb,decide_eq_true hb]
    simp only [Bool.not_true,Bool.false_eq_true,if_false,Zaz,if_true,XY]
    have e:BR (j:Int):=Zam (by omega)
    simp only [if_pos e,Au b,Option.bind_some]
    by_cases h1:Dz t.words[j+1] t.words[j]=true
    ·rw [if_pos h1,if_pos h1]
    ·rw [if_neg h1,if_neg h1]
     by_cases h2:Wj t.words[j+1] t.words[j]=true
     ·rw [if_pos h2,if_pos h2]
     ·rw [if_neg h2,if_neg h2,if_pos (Ar (by omega))]
      exact ih
   ·rw [if_neg hb,decide_eq_false hb];rfl
def NV (t:Ty):Int:=if t.min≠0∨t.max≠0 then 3 else if 64<t.words.length then 9 else Zs none t.words
theorem Zbe (n:Nat) (hn:4≤n) (t:Ty) (hw:t.words.length<n) (hl:t.words.length≤1000000000) (hz:∀ x∈t.words,x.size≤1048576):ME n t=some (NV t):=by
 have e:=Zc8 n hn t hl hz t.words.length n 0 (by omega) hw
 rw [List.drop_zero] at e
 rw [ME,NV]
 by_cases h:t.min≠0∨t.max≠0
 ·rw [if_pos h,if_pos (by simpa using h)]
 ·rw [if_neg h,if_neg (by simpa using h)]
  by_cases h2:64<t.words.length
  ·rw [if_pos h2,if_pos (decide_eq_true (by omega))]
  ·rw [if_neg h2,if_neg (by rw [decide_eq_true_eq];omega)]
   exact e
theorem XT (n:Nat) (l:List TF) (p:TF→Bool) (hl:l.length≤1000000000) (hn:l.length<n):AA n l (fun x=>some (p x))=some (l.any p):=by
 have e:=RB n l p hl l.length n 0 (by omega) hn
 have a:AL n l (fun x=>some (p x))=some (OJ p l 0):=e
 rw [AA,a,Option.bind_some]
 congr 1
 have := @List.findIdx_lt_length _ p l
 unfold OJ
 rw [List.drop_zero]
 by_cases h:l.findIdx p<l.length
 ·rw [if_pos h,decide_eq_true (by omega),List.any_eq_true.2 (this.1 h)]
 ·rw [if_neg h,decide_eq_false (by omega)]
  exact (Bool.eq_false_iff.2 fun q=>h (this.2 (List.any_eq_true.1 q))).symm
def Lj (k:Int) (b:List TF) (x:TF):Int :=
 if Fz x.2.1=true then
  if ¬ (1≤x.1∧x.1≤9999) then 2
  else if (b.any fun q=>Ek q x)=true then 7
  else if ¬ (1≤x.2.2.1∧x.2.2.1≤3)∨(k=10∧x.2.2.1≠1) then 11
  else if x.2.2.1=3∧x.2.2.2.2.length=0 then 4
  else if 1<x.2.2.2.2.length∨(x.2.2.1≠3∧0<x.2.2.2.2.length) then 3
  else 0
 else 12
def IH (k:Int):List TF→List TF→Int
 | _,[]=>0
 | b,x::r=>if Lj k b x=0 then IH k (b++[x]) r else Lj k b x
theorem WY {α:Type} (l:List α) (i:Nat) (h:i<l.length):l.take i++[l[i]]=l.take (i+1):=by rw [List.take_succ_eq_append_getElem h]
theorem Zbz (n:Nat) (t:Ty) (i:Nat) (h:i<t.fields.length) (hl:t.fields.length≤1000000000) (hn:t.fields.length<n) (hz:∀ p∈t.fields,p.2.1.size≤1048576):Md n t i=some (Lj t.kind (t.fields.take i) t.fields[i]):=by
 rw [Md,Au h]
 simp only [Option.bind_some]
 rw [if_pos (US (by have:=hz _ (List.getElem_mem h);omega)),Lj,Int.toNat_natCast,XT n _ _ (by rw [List.length_take];omega) (by rw [List.length_take];omega)]
 simp only [Option.bind_some]
 by_cases h1:Fz t.fields[i].2.1=true
 rotate_left
 ·rw [if_neg h1,Bool.eq_false_iff.2 h1];rfl
 rw [if_pos h1,h1]
 simp only [Bool.not_true,Bool.false_eq_true,if_false]
 by_cases h2:1≤t.fields[i].1∧t.fields[i].1≤9999
 rotate_left
 ·rw [if_pos (show (!(decide (1≤t.fields[i].1)&&decide (t.fields[i].1≤9999)))=true by simp;omega),if_pos h2]
 rw [if_neg (show ¬ (!(decide (1≤t.fields[i].1)&&decide (t.fields[i].1≤9999)))=true by simp;omega),if_neg (fun q:¬ _=>q h2),if_pos (by omega)]
 by_cases h3:((t.fields.take i).any fun q=>Ek q t.fields[i])=true
 ·rw [if_pos h3,if_pos h3]
 rw [if_neg h3,if_neg h3]
 by_cases h4:¬ (1≤t.fields[i].2.2.1∧t.fields[i].2.2.1≤3)∨(t.kind=10∧t.fields[i].2.2.1≠1)
 ·rw [if_pos h4,if_pos (by simp;omega)]
 rw [if_neg h4,if_neg (by simp;omega)]
 by_cases h5:t.fields[i].2.2.1=3∧t.fields[i].2.2.2.2.length=0
 ·rw [if_pos h5,if_pos (by simp;exact ⟨h5.1,List.length_eq_zero_iff.1 h5.2⟩)]
 rw [if_neg h5,if_neg (by simp;intro a b;exact h5 ⟨a,by rw [b];rfl⟩)]
 by_cases h6:1<t.fields[i].2.2.2.2.length∨(t.fields[i].2.2.1≠3∧0<t.fields[i].2.2.2.2.length)
 ·rw [if_pos h6,if_pos (by simp only [Bool.or_eq_true,Bool.and_eq_true,decide_eq_true_eq,Bool.not_eq_true',decide_eq_false_iff_not];omega)]
 ·rw [if_neg h6,if_neg (by simp only [Bool.or_eq_true,Bool.and_eq_true,decide_eq_true_eq,Bool.not_eq_true',decide_eq_false_iff_not];omega)]
theorem YX (n:Nat) (t:Ty) (hl:t.fields.length≤1000000000) (hn:t.fields.length<n) (hz:∀ p∈t.fields,p.2.1.size≤1048576):∀ (k m i:Nat),i+k=t.fields.length→k<m→Ie n t m i=some (IH t.kind (t.fields.take i) (t.fields.drop i))
 | k,0,i,_,h=>absurd h (Nat.not_lt_zero _)
 | 0,m+1,i,hi,_=>by
  rw [Ie,An,decide_eq_false (by omega)]
  rw [List.drop_eq_nil_of_le (by omega)];rfl
 | k+1,m+1,i,hi,hm=>by
  have a:i<t.fields.length:=by omega
  rw [Ie,An,decide_eq_true a,Zbz n t i a hl hn hz,List.drop_eq_getElem_cons a,IH]
  simp only [if_true,Option.bind_some]
  by_cases h:Lj t.kind (t.fields.take i) t.fields[i]=0
  ·rw [decide_eq_true h,if_pos h]
   simp only [Bool.not_true,Bool.false_eq_true,if_false]
   rw [if_pos (Ar (by omega)),WY _ _ a]
   exact YX n t hl hn hz k m (i+1) (by omega) (by omega)
  ·rw [decide_eq_false h,if_neg h];rfl
def QH (t:Ty):Int :=
 if t.kind<1∨10<t.kind then 11
 else if BB t=true then 3
 else if t.kind=4∧0<t.words.length then NV t
 else if ((2≤t.kind∧t.kind≤8)∧Cj t (AG t.kind).1 (AG t.kind).2=false)∨¬ (0≤t.scale∧t.scale≤12) then 2
 else if (t.kind=8∧t.elem.length=0)∨(t.kind=10∧t.fields.length=0) then 4
 else if 1<t.elem.length then 3
 else if 64<t.fields.length then 9
 else IH t.kind [] t.fields
def Ty.fit (t:Ty) (n:Nat):Prop:=4≤n∧t.words.length<n∧t.fields.length<n∧t.words.length≤1000000000∧t.fields.length≤1000000000∧t.elem.length≤1000000000∧(∀ x∈t.words,x.size≤1048576)∧∀ p∈t.fields,p.2.1.size≤1048576
def Uz (k:Int):Lim:=(Il[k.toNat]?).getD (Lim.mk ⟨#[]⟩ 0 0 false false false false false)
theorem Zfc (k:Int) (h:¬ (k<1∨10<k)):Cb Il k=some (Uz k):=by
 rcases G3 h with hk | hk | hk | hk | hk | hk | hk | hk | hk | hk<;>subst hk<;>rfl
theorem Zfw (t:Ty) (h:¬ (t.kind<1∨10<t.kind)):Ko t (Uz t.kind)=if BB t=true then 3 else 0:=by
 have a:∀ x:Nat,decide (0<(x:Int)) = !decide ((x:Int)=0):=fun x=>by
  by_cases h:x=0
  ·subst h;rfl
  ·rw [decide_eq_true (show 0<(x:Int) by omega),decide_eq_false (show ¬ (x:Int)=0 by omega)];rfl
 have b:decide (t.min=0)=true∨decide (t.min=0)=false:=by cases decide (t.min=0)<;>simp
 rw [Ko,BB]
 simp only [a,Ig]
 generalize decide (t.min=0)=b1
 generalize decide (t.max=0)=b2
 generalize decide (t.scale=0)=b3
 generalize decide ((t.words.length:Int)=0)=b4
 generalize decide ((t.elem.length:Int)=0)=b5
 generalize decide ((t.fields.length:Int)=0)=b6
 clear b a
 rcases G3 h with hk | hk | hk | hk | hk | hk | hk | hk | hk | hk<;>simp only [hk]<;>cases b1<;>cases b2<;>cases b3<;>cases b4<;>cases b5<;>cases b6<;>rfl
theorem ZfQ (n:Nat) (t:Ty) (h:t.fit n):Qy n t=some (QH t):=by
 obtain ⟨o,v,m,r,E,F,w,y⟩:=h
 have u:=Zbe n o t v r w
 have k:=YX n t E m y t.fields.length n 0 (by omega) m
 rw [List.drop_zero,List.take_zero] at k
 have j:Ie n t n 0=some (IH t.kind [] t.fields):=k
 have p:Ib n t false=some (if 1<t.elem.length∧t.kind=8 then 3 else if 64<t.fields.length then 9 else IH t.kind [] t.fields):=by
  rw [Ib,if_neg (by decide)]
  by_cases q:1<t.elem.length∧t.kind=8
  ·rw [if_pos q,if_pos (by simp only [Bool.and_eq_true,decide_eq_true_eq];omega)]
  ·rw [if_neg q,if_neg (by simp only [Bool.and_eq_true,decide_eq_true_eq];omega)]
   by_cases q2:64<t.fields.length
   ·rw [if_pos q2,if_pos (decide_eq_true (by omega))]
   ·rw [if_neg q2,if_neg (by rw [decide_eq_true_eq];omega),j]
 have l:Ib n t true=some 4:=by rw [Ib,if_pos rfl]
 have i:¬ BB t=true→J6 n t=some (if (t.kind=8∧t.elem.length=0)∨(t.kind=10∧t.fields.length=0) then 4 else if 1<t.elem.length then 3 else if 64<t.fields.length then 9 else IH t.kind [] t.fields):=fun C=>by
  have D:1<t.elem.length→t.kind=8:=fun q=>by
   by_cases k8:t.kind=8
   ·exact k8
   ·exfalso;apply C;rw [BB,decide_eq_false k8,decide_eq_true (show 0<(t.elem.length:Int) by omega)];simp
  rw [J6]
  by_cases q1:t.kind=8∧t.elem.length=0
  ·rw [if_pos (by simp only [Bool.and_eq_true,decide_eq_true_eq];omega),l,if_pos (.inl q1)]
  rw [if_neg (by simp only [Bool.and_eq_true,decide_eq_true_eq];omega)]
  by_cases q2:t.kind=10∧t.fields.length=0
  ·rw [decide_eq_true q2.1,decide_eq_true (show (t.fields.length:Int)=0 by omega),show (true&&true)=true from rfl,l,if_pos (.inr q2)]
  ·have e:(decide (t.kind=10)&&decide ((t.fields.length:Int)=0))=false:=by
    rw [Bool.eq_false_iff];simp only [ne_eq,Bool.and_eq_true,decide_eq_true_eq];omega
   rw [e,p,if_neg (show ¬ ((t.kind=8∧t.elem.length=0)∨(t.kind=10∧t.fields.length=0)) by omega)]
   by_cases q3:1<t.elem.length
   ·rw [if_pos ⟨q3,D q3⟩,if_pos q3]
   ·rw [if_neg (fun q=>q3 q.1),if_neg q3]
 rw [Qy,QH]
 by_cases q1:t.kind<1∨10<t.kind
 ·rw [if_pos q1,if_pos (by simp;omega)]
 rw [if_neg q1,if_neg (by simp;omega),Zfc _ q1]
 simp only [Option.bind_some]
 rw [Zfw t q1]
 by_cases q2:BB t=true
 ·rw [if_pos q2,if_pos q2];rfl
 rw [if_neg q2,if_neg q2,if_neg (by decide)]
 have d:=i q2
 by_cases q3:t.kind=4∧0<t.words.length
 ·rw [if_pos q3,if_pos (by simp only [Bool.and_eq_true,decide_eq_true_eq];omega),u]
  simp only [Option.bind_some]
  by_cases z:NV t=0
  ·rw [decide_eq_true z,z,if_neg (by decide),d]
   have G:t.elem.length=0:=by
    rcases Nat.eq_zero_or_pos t.elem.length with e | e
    ·exact e
    ·exfalso;apply q2;rw [BB,decide_eq_false (show ¬ t.kind=8 by omega),decide_eq_true (show 0<(t.elem.length:Int) by omega)];simp
   have s:t.fields.length=0:=by
    rcases Nat.eq_zero_or_pos t.fields.length with e | e
    ·exact e
    ·exfalso;apply q2;rw [BB,decide_eq_false (show ¬ t.kind=9 by omega),decide_eq_false (show ¬ t.kind=10 by omega),decide_eq_true (show 0<(t.fields.length:Int) by omega)];simp
   rw [if_neg (by omega),if_neg (by omega),if_neg (by omega),List.length_eq_zero_iff.1 s];rfl
  ·rw [decide_eq_false z];rfl
 rw [if_neg q3,if_neg (by simp only [Bool.and_eq_true,decide_eq_true_eq];omega)]
 have f:t.kind≠3→t.scale=0:=fun c=>by
  by_cases z:t.scale=0
  ·exact z
  ·exfalso;apply q2;rw [BB,decide_eq_false c,decide_eq_false z];simp
 have x:((Uz t.kind).bounds&&(((decide (t.max<t.min))||(decide (t.min<(Uz t.kind).low)))||(decide ((Uz t.kind).high<t.max))))=((decide (2≤t.kind∧t.kind≤8)) && !(Cj t (AG t.kind).1 (AG t.kind).2)):=by
  have g1:∀ a b:Int,decide (a<b) = !decide (b≤a):=fun a b=>by
   by_cases q:a<b
   ·rw [decide_eq_true q,decide_eq_false (by omega)];rfl
   ·rw [decide_eq_false q,decide_eq_true (by omega)];rfl
  simp only [g1,Cj]
  rcases G3 q1 with hk | hk | hk | hk | hk | hk | hk | hk | hk | hk<;>simp only [hk] <;>
   simp [Uz,Il,AG,Nx,LU,Bool.or_comm,Bool.or_left_comm,Bool.or_assoc]
 have hs:(Uz t.kind).scale=decide (t.kind=3):=by
  rcases G3 q1 with hk | hk | hk | hk | hk | hk | hk | hk | hk | hk<;>simp only [hk]<;>rfl
 rw [x,hs]
 by_cases q4:(2≤t.kind∧t.kind≤8)∧Cj t (AG t.kind).1 (AG t.kind).2=false
 ·rw [decide_eq_true q4.1,if_pos (Or.inl q4),q4.2];rfl
 have g:(decide (2≤t.kind∧t.kind≤8) && !(Cj t (AG t.kind).1 (AG t.kind).2))=false:=by
  rw [Bool.eq_false_iff];simp only [ne_eq,Bool.and_eq_true,decide_eq_true_eq,Bool.not_eq_true'];exact q4
 rw [g,if_neg (by decide)]
 by_cases q5:¬ (0≤t.scale∧t.scale≤12)
 ·have c:t.kind=3:=by
   by_cases c:t.kind=3
   ·exact c
   ·exact absurd (f c) (by omega)
  have e:(decide (t.kind=3) && !(decide (0≤t.scale)&&decide (t.scale≤12)))=true:=by simp [c];omega
  rw [if_pos (Or.inr q5),e];rfl
 ·have e:(decide (t.kind=3) && !(decide (0≤t.scale)&&decide (t.scale≤12)))=false:=by
   rw [Bool.eq_false_iff];simp;omega
  rw [if_neg (fun q:_∨_=>q.elim q4 q5),e,L1,if_neg (by decide),d]
inductive Ty.Good:Ty→Prop
 | mk (t:Ty) (h:QH t=0) (he:∀ x∈t.elem,Ty.Good x) (hf:∀ p∈t.fields,Ty.Good p.2.2.2.1):Ty.Good t
inductive Vl.Good:Vl→Prop
 | mk (v:Vl) (h:E3 v=0) (hp:∀ x∈Bt v,Vl.Good x):Vl.Good v
theorem YO:∀ (l:List (Nat × Vl)) (c:Int),RX l c=0→∀ p∈l,E3 p.2=0
 | [],_,_,p,hp=>by simp at hp
 | q::r,c,h,p,hp=>by
  rw [RX] at h
  split at h
  ·cases h
  ·split at h
   ·cases h
   ·split at h
    ·rename_i h0
     rcases List.mem_cons.1 hp with rfl | hp
     ·exact h0
     ·exact YO r (c+1) h p hp
    ·rename_i h0;exact absurd h h0
theorem Sz:∀ (k:Nat) (v:Vl) (lv:Nat),v.size≤k→(∀ p∈E8 lv v,E3 p.2=0)→v.Good
 | 0,v,lv,h,_=>absurd h (by have:=v.size_eq;omega)
 | k+1,v,lv,h,hp=>by
  rw [NB] at hp
  refine .mk v (hp (lv,v) (List.mem_cons_self ..)) fun x a=>?_
  have:=I2 a
  exact Sz k x (lv+1) (by omega) fun p b=>hp p (List.mem_cons_of_mem _ (List.mem_flatMap.2 ⟨x,a,b⟩))
theorem KV {v:Vl} (h:N1 v=0):v.Good:=Sz v.size v 1 (Nat.le_refl _) (YO _ _ h)
theorem MN {v:Vl} (h:E3 v=0):¬ (v.kind<1∨10<v.kind)∧¬ B5 v=true:=by
 rw [E3] at h
 by_cases h1:BO v=true
 ·rw [if_pos h1] at h;exact absurd h (by decide)
 rw [if_neg h1] at h
 by_cases h2:v.kind<1∨10<v.kind
 ·rw [if_pos h2] at h;exact absurd h (by decide)
 rw [if_neg h2] at h
 by_cases h3:B5 v=true
 ·rw [if_pos h3] at h;exact absurd h (by decide)
 exact ⟨h2,h3⟩
theorem RQ {t:Ty} (h:QH t=0):¬ (t.kind<1∨10<t.kind)∧¬ BB t=true∧¬ ((t.kind=8∧t.elem.length=0)∨(t.kind=10∧t.fields.length=0)):=by
 rw [QH] at h
 by_cases h1:t.kind<1∨10<t.kind
 ·rw [if_pos h1] at h;exact absurd h (by decide)
 rw [if_neg h1] at h
 by_cases h2:BB t=true
 ·rw [if_pos h2] at h;exact absurd h (by decide)
 rw [if_neg h2] at h
 refine ⟨h1,h2,?_⟩
 by_cases h3:t.kind=4∧0<t.words.length
 ·omega
 rw [if_neg h3] at h
 by_cases h4:((2≤t.kind∧t.kind≤8)∧Cj t (AG t.kind).1 (AG t.kind).2=false)∨¬ (0≤t.scale∧t.scale≤12)
 ·rw [if_pos h4] at h;exact absurd h (by decide)
 rw [if_neg h4] at h
 by_cases h5:(t.kind=8∧t.elem.length=0)∨(t.kind=10∧t.fields.length=0)
 ·rw [if_pos h5] at h;exact absurd h (by decide)
 exact h5
theorem Ty.scale0 {t:Ty} (h:¬ BB t=true) (k:t.kind≠3):t.scale=0:=by
 by_cases z:t.scale=0
 ·exact z
 ·exfalso;apply h;rw [BB,decide_eq_false k,decide_eq_false z];simp
theorem Vl.scale0 {v:Vl} (h:¬ B5 v=true) (k:v.kind≠3):v.scale=0:=by
 by_cases z:v.scale=0
 ·exact z
 ·exfalso;apply h;rw [B5,decide_eq_false k,decide_eq_false z];simp
theorem MU {α:Type} (p:α→Bool) (l:List α):decide (0≤OJ p l 0)=l.any p:=by
 have := @List.findIdx_lt_length _ p l
 unfold OJ
 rw [List.drop_zero]
 by_cases h:l.findIdx p<l.length
 ·rw [if_pos h,decide_eq_true (by omega),List.any_eq_true.2 (this.1 h)]
 ·rw [if_neg h,decide_eq_false (by omega)]
  exact (Bool.eq_false_iff.2 fun q=>h (this.2 (List.any_eq_true.1 q))).symm
theorem Zaq {α:Type} (p:α→Bool) (l:List α):decide (OJ p l 0<0) = !l.any p:=by
 rw [←MU]
 by_cases h:0≤OJ p l 0
 ·rw [decide_eq_true h,decide_eq_false (by omega)];rfl
 ·rw [decide_eq_false h,decide_eq_true (by omega)];rfl
theorem Zcx (n:Nat) (l:List (Vl)) (f:Vl→Option Bool) (p:Vl→Bool) (hf:∀ x∈l,f x=some (p x)) (hl:l.length≤1000000000):∀ (k m i:Nat),i+k=l.length→k<m→BU n l f m i=some (OJ p l i)
 | k,0,i,_,h=>absurd h (Nat.not_lt_zero _)
 | 0,m+1,i,hi,_=>by
  rw [BU,An,decide_eq_false (by omega),LI p l i (by omega)]
  rfl
 | k+1,m+1,i,hi,hm=>by
  have a:i<l.length:=by omega
  rw [BU,An,decide_eq_true a,Jp p l i a]
  simp only [if_true,Au a,Option.bind_some,hf _ (List.getElem_mem a)]
  by_cases h:p l[i]=true
  ·rw [if_pos h,if_pos h]
  ·rw [if_neg h,if_neg h,if_pos (Ar (by omega))]
   exact Zcx n l f p hf hl k m (i+1) (by omega) (by omega)
theorem Xp (n:Nat) (l:List (ByteArray × Vl)) (f:ByteArray × Vl→Option Bool) (p:ByteArray × Vl→Bool) (hf:∀ x∈l,f x=some (p x)) (hl:l.length≤1000000000):∀ (k m i:Nat),i+k=l.length→k<m→BC n l f m i=some (OJ p l i)
 | k,0,i,_,h=>absurd h (Nat.not_lt_zero _)
 | 0,m+1,i,hi,_=>by
  rw [BC,An,decide_eq_false (by omega),LI p l i (by omega)]
  rfl
 | k+1,m+1,i,hi,hm=>by
  have a:i<l.length:=by omega
  rw [BC,An,decide_eq_true a,Jp p l i a]
  simp only [if_true,Au a,Option.bind_some,hf _ (List.getElem_mem a)]
  by_cases h:p l[i]=true
  ·rw [if_pos h,if_pos h]
  ·rw [if_neg h,if_neg h,if_pos (Ar (by omega))]
   exact Xp n l f p hf hl k m (i+1) (by omega) (by omega)
theorem Z0 (n:Nat) (l:List (TF)) (f:TF→Option Bool) (p:TF→Bool) (hf:∀ x∈l,f x=some (p x)) (hl:l.length≤1000000000):∀ (k m i:Nat),i+k=l.length→k<m→AE n l f m i=some (OJ p l i)
 | k,0,i,_,h=>absurd h (Nat.not_lt_zero _)
 | 0,m+1,i,hi,_=>by
  rw [AE,An,decide_eq_false (by omega),LI p l i (by omega)]
  rfl
 | k+1,m+1,i,hi,hm=>by
  have a:i<l.length:=by omega
  rw [AE,An,decide_eq_true a,Jp p l i a]
  simp only [if_true,Au a,Option.bind_some,hf _ (List.getElem_mem a)]
  by_cases h:p l[i]=true
  ·rw [if_pos h,if_pos h]
  ·rw [if_neg h,if_neg h,if_pos (Ar (by omega))]
   exact Z0 n l f p hf hl k m (i+1) (by omega) (by omega)
theorem Zcu (n:Nat) (l:List ByteArray) (w:ByteArray) (hl:(l).length≤1000000000):∀ (k m i:Nat),i+k=(l).length→k<m→C0 n l w m i=some (OJ (fun x=>Dz w x) (l) i)
 | k,0,i,_,h=>absurd h (Nat.not_lt_zero _)
 | 0,m+1,i,hi,_=>by
  rw [C0,An,decide_eq_false (by omega),LI _ (l) i (by omega)]
  rfl
 | k+1,m+1,i,hi,hm=>by
  have a:i<(l).length:=by omega
  rw [C0,An,decide_eq_true a,Jp _ (l) i a]
  simp only [if_true,Au a,Option.bind_some]
  by_cases h:(fun x=>Dz w x) (l)[i]=true
  ·rw [if_pos h,if_pos h]
  ·rw [if_neg h,if_neg h,if_pos (Ar (by omega))]
   exact Zcu n l w hl k m (i+1) (by omega) (by omega)
theorem QN (n:Nat) (l:List ByteArray) (w:ByteArray) (hl:l.length≤1000000000) (hn:l.length<n):Bm n l w=some (l.any fun x=>Dz w x):=by
 have e:GM n l w=some (OJ (fun x=>Dz w x) l 0):=Zcu n l w hl l.length n 0 (by omega) hn
 rw [Bm,e,Option.bind_some,MU]
theorem Xn (n:Nat) (l:List Vl) (f:Vl→Option Bool) (p:Vl→Bool) (hf:∀ x∈l,f x=some (p x)) (hl:l.length≤1000000000) (hn:l.length<n):C9 n l f=some (l.any p):=by
 have e:EU n l f=some (OJ p l 0):=Zcx n l f p hf hl l.length n 0 (by omega) hn
 rw [C9,e,Option.bind_some,MU]
theorem Nn (n:Nat) (l:List TF) (f:TF→Option Bool) (p:TF→Bool) (hf:∀ x∈l,f x=some (p x)) (hl:l.length≤1000000000) (hn:l.length<n):AA n l f=some (l.any p):=by
 have e:AL n l f=some (OJ p l 0):=Z0 n l f p hf hl l.length n 0 (by omega) hn
 rw [AA,e,Option.bind_some,MU]
def Yt (v:Vl) (w:ByteArray):Bool:=v.fields.any fun x=>Dz x.1 w
theorem Zbh (n:Nat) (v:Vl) (w:ByteArray) (hk:v.kind=9) (hs:v.size≤1000000000) (hn:v.size<n):∃ u,Ht n v w=some (u,Yt v w):=by
 have a:=O2 v
 have e:B7 n v.fields (fun x=>some (G2 x w))=some (OJ (fun x:ByteArray × Vl=>Dz x.1 w) v.fields 0):=Xp n v.fields _ _ (fun x _=>rfl) (by omega) v.fields.length n 0 (by omega) (by omega)
 rw [Ht,L0,e]
 simp only [Option.bind_some]
 rw [decide_eq_true hk,Zaq]
 cases h:Yt v w with
 | false =>
  unfold Yt at h
  rw [h]
  exact ⟨_,rfl⟩
 | true =>
  unfold Yt at h
  rw [h]
  simp only [Bool.not_true,Bool.or_self,Bool.false_eq_true,if_false]
  rcases Ro (fun x:ByteArray × Vl=>Dz x.1 w) v.fields v.fields.length 0 (by omega) with q | ⟨i,hi,q,_⟩
  ·have:=MU (fun x:ByteArray × Vl=>Dz x.1 w) v.fields
   rw [q,h] at this
   cases this
  ·rw [q,Au hi]
   simp only [Option.bind_some]
   have:=v.field_size _ (List.getElem_mem hi)
   rw [RP n _ (by omega) (by omega)]
   exact ⟨_,rfl⟩
theorem Zbx (a b:ByteArray):Dz a b=Dz b a:=by rw [Bool.eq_iff_iff,EE,EE];exact eq_comm
def WE (t:Ty) (k:Nat):Bool:=decide (t.min≤(k:Int))&&decide ((k:Int)≤t.max)
def ZaP (v:Vl) (x:TF):Bool:=(!Yt v x.2.1)&&(!(decide (x.2.2.1=2)))
theorem Ty.small_elem {t x:Ty} (h:t.small) (hx:x∈t.elem):x.small:=by
 obtain ⟨f,g,e⟩:=h
 have a:=t.elem_size x hx
 have b:=t.depth_eq
 have c:=(MX t.elem (DZ t.elem)).1 (Nat.le_refl _) x hx
 have d:DZ t.elem≤Max.max (DZ t.elem) (Db t.fields):=Nat.le_max_left _ _
 exact ⟨by omega,by omega,(t.ok_eq.1 e).2.2.1 x hx⟩
theorem Ty.small_field {t:Ty} {p:TF} (h:t.small) (hx:p∈t.fields):p.2.2.2.1.small:=by
 obtain ⟨f,g,e⟩:=h
 have a:=t.field_size p hx
 have b:=t.depth_eq
 have c:=(KY t.fields (Db t.fields)).1 (Nat.le_refl _) p hx
 have d:Db t.fields≤Max.max (DZ t.elem) (Db t.fields):=Nat.le_max_right _ _
 exact ⟨by omega,by omega,((t.ok_eq.1 e).2.2.2 p hx).2.1⟩
theorem Gt {t x:Ty} (h:t.Good) (hx:x∈t.elem):x.Good:=by cases h with | mk _ a b c=>exact b x hx
theorem Bv {t:Ty} {p:TF} (h:t.Good) (hx:p∈t.fields):p.2.2.2.1.Good:=by cases h with | mk _ a b c=>exact c p hx
theorem UI {t:Ty} (h:t.Good):QH t=0:=by cases h with | mk _ a b c=>exact a
theorem J4 {v:Vl} (h:v.Good):E3 v=0:=by cases h with | mk _ a b=>exact a
theorem HZ {v x:Vl} (h:v.Good) (hx:x∈Bt v):x.Good:=by cases h with | mk _ a b=>exact b x hx
def TM (k:Int) (x:TF):Prop:=(1≤x.2.2.1∧x.2.2.1≤3)∧(k=10→x.2.2.1=1)∧(x.2.2.1=3→x.2.2.2.2.length=1)∧(x.2.2.1≠3→x.2.2.2.2.length=0)
theorem ZL {k:Int} {b:List TF} {x:TF} (h:Lj k b x=0):TM k x:=by
 rw [Lj] at h
 by_cases h1:Fz x.2.1=true
 rotate_left
 ·rw [if_neg h1] at h;exact absurd h (by decide)
 rw [if_pos h1] at h
 by_cases h2:¬ (1≤x.1∧x.1≤9999)
 ·rw [if_pos h2] at h;exact absurd h (by decide)
 rw [if_neg h2] at h
 by_cases h3:(b.any fun q=>Ek q x)=true
 ·rw [if_pos h3] at h;exact absurd h (by decide)
 rw [if_neg h3] at h
 by_cases h4:¬ (1≤x.2.2.1∧x.2.2.1≤3)∨(k=10∧x.2.2.1≠1)
 ·rw [if_pos h4] at h;exact absurd h (by decide)
 rw [if_neg h4] at h
 by_cases h5:x.2.2.1=3∧x.2.2.2.2.length=0
 ·rw [if_pos h5] at h;exact absurd h (by decide)
 rw [if_neg h5] at h
 by_cases h6:1<x.2.2.2.2.length∨(x.2.2.1≠3∧0<x.2.2.2.2.length)
 ·rw [if_pos h6] at h;exact absurd h (by decide)
 unfold TM
 omega
theorem RZ {k:Int}:∀ (l b:List TF),IH k b l=0→∀ x∈l,TM k x
 | [],_,_,x,hx=>by simp at hx
 | y::r,b,h,x,hx=>by
  rw [IH] at h
  by_cases q:Lj k b y=0
  ·rw [if_pos q] at h
   rcases List.mem_cons.1 hx with rfl | hx
   ·exact ZL q
   ·exact RZ r _ h x hx
  ·rw [if_neg q] at h;exact absurd h q
theorem ZT {t:Ty} (h:¬ BB t=true):(t.kind≠8→t.elem.length=0)∧(t.kind≠9→t.kind≠10→t.fields.length=0):=by
 refine ⟨fun k=>?_,fun a b=>?_⟩
 ·rcases Nat.eq_zero_or_pos t.elem.length with e | e
  ·exact e
  ·exfalso;apply h;rw [BB,decide_eq_false k,decide_eq_true (show 0<(t.elem.length:Int) by omega)];simp
 ·rcases Nat.eq_zero_or_pos t.fields.length with e | e
  ·exact e
  ·exfalso;apply h;rw [BB,decide_eq_false a,decide_eq_false b,decide_eq_true (show 0<(t.fields.length:Int) by omega)];simp
theorem TY {t:Ty} (h:QH t=0):¬ (t.kind<1∨10<t.kind)∧(t.kind≠8→t.elem.length=0)∧(t.kind=8→t.elem.length=1∧0≤t.min∧t.min≤256)∧(t.kind≠9→t.kind≠10→t.fields.length=0)∧(t.kind=10→0<t.fields.length)∧∀ x∈t.fields,TM t.kind x:=by
 obtain ⟨a,e,g⟩:=RQ h
 obtain ⟨c,b⟩:=ZT e
 rw [QH,if_neg a,if_neg e] at h
 by_cases h3:t.kind=4∧0<t.words.length
 ·have:=b (by omega) (by omega)
  have j:t.fields=[]:=List.length_eq_zero_iff.1 this
  exact ⟨a,c,by omega,b,by omega,by rw [j];simp⟩
 rw [if_neg h3] at h
 by_cases h4:((2≤t.kind∧t.kind≤8)∧Cj t (AG t.kind).1 (AG t.kind).2=false)∨¬ (0≤t.scale∧t.scale≤12)
 ·rw [if_pos h4] at h;exact absurd h (by decide)
 rw [if_neg h4,if_neg g] at h
 by_cases h6:1<t.elem.length
 ·rw [if_pos h6] at h;exact absurd h (by decide)
 rw [if_neg h6] at h
 by_cases h7:64<t.fields.length
 ·rw [if_pos h7] at h;exact absurd h (by decide)
 rw [if_neg h7] at h
 refine ⟨a,c,fun i=>?_,b,by omega,RZ _ _ h⟩
 have d:Cj t (AG t.kind).1 (AG t.kind).2=true:=by
  cases q:Cj t (AG t.kind).1 (AG t.kind).2
  ·exact absurd (Or.inl ⟨by omega,q⟩) h4
  ·rfl
 have f:(AG t.kind)=(0,256):=by rw [i];rfl
 rw [f,Cj] at d
 simp only [Bool.and_eq_true,decide_eq_true_eq] at d
 omega
theorem Ty.fit_of {t:Ty} {n:Nat} (ht:t.small) (hn:t.size+2600000≤n):t.fit n:=by
 have g:=t.lens
 obtain ⟨e,_,b⟩:=ht
 obtain ⟨f,d,h,c⟩:=t.ok_eq.1 b
 exact ⟨by omega,by omega,by omega,by omega,by omega,by omega,d,fun p a=>(c p a).1⟩
theorem PT:∀ (k:Nat) (v:Vl) (lv:Nat),v.size≤k→(E8 lv v).length≤v.size
 | 0,v,lv,h=>absurd h (by have:=v.size_eq;omega)
 | k+1,v,lv,h=>by
  have c:=ZbQ v
  rw [NB,List.length_cons,List.length_flatMap]
  have:((Bt v).map fun x=>(E8 (lv+1) x).length).sum≤((Bt v).map Vl.size).sum:=by
   have hall:∀ x∈Bt v,(E8 (lv+1) x).length≤x.size:=fun x b=>PT k x (lv+1) (by have:=I2 b;omega)
   clear c
   generalize Bt v=l at hall
   induction l with
   | nil=>simp
   | cons a r ih =>
    have:=hall a (List.mem_cons_self ..)
    have:=ih fun x b=>hall x (List.mem_cons_of_mem _ b)
    simp only [List.map_cons,List.sum_cons]
    omega
  omega
theorem Ym:∀ (l:List (Nat × Vl)) (c:Int),0≤c→c+l.length≤1000000000→Ic l c=some (c+l.length)
 | [],c,_,_=>by rw [Ic];simp
 | p::r,c,h1,h2=>by
  rw [List.length_cons] at h2
  rw [Ic,if_pos (by unfold BR;omega),Ym r (c+1) (by omega) (by omega),List.length_cons]
  congr 1
  omega
theorem X7 (v:Vl) (hs:v.size≤1048576):MI v=some ((E8 1 v).length:Int):=by
 have:=PT v.size v 1 (Nat.le_refl _)
 rw [MI,if_pos ⟨by have:=v.depth_size;omega,Hm _ v (Nat.le_refl _) (by omega)⟩,Ym _ 0 (by omega) (by omega)]
 congr 1
 omega
theorem Zg {s:ByteArray} (h:Fz s=true):s.size≤32:=by
 unfold Fz ZaU at h
 simp only [Bool.and_eq_true,decide_eq_true_eq] at h
 have:s.size=s.data.toList.length:=by simp
 omega
theorem Zbd {s:ByteArray} (h:Dz s ⟨#[]⟩=true):s.size=0:=by
 rw [ZaG] at h;exact of_decide_eq_true h
theorem ZaY (k:Int):∀ (l b:List TF),IH k b l=0→∀ x∈l,∃ b',Lj k b' x=0
 | [],_,_,x,hx=>absurd hx (by simp)
 | y::r,b,h,x,hx=>by
  rw [IH] at h
  by_cases q:Lj k b y=0
  ·rw [if_pos q] at h
   rcases List.mem_cons.1 hx with rfl | hx
   ·exact ⟨b,q⟩
   ·exact ZaY k r _ h x hx
  ·rw [if_neg q] at h;exact absurd h q
theorem XS {k:Int} {b:List TF} {x:TF} (h:Lj k b x=0):Fz x.2.1=true∧(1≤x.1∧x.1≤9999)∧(1≤x.2.2.1∧x.2.2.1≤3)∧(k=10→x.2.2.1=1)∧(x.2.2.1=3→x.2.2.2.2.length=1)∧(x.2.2.1≠3→x.2.2.2.2=[]):=by
 unfold Lj at h
 by_cases h1:Fz x.2.1=true
 ·rw [if_pos h1] at h
  by_cases h2:¬ (1≤x.1∧x.1≤9999)
  ·rw [if_pos h2] at h;exact absurd h (by decide)
  rw [if_neg h2] at h
  by_cases h3:(b.any fun q=>Ek q x)=true
  ·rw [if_pos h3] at h;exact absurd h (by decide)
  rw [if_neg h3] at h
  by_cases h4:¬ (1≤x.2.2.1∧x.2.2.1≤3)∨(k=10∧x.2.2.1≠1)
  ·rw [if_pos h4] at h;exact absurd h (by decide)
  rw [if_neg h4] at h
  by_cases h5:x.2.2.1=3∧x.2.2.2.2.length=0
  ·rw [if_pos h5] at h;exact absurd h (by decide)
  rw [if_neg h5] at h
  by_cases h6:1<x.2.2.2.2.length∨(x.2.2.1≠3∧0<x.2.2.2.2.length)
  ·rw [if_pos h6] at h;exact absurd h (by decide)
  refine ⟨h1,by omega,by omega,by omega,by omega,fun q=>?_⟩
  have:x.2.2.2.2.length=0:=by omega
  exact List.length_eq_zero_iff.1 this
 ·rw [if_neg h1] at h;exact absurd h (by decide)
structure Ty.Own (t:Ty):Prop where
 kind:1≤t.kind∧t.kind≤10
 words:t.kind=4→0<t.words.length→t.min=0∧t.max=0∧t.words.length≤64∧Zs none t.words=0
 nowords:t.kind≠4→t.words=[]
 noelem:t.kind≠8→t.elem=[]
 nofields:t.kind≠9→t.kind≠10→t.fields=[]
 noscale:t.kind≠3→t.scale=0
 nobounds:¬ (2≤t.kind∧t.kind≤8)→t.min=0∧t.max=0
 scale:0≤t.scale∧t.scale≤12
 bounds:(2≤t.kind∧t.kind≤8)→¬ (t.kind=4∧0<t.words.length)→(AG t.kind).1≤t.min∧t.max≤(AG t.kind).2∧t.min≤t.max
 elem:t.kind=8→∃ e,t.elem=[e]
 cases:t.kind=10→0<t.fields.length
 fields:t.fields.length≤64
 each:∀ x∈t.fields,Fz x.2.1=true∧(1≤x.1∧x.1≤9999)∧(1≤x.2.2.1∧x.2.2.1≤3)∧(t.kind=10→x.2.2.1=1)∧(x.2.2.1=3→x.2.2.2.2.length=1)∧(x.2.2.1≠3→x.2.2.2.2=[])
 apart:IH t.kind [] t.fields=0
theorem Ty.own_of {t:Ty} (h:QH t=0):t.Own:=by
 have r:=RQ h
 obtain ⟨p,m,v⟩:=r
 simp only [BB,Bool.or_eq_true,Bool.and_eq_true,Bool.not_eq_true',Bool.and_eq_false_iff,decide_eq_false_iff_not,decide_eq_true_eq,not_or,not_and] at m
 obtain ⟨⟨⟨⟨k,j⟩,i⟩,l⟩,g⟩:=m
 have n:t.kind≠4→t.words=[]:=fun q=>List.length_eq_zero_iff.1 (by have:=i q;omega)
 have ne:t.kind≠8→t.elem=[]:=fun q=>List.length_eq_zero_iff.1 (by have:=l q;omega)
 have c:t.kind≠9→t.kind≠10→t.fields=[]:=fun q o=>List.length_eq_zero_iff.1 (by have:=g ⟨q,o⟩;omega)
 have d:t.kind≠3→t.scale=0:=fun q=>by
  have:=j q
  by_cases z:t.scale=0
  ·exact z
  ·exact absurd z this
 have f:¬ (2≤t.kind∧t.kind≤8)→t.min=0∧t.max=0:=fun q=>by
  have:=k (by omega)
  omega
 have u:=h
 rw [QH,if_neg p,if_neg (by
  intro q
  simp only [BB,Bool.or_eq_true,Bool.and_eq_true,Bool.not_eq_true',Bool.and_eq_false_iff,decide_eq_false_iff_not,decide_eq_true_eq] at q
  rcases q with (((q | q) | q) | q) | q
  ·have:=k q.1;have:=q.2;omega
  ·exact j q.1 q.2
  ·exact i q.1 q.2
  ·exact l q.1 q.2
  ·exact g q.1 q.2)] at h
 by_cases h3:t.kind=4∧0<t.words.length
 ·rw [if_pos h3,NV] at h
  by_cases w1:t.min≠0∨t.max≠0
  ·rw [if_pos w1] at h;exact absurd h (by decide)
  rw [if_neg w1] at h
  by_cases w2:64<t.words.length
  ·rw [if_pos w2] at h;exact absurd h (by decide)
  rw [if_neg w2] at h
  have ef:t.fields=[]:=c (by omega) (by omega)
  exact { kind:=by omega,words:=fun _ _=>⟨by omega,by omega,by omega,h⟩,nowords:=n,noelem:=ne,nofields:=c,noscale:=d,nobounds:=f,scale:=by have:=d (by omega);omega,bounds:=fun _ q=>absurd h3 q,elem:=fun q=>by omega,cases:=fun q=>by omega,fields:=by rw [ef];simp,each:=fun x hx=>by rw [ef] at hx;simp at hx,apart:=by rw [ef];rfl }
 rw [if_neg h3] at h
 by_cases h4:((2≤t.kind∧t.kind≤8)∧Cj t (AG t.kind).1 (AG t.kind).2=false)∨¬ (0≤t.scale∧t.scale≤12)
 ·rw [if_pos h4] at h;exact absurd h (by decide)
 rw [if_neg h4] at h
 by_cases h5:(t.kind=8∧t.elem.length=0)∨(t.kind=10∧t.fields.length=0)
 ·rw [if_pos h5] at h;exact absurd h (by decide)
 rw [if_neg h5] at h
 by_cases h6:1<t.elem.length
 ·rw [if_pos h6] at h;exact absurd h (by decide)
 rw [if_neg h6] at h
 by_cases h7:64<t.fields.length
 ·rw [if_pos h7] at h;exact absurd h (by decide)
 rw [if_neg h7] at h
 refine { kind:=by omega,words:=fun a b=>absurd ⟨a,b⟩ h3,nowords:=n,noelem:=ne,nofields:=c,noscale:=d,nobounds:=f,scale:=by omega,bounds:=fun q _=>?_,elem:=fun q=>?_,cases:=fun q=>by omega,fields:=by omega,each:=fun x hx=>?_,apart:=h }
 ·have hb:Cj t (AG t.kind).1 (AG t.kind).2=true:=by
   cases hb:Cj t (AG t.kind).1 (AG t.kind).2 with
   | true=>rfl
   | false=>exact absurd (Or.inl ⟨q,hb⟩) h4
  unfold Cj at hb
  simp only [Bool.and_eq_true,decide_eq_true_eq] at hb
  exact ⟨hb.1.1,hb.1.2,hb.2⟩
 ·match he:t.elem with
  | []=>exact absurd (Or.inl ⟨q,by rw [he];rfl⟩) h5
  | [e]=>exact ⟨e,rfl⟩
  | _::_::_=>rw [he] at h6;simp at h6
 ·obtain ⟨s,hb⟩:=ZaY _ _ _ h x hx
  exact XS hb
theorem Ty.Good.own {t:Ty} (h:t.Good):t.Own:=Ty.own_of (UI h)
theorem Qk {α:Type} (p:α→Bool) (l:List α):∀ (k j:Nat),j+k=l.length→(l.drop j).find? p=Cb l (OJ p l j)
 | 0,j,h=>by rw [LI p l j (by omega),List.drop_eq_nil_of_le (by omega)];rfl
 | k+1,j,h=>by
  have a:j<l.length:=by omega
  rw [Jp p l j a,List.drop_eq_getElem_cons a,List.find?_cons]
  cases hp:p l[j] with
  | true=>rw [if_pos rfl,Au a]
  | false=>rw [if_neg (by decide)];exact Qk p l k (j+1) (by omega)
theorem Yp {α:Type} (p:α→Bool) (l:List α):l.find? p=Cb l (OJ p l 0):=Qk p l l.length 0 (by omega)
def Bj (t:Ty) (w:ByteArray):Option TF:=t.fields.find? fun x=>Dz x.2.1 w
theorem DN {t:Ty} {w:ByteArray} {p:TF} (h:Bj t w=some p):p∈t.fields∧p.2.1=w:=⟨List.mem_of_find?_eq_some h,(EE _ _).1 (List.find?_some (p:=fun x:TF=>Dz x.2.1 w) h)⟩
def KH:Nat→Ty→Vl→Bool
 | 0,_,_=>false
 | d+1,t,v =>
  if t.kind≠v.kind then false
  else if t.kind=2∨t.kind=6∨t.kind=7 then decide (t.min≤v.int)&&decide (v.int≤t.max)
  else if t.kind=3 then decide (v.scale=t.scale)&&(decide (t.min≤v.int)&&decide (v.int≤t.max))
  else if t.kind=4 then (t.words.any fun x=>Dz x v.text)||(decide ((t.words.length:Int)=0)&&WE t v.text.size)
  else if t.kind=5 then WE t v.text.size
  else if t.kind=8 then (v.list.all fun x=>t.elem.all fun e=>KH d e x)&&WE t v.list.length
  else if t.kind=10 then match Bj t v.text with
   | some p=>v.list.all fun x=>KH d p.2.2.2.1 x
   | none=>false
  else if t.kind=9 then (v.fields.all fun q=>match Bj t q.1 with
   | some p=>KH d p.2.2.2.1 q.2
   | none=>false) && !(t.fields.any (ZaP v))
  else true
theorem Ty.depth_elem {t x:Ty} (hx:x∈t.elem):x.depth<t.depth:=by
 have:=t.depth_eq
 have:=(MX t.elem (DZ t.elem)).1 (Nat.le_refl _) x hx
 omega
theorem Ty.depth_field {t:Ty} {p:TF} (hx:p∈t.fields):p.2.2.2.1.depth<t.depth:=by
 have:=t.depth_eq
 have:=(KY t.fields (Db t.fields)).1 (Nat.le_refl _) p hx
 omega
theorem Wn {v:Vl} (gv:v.Good) (vk:v.kind=10):∃ x,v.list=[x]:=by
 obtain ⟨_,a⟩:=MN (J4 gv)
 have q:=J4 gv
 rw [E3] at q
 by_cases p1:BO v=true
 ·rw [if_pos p1] at q;exact absurd q (by decide)
 rw [if_neg p1,if_neg (by omega),if_neg a,if_neg (by omega),if_neg (by omega),if_neg (by omega),if_neg (by omega),if_neg (by omega),if_neg (by omega),if_neg (by omega),if_neg (by omega),if_neg (by omega)] at q
 by_cases p2:Fz v.text=true
 ·rw [if_pos p2] at q
  by_cases p3:v.list.length=0
  ·rw [if_pos p3] at q;exact absurd q (by decide)
  rw [if_neg p3] at q
  by_cases p4:1<v.list.length
  ·rw [if_pos p4] at q;exact absurd q (by decide)
  exact List.length_eq_one_iff.1 (by omega)
 ·rw [if_neg p2] at q;exact absurd q (by decide)
def Zkk (d:Nat) (t:Ty) (q:ByteArray × Vl):Bool:=match Bj t q.1 with
 | some p=>KH d p.2.2.2.1 q.2
 | none=>false
def ER (g:Int × ByteArray × Int × Ty × List Vl) (b:Int):Bool :=
 decide (g.1=b)
theorem Q4 (w0:World) (B:List (List AV)) (Rw:List RowA) (L:List LoopA) (a0:Int × ByteArray × Int × Ty × List Vl) (la1:Nat) (a1:Int) (hla1:B[la1]? = some ([.val (.int .i64 a1)])) (r:Bool) (h:ER a0 a1=r) :
  ACalls Tryz.prog w0 191 [.agg (.val (.int .i64 a0.1)::(.val (.string a0.2.1)::(.val (.int .i64 a0.2.2.1)::((a0.2.2.2.1.cs)++([.list (a0.2.2.2.2.map A1) .none]))))),.box la1 0] ⟨B,Rw,L⟩ fun x st=>x = .val (.bool r)∧st=⟨B,Rw,L⟩:=by
 rw [ER] at h
 refine hd [.tmp 3] Tryz.func191 Tryz.ntmps191 fun M0 W0 f e d a g c hs=>?_
 simp only [Am]
 have b:=(List.getElem?_eq_some_iff.1 hla1).1
 have hs:=And.intro (Af hla1) hs
 refine rg [1,2] hs ?_
 refine rg [3] hs ?_
 exact rT h hs a c
theorem Qw (w0:World) (B:List (List AV)) (Rw:List RowA) (L:List LoopA) (a0:Int × ByteArray × Int × Ty × List Vl) (la1:Nat) (a1:Int) (hla1:B[la1]? = some ([.val (.int .i64 a1)])) :
  ACalls Tryz.prog w0 191 [.agg (.val (.int .i64 a0.1)::(.val (.string a0.2.1)::(.val (.int .i64 a0.2.2.1)::((a0.2.2.2.1.cs)++([.list (a0.2.2.2.2.map A1) .none]))))),.box la1 0] ⟨B,Rw,L⟩ fun x st=>x = .val (.bool (ER a0 a1))∧st=⟨B,Rw,L⟩:=Q4 w0 B Rw L a0 la1 a1 hla1 _ rfl
def Dh (n:Nat) (b:List (Int × ByteArray × Int × Ty × List Vl)) (h:Int):Option ((Int × ByteArray × Int × Ty × List Vl) × Bool) :=
 (AL n b (fun (s:Int × ByteArray × Int × Ty × List Vl)=>some (ER s h))).bind fun g =>
 if decide (g<0) then
  some (((0,(⟨#[]⟩:ByteArray),0,Ty.mk 0 0 0 0 ([]) ([]) ([]),[]),false))
 else
  (Cb b g).bind fun q =>
  some ((q,true))
theorem Ft (w0:World) (n:Nat) (B:List (List AV)) (Rw:List RowA) (L:List LoopA) (a0:List (Int × ByteArray × Int × Ty × List Vl)) (a1:Int) (r:(Int × ByteArray × Int × Ty × List Vl) × Bool) (h:Dh n a0 a1=some r) :
  ACalls Tryz.prog w0 133 [.list (a0.map Cd) .none,.val (.int .i64 a1)] ⟨B,Rw,L⟩ fun x st=>x = .tup [.agg (.val (.int .i64 r.1.1)::(.val (.string r.1.2.1)::(.val (.int .i64 r.1.2.2.1)::((r.1.2.2.2.1.cs)++([.list (r.1.2.2.2.2.map A1) .none]))))),.val (.bool r.2)]∧st=⟨B,Rw,L⟩:=by
 rw [Dh] at h
 refine hd [.cell 4 54,.tmp 5] Tryz.func133 Tryz.ntmps133 fun M0 W0 t p m a s j hs=>?_
 simp only [Am]
 refine rg [0,3,4] hs ?_
 obtain ⟨u,hy3,h⟩:=bind_some h
 refine rc 2 [0,4,6] hs ?_;intro K2 e
 refine Ab _ (Dy w0 n _ _ _ a0 191 [.box B.length 0] (fun (x0:Int × ByteArray × Int × Ty × List Vl)=>some (ER x0 a1)) (fun x0 r hx q g hB' o=>by cases hx;exact Qw w0 _ _ _ x0 _ a1 (Ea hB' ev)) _ hy3) (hv hs) ?_
 refine ne hs e ?_
 clear e
 apply Aa;intro K4 d
 refine rg [0,4,6,11] hs ?_
 refine Av h hs (fun hs h=>?_) (fun hs h=>?_)
 ·refine rg [4,5] hs ?_
  exact rt h hs a j
 refine sk [0,4,6] hs d ?_
 clear d
 obtain ⟨v,i,h⟩:=bind_some h
 obtain ⟨l,k,b⟩:=Ao i
 have c:=Aq (f:=Cd) b
 have hs:=And.intro c hs
 refine rg [4,5] hs ?_
 exact rt h hs a j
def HW (n:Nat)  (b:Int):Option (Int × Bool) :=
 some ((b,true))
def CY (n:Nat) (h:Int):Nat→Int→Int→Option (Int × Bool)
 | 0,_,_=>none
 | m+1,b,g =>
  if decide (h<g) then
   if !(decide ((b.tmod 10)=0)) then
    some ((0,false))
   else
    if BR (b.tdiv 10) then
     if BR (g-1) then
      (CY n h m) (b.tdiv 10) (g-1)
     else none
    else none
  else
   HW n b
def D8 (n:Nat) (h:Int) (b:Int) (g:Int):Option (Int × Bool) :=
 CY n h n b g
def Cm (n:Nat) (h:Int):Nat→Int→Int→Option (Int × Bool)
 | 0,_,_=>none
 | m+1,b,g =>
  if decide (g<h) then
   if BR (b*10) then
    if (decide (999999999999999<(b*10)))||(decide ((b*10)<((-999999999999999)))) then
     some ((0,false))
    else
     if BR (g+1) then
      (Cm n h m) (b*10) (g+1)
     else none
   else none
  else
   D8 n h b g
def Da (n:Nat) (g:Int) (b:Int) (h:Int):Option (Int × Bool) :=
 Cm n h n g b
theorem IA (w0:World) (n:Nat) (B:List (List AV)) (Rw:List RowA) (L:List LoopA) (a0:Int) (a1:Int) (a2:Int) (r:Int × Bool) (h:Da n a0 a1 a2=some r) :
  ACalls Tryz.prog w0 129 [.val (.int .i64 a0),.val (.int .i64 a1),.val (.int .i64 a2)] ⟨B,Rw,L⟩ fun x st=>x = .tup [.val (.int .i64 r.1),.val (.bool r.2)]∧st=⟨B,Rw,L⟩:=by
 rw [Da] at h
 refine hd [.tmp 6,.tmp 7] Tryz.func129 Tryz.ntmps129 fun M0 W0 y o l a G k hs=>?_
 simp only [Am]
 refine rg [0,1,2] hs ?_
 refine Ak (fun e st=>∃ (j:Int) (i:Int),Ck e st B Rw L [(0,true,.val (.int .i64 j)),(1,true,.val (.int .i64 i)),(2,true,.val (.int .i64 a2))] [] [] (D8 n a2 j i=some r)) ?_ ?_
 ·intro K4 z
  apply Ad
  refine Ap (fun m e st=>∃ (f:Int) (d:Int),Ck e st B Rw L [(0,true,.val (.int .i64 f)),(1,true,.val (.int .i64 d)),(2,true,.val (.int .i64 a2))] [] [] (Cm n a2 m f d=some r)) n ⟨a0,a1,([]),Rw,ef hs,ef hs,k,h⟩ ?_
  rintro ml5 e st ⟨f,d,Xl5,Rl5,rfl,rfl,k,h⟩ Ul5 Vl5
  cases ml5 with
  | zero=>cases h
  | succ ml5 =>
  rw [Cm] at h
  refine td y o l a k ?_
  apply Aa;intro K6 w
  refine rg [0,1,2,10] hs ?_
  refine Av h hs (fun hs h=>?_) (fun hs h=>?_)
  rotate_left
  ·refine sx [0,1,2] hs z ?_
   exact ⟨f,d,([]),Rl5,ef hs,ef hs,k,h⟩
  refine sk [0,1,2] hs w ?_
  clear w
  apply Aa;intro K9 v
  apply Ad
  obtain ⟨E,h⟩:=Ac h
  refine rg [0,1,2] hs ?_
  refine rg [0,1,2,20] hs ?_
  refine Av h hs (fun hs h=>?_) (fun hs h=>?_)
  ·refine rg [6,7] hs ?_
   exact rt h hs a k
  refine sk [0,1,2] hs v ?_
  clear v
  obtain ⟨D,h⟩:=Ac h
  refine rl [0,1,2] hs (fun e s=>Vl5 ml5 e s (Nat.lt_succ_self _)) ?_
  exact ⟨(f*10),(d+1),([]),Rl5,ef hs,ef hs,k,h⟩
 ·clear h;rintro e st ⟨j,i,Xk3,Rk3,rfl,rfl,k,h⟩
  rw [D8] at h
  refine td y o l a k ?_
  refine Ak (fun e st=>∃ (g:Int),Ck e st B Rw L [(0,true,.val (.int .i64 g))] [] [] (HW n g=some r)) ?_ ?_
  ·intro K18 u
   apply Ad
   refine Ap (fun m e st=>∃ (b:Int) (c:Int),Ck e st B Rw L [(0,true,.val (.int .i64 b)),(1,true,.val (.int .i64 c)),(2,true,.val (.int .i64 a2))] [] [] (CY n a2 m b c=some r)) n ⟨j,i,([]),Rk3,ef hs,ef hs,k,h⟩ ?_
   rintro ml19 e st ⟨b,c,Xl19,Rl19,rfl,rfl,k,h⟩ Ul19 Vl19
   cases ml19 with
   | zero=>cases h
   | succ ml19 =>
   rw [CY] at h
   refine td y o l a k ?_
   apply Aa;intro K20 q
   refine rg [0,1,2,23] hs ?_
   refine Av h hs (fun hs h=>?_) (fun hs h=>?_)
   rotate_left
   ·refine sx [0] hs u ?_
    exact ⟨b,([]),Rl19,ef hs,ef hs,k,h⟩
   refine sk [0,1,2] hs q ?_
   clear q
   apply Aa;intro K23 t
   apply Ad
   apply Aa;intro K24 p
   refine rg [0,1,2,28] hs ?_
   refine Av h hs (fun hs h=>?_) (fun hs h=>?_)
   ·refine rg [6,7] hs ?_
    exact rt h hs a k
   refine sk [0,1,2] hs p ?_
   clear p
   obtain ⟨F,h⟩:=Ac h
   refine rl [0,1,2] hs t ?_
   clear t
   obtain ⟨C,h⟩:=Ac h
   refine rl [0,1,2] hs (fun e s=>Vl19 ml19 e s (Nat.lt_succ_self _)) ?_
   exact ⟨(b.tdiv 10),(c-1),([]),Rl19,ef hs,ef hs,k,h⟩
  ·clear h;rintro e st ⟨g,Xk17,Rk17,rfl,rfl,k,h⟩
   rw [HW] at h
   refine td y o l a k ?_
   refine rg [6,7] hs ?_
   exact rt h hs a k
def MQ (n:Nat)  (b:Int):Option (Int × Bool) :=
 some ((b,true))
def EW (n:Nat)  : Nat→Int→Int→Option (Int × Bool)
 | 0,_,_=>none
 | m+1,b,g =>
  if decide (g<0) then
   if !(decide ((b.tmod 10)=0)) then
    some ((0,false))
   else
    if BR (b.tdiv 10) then
     if BR (g+1) then
      (EW n m) (b.tdiv 10) (g+1)
     else none
    else none
  else
   MQ n b
def GP (n:Nat)  (b:Int) (g:Int):Option (Int × Bool) :=
 EW n n b g
def ET (n:Nat)  : Nat→Int→Int→Option (Int × Bool)
 | 0,_,_=>none
 | m+1,b,g =>
  if decide (0<g) then
   if (decide (999999999999999<b))||(decide (b<((-999999999999999)))) then
    some ((b,true))
   else
    if BR (10*b) then
     if BR (g-1) then
      (ET n m) (10*b) (g-1)
     else none
    else none
  else
   GP n b g
def EY (n:Nat) (g:Int) (b:Int):Option (Int × Bool) :=
 ET n n g b
theorem NT (w0:World) (n:Nat) (B:List (List AV)) (Rw:List RowA) (L:List LoopA) (a0:Int) (a1:Int) (r:Int × Bool) (h:EY n a0 a1=some r) :
  ACalls Tryz.prog w0 85 [.val (.int .i64 a0),.val (.int .i64 a1)] ⟨B,Rw,L⟩ fun x st=>x = .tup [.val (.int .i64 r.1),.val (.bool r.2)]∧st=⟨B,Rw,L⟩:=by
 rw [EY] at h
 refine hd [.tmp 4,.tmp 5] Tryz.func85 Tryz.ntmps85 fun M0 W0 z o l a H k hs=>?_
 simp only [Am]
 refine rg [0,1] hs ?_
 refine Ak (fun e st=>∃ (j:Int) (i:Int),Ck e st B Rw L [(0,true,.val (.int .i64 j)),(1,true,.val (.int .i64 i))] [] [] (GP n j i=some r)) ?_ ?_
 ·intro K4 C
  apply Ad
  refine Ap (fun m e st=>∃ (f:Int) (d:Int),Ck e st B Rw L [(0,true,.val (.int .i64 f)),(1,true,.val (.int .i64 d))] [] [] (ET n m f d=some r)) n ⟨a0,a1,([]),Rw,ef hs,ef hs,k,h⟩ ?_
  rintro ml5 e st ⟨f,d,Xl5,Rl5,rfl,rfl,k,h⟩ Ul5 Vl5
  cases ml5 with
  | zero=>cases h
  | succ ml5 =>
  rw [ET] at h
  refine td z o l a k ?_
  apply Aa;intro K6 y
  refine rg [0,1,7] hs ?_
  refine Av h hs (fun hs h=>?_) (fun hs h=>?_)
  rotate_left
  ·refine sx [0,1] hs C ?_
   exact ⟨f,d,([]),Rl5,ef hs,ef hs,k,h⟩
  refine sk [0,1] hs y ?_
  clear y
  apply Aa;intro K9 w
  apply Ad
  apply Aa;intro K10 p
  refine rg [0,1,15] hs ?_
  refine Av h hs (fun hs h=>?_) (fun hs h=>?_)
  ·refine rg [4,5] hs ?_
   exact rt h hs a k
  refine sk [0,1] hs p ?_
  clear p
  obtain ⟨F,h⟩:=Ac h
  refine rl [0,1] hs w ?_
  clear w
  obtain ⟨E,h⟩:=Ac h
  refine rl [0,1] hs (fun e s=>Vl5 ml5 e s (Nat.lt_succ_self _)) ?_
  exact ⟨(10*f),(d-1),([]),Rl5,ef hs,ef hs,k,h⟩
 ·clear h;rintro e st ⟨j,i,Xk3,Rk3,rfl,rfl,k,h⟩
  rw [GP] at h
  refine td z o l a k ?_
  refine Ak (fun e st=>∃ (g:Int),Ck e st B Rw L [(0,true,.val (.int .i64 g))] [] [] (MQ n g=some r)) ?_ ?_
  ·intro K18 v
   apply Ad
   refine Ap (fun m e st=>∃ (b:Int) (c:Int),Ck e st B Rw L [(0,true,.val (.int .i64 b)),(1,true,.val (.int .i64 c))] [] [] (EW n m b c=some r)) n ⟨j,i,([]),Rk3,ef hs,ef hs,k,h⟩ ?_
   rintro ml19 e st ⟨b,c,Xl19,Rl19,rfl,rfl,k,h⟩ Ul19 Vl19
   cases ml19 with
   | zero=>cases h
   | succ ml19 =>
   rw [EW] at h
   refine td z o l a k ?_
   apply Aa;intro K20 t
   refine rg [0,1,20] hs ?_
   refine Av h hs (fun hs h=>?_) (fun hs h=>?_)
   rotate_left
   ·refine sx [0] hs v ?_
    exact ⟨b,([]),Rl19,ef hs,ef hs,k,h⟩
   refine sk [0,1] hs t ?_
   clear t
   apply Aa;intro K23 u
   apply Ad
   apply Aa;intro K24 q
   refine rg [0,1,25] hs ?_
   refine Av h hs (fun hs h=>?_) (fun hs h=>?_)
   ·refine rg [4,5] hs ?_
    exact rt h hs a k
   refine sk [0,1] hs q ?_
   clear q
   obtain ⟨G,h⟩:=Ac h
   refine rl [0,1] hs u ?_
   clear u
   obtain ⟨D,h⟩:=Ac h
   refine rl [0,1] hs (fun e s=>Vl19 ml19 e s (Nat.lt_succ_self _)) ?_
   exact ⟨(b.tdiv 10),(c+1),([]),Rl19,ef hs,ef hs,k,h⟩
  ·clear h;rintro e st ⟨g,Xk17,Rk17,rfl,rfl,k,h⟩
   rw [MQ] at h
   refine td z o l a k ?_
   refine rg [4,5] hs ?_
   exact rt h hs a k
def Kq (n:Nat)  : Option ((Int × ByteArray × Int × Ty × List Vl) × Bool) :=
 some (((0,(⟨#[]⟩:ByteArray),0,Ty.mk 0 0 0 0 ([]) ([]) ([]),[]),false))
def Ey (n:Nat) (h:Ty) (q:Int):Nat→Int→Option ((Int × ByteArray × Int × Ty × List Vl) × Bool)
 | 0,_=>none
 | m+1,b =>
  if decide (b<(h.fields.length:Int)) then
   (Cb h.fields b).bind fun g =>
   if decide (g.1=q) then
    some ((g,true))
   else
    if BR (b+1) then
     (Ey n h q m) (b+1)
    else none
  else
   Kq n 
def E2 (n:Nat) (g:Ty) (b:Int):Option ((Int × ByteArray × Int × Ty × List Vl) × Bool) :=
 Ey n g b n 0
theorem ID (w0:World) (n:Nat) (B:List (List AV)) (Rw:List RowA) (L:List LoopA) (a0:Ty) (a1:Int) (r:(Int × ByteArray × Int × Ty × List Vl) × Bool) (h:E2 n a0 a1=some r) :
  ACalls Tryz.prog w0 88 [.agg (a0.cs),.val (.int .i64 a1)] ⟨B,Rw,L⟩ fun x st=>x = .tup [.agg (.val (.int .i64 r.1.1)::(.val (.string r.1.2.1)::(.val (.int .i64 r.1.2.2.1)::((r.1.2.2.2.1.cs)++([.list (r.1.2.2.2.2.map A1) .none]))))),.val (.bool r.2)]∧st=⟨B,Rw,L⟩:=by
 rw [E2] at h
 refine hd [.cell 4 54,.tmp 5] Tryz.func88 Tryz.ntmps88 fun M0 W0 v o j a y c hs=>?_
 simp only [Am]
 refine rg [1,2,4] hs ?_
 refine Ak (fun e st=>Ck e st B Rw L [(4,true,.box (B.length+1) 0)] [a0.cs,[.val (.int .i64 0),.val (.string ((⟨#[]⟩:ByteArray))),.val (.int .i64 0),.val (.int .i64 0),.val (.int .i64 0),.val (.int .i64 0),.val (.int .i64 0),.list ([]) .full,.list ([]) .full,.list ([]) .full,.list ([]) .full]] [] (Kq n  = some r)) ?_ ?_
 ·intro K4 p
  refine rg [1,2,4,6] hs ?_
  apply Ad
  refine Ap (fun m e st=>∃ (b:Int),Ck e st B Rw L [(1,true,.val (.int .i64 a1)),(2,true,.box B.length 0),(4,true,.box (B.length+1) 0),(6,true,.val (.int .i64 b))] [a0.cs,[.val (.int .i64 0),.val (.string ((⟨#[]⟩:ByteArray))),.val (.int .i64 0),.val (.int .i64 0),.val (.int .i64 0),.val (.int .i64 0),.val (.int .i64 0),.list ([]) .full,.list ([]) .full,.list ([]) .full,.list ([]) .full]] [] (Ey n a0 a1 m b=some r)) n ⟨0,([]),Rw,ef hs,ef hs,c,h⟩ ?_
  rintro ml6 e st ⟨b,Xl6,Rl6,rfl,rfl,c,h⟩ Ul6 Vl6
  cases ml6 with
  | zero=>cases h
  | succ ml6 =>
  rw [Ey] at h
  refine td v o j a c ?_
  apply Aa;intro K7 k
  refine rg [1,2,4,6,11] hs ?_
  refine Av h hs (fun hs h=>?_) (fun hs h=>?_)
  rotate_left
  ·refine sx [4] hs p ?_
   exact ⟨([]),Rl6,ef hs,ef hs,c,h⟩
  refine sk [1,2,4,6] hs k ?_
  clear k
  apply Aa;intro K10 d
  apply Ad
  obtain ⟨w,l,h⟩:=bind_some h
  obtain ⟨t,q,g⟩:=Ao l
  have i:=Aq (f:=Cd) g
  have hs:=And.intro i hs
  refine rg [1,2,4,6,21] hs ?_
  refine Av h hs (fun hs h=>?_) (fun hs h=>?_)
  ·refine rg [4,5] hs ?_
   exact rt h hs a c
  refine sk [1,2,4,6] hs d ?_
  clear d
  obtain ⟨u,h⟩:=Ac h
  refine rl [1,2,4,6] hs (fun e s=>Vl6 ml6 e s (Nat.lt_succ_self _)) ?_
  exact ⟨(b+1),([]),Rl6,ef hs,ef hs,c,h⟩
 ·clear h;rintro e st ⟨Xk3,Rk3,rfl,rfl,c,h⟩
  rw [Kq] at h
  refine td v o j a c ?_
  refine rg [4,5] hs ?_
  exact rt h hs a c
def NX (n:Nat)  : Option (Vl × Bool) :=
 some ((Vl.mk 0 0 0 ((⟨#[]⟩:ByteArray)) ([]) ([]),false))
def G0 (n:Nat) (h:Vl) (q:ByteArray):Nat→Int→Option (Vl × Bool)
 | 0,_=>none
 | m+1,b =>
  if decide (b<(h.fields.length:Int)) then
   (Cb h.fields b).bind fun g =>
   if Dz g.1 q then
    some ((g.2,true))
   else
    if BR (b+1) then
     (G0 n h q m) (b+1)
    else none
  else
   NX n 
def Np (n:Nat) (g:Vl) (b:ByteArray):Option (Vl × Bool) :=
 G0 n g b n 0
theorem YE (w0:World) (n:Nat) (B:List (List AV)) (Rw:List RowA) (L:List LoopA) (a0:Vl) (a1:ByteArray) (r:Vl × Bool) (h:Np n a0 a1=some r) :
  ACalls Tryz.prog w0 44 [.agg (a0.cs),.val (.string a1)] ⟨B,Rw,L⟩ fun x st=>x = .tup [.agg (r.1.cs),.val (.bool r.2)]∧st=⟨B,Rw,L⟩:=by
 rw [Np] at h
 refine hd [.cell 4 46,.tmp 5] Tryz.func44 Tryz.ntmps44 fun M0 W0 v o j a y c hs=>?_
 simp only [Am]
 refine rg [1,2,4] hs ?_
 refine Ak (fun e st=>Ck e st B Rw L [(4,true,.box (B.length+1) 0)] [a0.cs,[.val (.int .i64 0),.val (.int .i64 0),.val (.int .i64 0),.val (.string ((⟨#[]⟩:ByteArray))),.list ([]) .full,.list ([]) .full]] [] (NX n  = some r)) ?_ ?_
 ·intro K4 p
  refine rg [1,2,4,6] hs ?_
  apply Ad
  refine Ap (fun m e st=>∃ (b:Int),Ck e st B Rw L [(1,true,.val (.string a1)),(2,true,.box B.length 0),(4,true,.box (B.length+1) 0),(6,true,.val (.int .i64 b))] [a0.cs,[.val (.int .i64 0),.val (.int .i64 0),.val (.int .i64 0),.val (.string ((⟨#[]⟩:ByteArray))),.list ([]) .full,.list ([]) .full]] [] (G0 n a0 a1 m b=some r)) n ⟨0,([]),Rw,ef hs,ef hs,c,h⟩ ?_
  rintro ml6 e st ⟨b,Xl6,Rl6,rfl,rfl,c,h⟩ Ul6 Vl6
  cases ml6 with
  | zero=>cases h
  | succ ml6 =>
  rw [G0] at h
  refine td v o j a c ?_
  apply Aa;intro K7 k
  refine rg [1,2,4,6,11] hs ?_
  refine Av h hs (fun hs h=>?_) (fun hs h=>?_)
  rotate_left
  ·refine sx [4] hs p ?_
   exact ⟨([]),Rl6,ef hs,ef hs,c,h⟩
  refine sk [1,2,4,6] hs k ?_
  clear k
  apply Aa;intro K10 d
  apply Ad
  obtain ⟨w,l,h⟩:=bind_some h
  obtain ⟨t,q,g⟩:=Ao l
  have i:=Aq (f:=BI) g
  have hs:=And.intro i hs
  refine rg [1,2,4,6,21] hs ?_
  refine Av h hs (fun hs h=>?_) (fun hs h=>?_)
  ·refine rg [4,5] hs ?_
   exact rt h hs a c
  refine sk [1,2,4,6] hs d ?_
  clear d
  obtain ⟨u,h⟩:=Ac h
  refine rl [1,2,4,6] hs (fun e s=>Vl6 ml6 e s (Nat.lt_succ_self _)) ?_
  exact ⟨(b+1),([]),Rl6,ef hs,ef hs,c,h⟩
 ·clear h;rintro e st ⟨Xk3,Rk3,rfl,rfl,c,h⟩
  rw [NX] at h
  refine td v o j a c ?_
  refine rg [4,5] hs ?_
  exact rt h hs a c
def AU (g:Int) (b:Ty):Bool :=
 (decide (b.min≤g))&&(decide (g≤b.max))
theorem WG (w0:World) (B:List (List AV)) (Rw:List RowA) (L:List LoopA) (a0:Int) (a1:Ty) (r:Bool) (h:AU a0 a1=r) :
  ACalls Tryz.prog w0 86 [.val (.int .i64 a0),.agg (a1.cs)] ⟨B,Rw,L⟩ fun x st=>x = .val (.bool r)∧st=⟨B,Rw,L⟩:=by
 rw [AU] at h
 refine hd [.tmp 4] Tryz.func86 Tryz.ntmps86 fun M0 W0 e d c a f b hs=>?_
 simp only [Am]
 refine rg [0,3] hs ?_
 refine rg [4] hs ?_
 exact rT h hs a b
theorem E4 (w0:World) (B:List (List AV)) (Rw:List RowA) (L:List LoopA) (a0:Int) (a1:Ty) :
  ACalls Tryz.prog w0 86 [.val (.int .i64 a0),.agg (a1.cs)] ⟨B,Rw,L⟩ fun x st=>x = .val (.bool (AU a0 a1))∧st=⟨B,Rw,L⟩:=WG w0 B Rw L a0 a1 _ rfl
def MY (n:Nat) (g:ByteArray) (b:Ty):Option Bool :=
 some ((decide ((b.words.length:Int)=0))&&(AU (g.size:Int) b))
def H9 (n:Nat) (h:ByteArray) (g:Ty):Nat→Int→Option Bool
 | 0,_=>none
 | m+1,b =>
  if decide (b<(g.words.length:Int)) then
   (Cb g.words b).bind fun q =>
   if Dz q h then
    some (true)
   else
    if BR (b+1) then
     (H9 n h g m) (b+1)
    else none
  else
   MY n h g 
def J7 (n:Nat) (g:ByteArray) (b:Ty):Option Bool :=
 H9 n g b n 0
theorem PX (w0:World) (n:Nat) (B:List (List AV)) (Rw:List RowA) (L:List LoopA) (a0:ByteArray) (a1:Ty) (r:Bool) (h:J7 n a0 a1=some r) :
  ACalls Tryz.prog w0 87 [.val (.string a0),.agg (a1.cs)] ⟨B,Rw,L⟩ fun x st=>x = .val (.bool r)∧st=⟨B,Rw,L⟩:=by
 rw [J7] at h
 refine hd [.tmp 4] Tryz.func87 Tryz.ntmps87 fun M0 W0 y p k a C c hs=>?_
 simp only [Am]
 refine rg [0,3] hs ?_
 refine Ak (fun e st=>Ck e st B Rw L [(0,true,.val (.string a0)),(3,true,.box B.length 0)] [a1.cs] [] (MY n a0 a1  = some r)) ?_ ?_
 ·intro K4 t
  refine rg [0,3,5] hs ?_
  apply Ad
  refine Ap (fun m e st=>∃ (b:Int),Ck e st B Rw L [(0,true,.val (.string a0)),(3,true,.box B.length 0),(5,true,.val (.int .i64 b))] [a1.cs] [] (H9 n a0 a1 m b=some r)) n ⟨0,([]),Rw,ef hs,ef hs,c,h⟩ ?_
  rintro ml6 e st ⟨b,Xl6,Rl6,rfl,rfl,c,h⟩ Ul6 Vl6
  cases ml6 with
  | zero=>cases h
  | succ ml6 =>
  rw [H9] at h
  refine td y p k a c ?_
  apply Aa;intro K7 l
  refine rg [0,3,5,10] hs ?_
  refine Av h hs (fun hs h=>?_) (fun hs h=>?_)
  rotate_left
  ·refine sx [0,3] hs t ?_
   exact ⟨([]),Rl6,ef hs,ef hs,c,h⟩
  refine sk [0,3,5] hs l ?_
  clear l
  apply Aa;intro K10 g
  apply Ad
  obtain ⟨z,o,h⟩:=bind_some h
  obtain ⟨v,u,i⟩:=Ao o
  have j:=Aq (f:=Nb) i
  have hs:=And.intro j hs
  refine rg [0,3,5,19] hs ?_
  refine Av h hs (fun hs h=>?_) (fun hs h=>?_)
  ·refine rg [4] hs ?_
   exact rt h hs a c
  refine sk [0,3,5] hs g ?_
  clear g
  obtain ⟨w,h⟩:=Ac h
  refine rl [0,3,5] hs (fun e s=>Vl6 ml6 e s (Nat.lt_succ_self _)) ?_
  exact ⟨(b+1),([]),Rl6,ef hs,ef hs,c,h⟩
 ·clear h;rintro e st ⟨Xk3,Rk3,rfl,rfl,c,h⟩
  rw [MY] at h
  refine td y p k a c ?_
  have q:=And.intro and_self @imp_self
  have hs:=And.intro q hs
  refine rc 2 [4] hs ?_;intro K16 d
  refine DI _ (fun _=>E4 w0 _ _ _ (a0.size:Int) a1) (hv hs) ?_
  refine ne hs d ?_
  clear d
  exact rt h hs a c
def D9 (g:Int × ByteArray × Int × Ty × List Vl) (b:ByteArray):Bool :=
 Dz g.2.1 b
theorem PP (w0:World) (B:List (List AV)) (Rw:List RowA) (L:List LoopA) (a0:Int × ByteArray × Int × Ty × List Vl) (la1:Nat) (a1:ByteArray) (hla1:B[la1]? = some ([.val (.string a1)])) (r:Bool) (h:D9 a0 a1=r) :
  ACalls Tryz.prog w0 203 [.agg (.val (.int .i64 a0.1)::(.val (.string a0.2.1)::(.val (.int .i64 a0.2.2.1)::((a0.2.2.2.1.cs)++([.list (a0.2.2.2.2.map A1) .none]))))),.box la1 0] ⟨B,Rw,L⟩ fun x st=>x = .val (.bool r)∧st=⟨B,Rw,L⟩:=by
 rw [D9] at h
 refine hd [.tmp 3] Tryz.func203 Tryz.ntmps203 fun M0 W0 f e d a g c hs=>?_
 simp only [Am]
 have b:=(List.getElem?_eq_some_iff.1 hla1).1
 have hs:=And.intro (Af hla1) hs
 refine rg [1,2] hs ?_
 refine rg [3] hs ?_
 exact rT h hs a c
theorem Pe (w0:World) (B:List (List AV)) (Rw:List RowA) (L:List LoopA) (a0:Int × ByteArray × Int × Ty × List Vl) (la1:Nat) (a1:ByteArray) (hla1:B[la1]? = some ([.val (.string a1)])) :
  ACalls Tryz.prog w0 203 [.agg (.val (.int .i64 a0.1)::(.val (.string a0.2.1)::(.val (.int .i64 a0.2.2.1)::((a0.2.2.2.1.cs)++([.list (a0.2.2.2.2.map A1) .none]))))),.box la1 0] ⟨B,Rw,L⟩ fun x st=>x = .val (.bool (D9 a0 a1))∧st=⟨B,Rw,L⟩:=PP w0 B Rw L a0 la1 a1 hla1 _ rfl
def CV (n:Nat) (b:Ty) (h:ByteArray):Option ((Int × ByteArray × Int × Ty × List Vl) × Bool) :=
 (AL n b.fields (fun (s:Int × ByteArray × Int × Ty × List Vl)=>some (D9 s h))).bind fun g =>
 if decide (g<0) then
  some (((0,(⟨#[]⟩:ByteArray),0,Ty.mk 0 0 0 0 ([]) ([]) ([]),[]),false))
 else
  (Cb b.fields g).bind fun q =>
  some ((q,true))
theorem FI (w0:World) (n:Nat) (B:List (List AV)) (Rw:List RowA) (L:List LoopA) (a0:Ty) (a1:ByteArray) (r:(Int × ByteArray × Int × Ty × List Vl) × Bool) (h:CV n a0 a1=some r) :
  ACalls Tryz.prog w0 159 [.agg (a0.cs),.val (.string a1)] ⟨B,Rw,L⟩ fun x st=>x = .tup [.agg (.val (.int .i64 r.1.1)::(.val (.string r.1.2.1)::(.val (.int .i64 r.1.2.2.1)::((r.1.2.2.2.1.cs)++([.list (r.1.2.2.2.2.map A1) .none]))))),.val (.bool r.2)]∧st=⟨B,Rw,L⟩:=by
 rw [CV] at h
 refine hd [.cell 4 54,.tmp 5] Tryz.func159 Tryz.ntmps159 fun M0 W0 t p m a s j hs=>?_
 simp only [Am]
 refine rg [2,3,4] hs ?_
 obtain ⟨u,hy3,h⟩:=bind_some h
 refine rc 2 [2,4,6] hs ?_;intro K2 e
 refine Ab _ (Dy w0 n _ _ _ a0.fields 203 [.box (B.length+1) 0] (fun (x0:Int × ByteArray × Int × Ty × List Vl)=>some (D9 x0 a1)) (fun x0 r hx q g hB' o=>by cases hx;exact Pe w0 _ _ _ x0 _ a1 (Ea hB' ev)) _ hy3) (hv hs) ?_
 refine ne hs e ?_
 clear e
 apply Aa;intro K4 d
 refine rg [2,4,6,12] hs ?_
 refine Av h hs (fun hs h=>?_) (fun hs h=>?_)
 ·refine rg [4,5] hs ?_
  exact rt h hs a j
 refine sk [2,4,6] hs d ?_
 clear d
 obtain ⟨v,i,h⟩:=bind_some h
 obtain ⟨l,k,b⟩:=Ao i
 have c:=Aq (f:=Cd) b
 have hs:=And.intro c hs
 refine rg [4,5] hs ?_
 exact rt h hs a j
abbrev nilV:Vl:=Vl.mk 0 0 0 (⟨#[]⟩:ByteArray) [] []
def GF (l:List TF) (k:Int):Option TF:=l.find? fun p=>decide (p.1=k)
def Df (v:Vl) (w:ByteArray):Option Vl:=(v.fields.find? fun q=>Dz q.1 w).map (·.2)
theorem To {α β:Type} (p:α→Bool) (l:List α) (A:β) (B:α→Option β):(if decide (OJ p l 0<0)=true then some A else (Cb l (OJ p l 0)).bind B)=match l.find? p with | none=>some A | some x=>B x:=by
 rw [Zaq,←Yp]
 cases h:l.find? p with
 | none=>rw [if_pos];simpa [List.find?_eq_none] using h
 | some x =>
  rw [if_neg];rfl
  have:=List.find?_some h
  have:=List.mem_of_find?_eq_some h
  simp only [Bool.not_eq_true',Bool.not_eq_false]
  exact List.any_eq_true.2 ⟨x,this,by assumption⟩
theorem ZjP (n:Nat) (l:List TF) (f:TF→Option Bool) (p:TF→Bool) (hf:∀ x,f x=some (p x)) (hl:l.length≤1000000000) (hn:l.length<n):AL n l f=some (OJ p l 0):=Z0 n l f p (fun x _=>hf x) hl l.length n 0 (by omega) hn
theorem Ti (n:Nat) (l:List TF) (k:Int) (hl:l.length≤1000000000) (hn:l.length<n):Dh n l k=some ((GF l k).getD Nj,(GF l k).isSome):=by
 rw [Dh,ZjP n l (fun a=>some (ER a k)) (fun p=>decide (p.1=k)) (fun x=>rfl) hl hn,Option.bind_some,To (fun p:TF=>decide (p.1=k))]
 rw [GF]
 cases l.find? (fun p:TF=>decide (p.1=k))<;>rfl
theorem JW (n:Nat) (t:Ty) (w:ByteArray) (hl:t.fields.length≤1000000000) (hn:t.fields.length<n):CV n t w=some ((Bj t w).getD Nj,(Bj t w).isSome):=by
 rw [CV,ZjP n t.fields (fun a=>some (D9 a w)) (fun p=>Dz p.2.1 w) (fun x=>rfl) hl hn,Option.bind_some,To (fun p:TF=>Dz p.2.1 w)]
 rw [Bj]
 cases t.fields.find? (fun p:TF=>Dz p.2.1 w)<;>rfl
theorem ZlX (n:Nat) (l:List (ByteArray × Vl)) (f:ByteArray × Vl→Option Bool) (p:ByteArray × Vl→Bool) (hf:∀ x,f x=some (p x)) (hl:l.length≤1000000000) (hn:l.length<n):B7 n l f=some (OJ p l 0):=Xp n l f p (fun x _=>hf x) hl l.length n 0 (by omega) hn
theorem Yq (n:Nat) (v:Vl) (w:ByteArray) (hk:v.kind=9) (hl:v.fields.length≤1000000000) (hn:v.fields.length<n) (hc:∀ q∈v.fields,BK n q.2=some q.2):Ht n v w=some ((Df v w).getD nilV,(Df v w).isSome):=by
 rw [Ht,L0,ZlX n v.fields (fun a=>some (G2 a w)) (fun q=>Dz q.1 w) (fun x=>rfl) hl hn]
 simp only [Option.bind_some]
 rw [show ((!decide (v.kind=9))||decide (OJ (fun q:ByteArray × Vl=>Dz q.1 w) v.fields 0<0))=decide (OJ (fun q:ByteArray × Vl=>Dz q.1 w) v.fields 0<0) by simp [hk],To (fun q:ByteArray × Vl=>Dz q.1 w),Df]
 cases h:v.fields.find? (fun q:ByteArray × Vl=>Dz q.1 w) with
 | none=>rfl
 | some q =>
  have b:=List.mem_of_find?_eq_some h
  simp only [hc q b,Option.bind_some]
  rfl
theorem Sv (n:Nat) (t:Ty) (k:Int) (hl:t.fields.length≤1000000000):∀ (c m i:Nat),i+c=t.fields.length→c<m→Ey n t k m i=some ((GF (t.fields.drop i) k).getD Nj,(GF (t.fields.drop i) k).isSome)
 | c,0,i,_,h=>absurd h (Nat.not_lt_zero _)
 | 0,m+1,i,hi,_=>by
  rw [Ey,An,decide_eq_false (by omega),List.drop_eq_nil_of_le (by omega)];rfl
 | c+1,m+1,i,hi,hm=>by
  have a:i<t.fields.length:=by omega
  rw [Ey,An,decide_eq_true a,if_pos rfl,Au a,Option.bind_some,List.drop_eq_getElem_cons a,GF,List.find?_cons]
  by_cases q:t.fields[i].1=k
  ·rw [decide_eq_true q,if_pos rfl];rfl
  ·rw [decide_eq_false q,if_neg (by decide),if_pos (Ar (by omega))]
   exact Sv n t k hl c m (i+1) (by omega) (by omega)
theorem Lc (n:Nat) (t:Ty) (k:Int) (hl:t.fields.length≤1000000000) (hn:t.fields.length<n):E2 n t k=some ((GF t.fields k).getD Nj,(GF t.fields k).isSome):=Sv n t k hl t.fields.length n 0 (by omega) hn
theorem V2 (n:Nat) (v:Vl) (w:ByteArray) (hl:v.fields.length≤1000000000):∀ (c m i:Nat),i+c=v.fields.length→c<m→G0 n v w m i=some ((((v.fields.drop i).find? fun q=>Dz q.1 w).map (·.2)).getD nilV,(((v.fields.drop i).find? fun q=>Dz q.1 w).map (·.2)).isSome)
 | c,0,i,_,h=>absurd h (Nat.not_lt_zero _)
 | 0,m+1,i,hi,_=>by
  rw [G0,An,decide_eq_false (by omega),List.drop_eq_nil_of_le (by omega)];rfl
 | c+1,m+1,i,hi,hm=>by
  have a:i<v.fields.length:=by omega
  rw [G0,An,decide_eq_true a,if_pos rfl,Au a,Option.bind_some,List.drop_eq_getElem_cons a,List.find?_cons]
  cases q:Dz v.fields[i].1 w with
  | true=>rw [if_pos rfl];rfl
  | false =>
   rw [if_neg (by decide),if_pos (Ar (by omega))]
   exact V2 n v w hl c m (i+1) (by omega) (by omega)
theorem Zbj (n:Nat) (v:Vl) (w:ByteArray) (hl:v.fields.length≤1000000000) (hn:v.fields.length<n):Np n v w=some ((Df v w).getD nilV,(Df v w).isSome):=V2 n v w hl v.fields.length n 0 (by omega) hn
def Lp (n:Int) (t:Ty):Bool:=decide (t.min≤n)&&decide (n≤t.max)
def GY (s:ByteArray) (t:Ty):Bool:=if t.words=[] then Lp s.size t else t.words.any fun x=>Dz x s
theorem ZaN (n:Nat) (s:ByteArray) (t:Ty) (hl:t.words.length≤1000000000):∀ (c m i:Nat),i+c=t.words.length→c<m→H9 n s t m i=some (((t.words.drop i).any fun x=>Dz x s)||(decide (t.words.length=0)&&Lp s.size t))
 | c,0,i,_,h=>absurd h (Nat.not_lt_zero _)
 | 0,m+1,i,hi,_=>by
  rw [H9,An,decide_eq_false (by omega),List.drop_eq_nil_of_le (by omega),if_neg (by decide),MY,AU,Lp,List.any_nil,Bool.false_or,show decide ((t.words.length:Int)=0)=decide (t.words.length=0) by rw [decide_eq_decide];omega]
 | c+1,m+1,i,hi,hm=>by
  have a:i<t.words.length:=by omega
  rw [H9,An,decide_eq_true a,if_pos rfl,Au a,Option.bind_some,List.drop_eq_getElem_cons a,List.any_cons]
  cases q:Dz t.words[i] s with
  | true=>rw [if_pos rfl];rfl
  | false =>
   rw [if_neg (by decide),if_pos (Ar (by omega)),Bool.false_or]
   exact ZaN n s t hl c m (i+1) (by omega) (by omega)
theorem WW (n:Nat) (s:ByteArray) (t:Ty) (hl:t.words.length≤1000000000) (hn:t.words.length<n):J7 n s t=some (GY s t):=by
 refine (ZaN n s t hl t.words.length n 0 (by omega) hn).trans ?_
 rw [List.drop_zero,GY]
 cases h:t.words with
 | nil=>simp
 | cons a r=>simp
theorem ZcN (a b:ByteArray):Dz a b=Dz b a:=by
 cases h:Dz b a with
 | true=>rw [(EE _ _).1 h];exact HD _
 | false =>
  cases h2:Dz a b with
  | false=>rfl
  | true=>rw [(EE _ _).1 h2,HD] at h;cases h
theorem Jg (n:Nat) (s:ByteArray) (t:Ty) (hl:t.words.length≤1000000000) (hn:t.words.length<n):Bm n t.words s=some (t.words.any fun x=>Dz x s):=by
 rw [QN n t.words s hl hn]
 congr 2
 funext x
 exact ZcN _ _
def upN:Nat→Int→Option Int
 | 0,x=>some x
 | k+1,x=>if -999999999999999≤x*10∧x*10≤999999999999999 then upN k (x*10) else none
def dnN:Nat→Int→Option Int
 | 0,x=>some x
 | k+1,x=>if x.tmod 10=0 then dnN k (x.tdiv 10) else none
def KT (x a b:Int):Option Int:=if a≤b then upN (b-a).toNat x else dnN (a-b).toNat x
theorem ZcH {x:Int} (h : -999999999999999≤x∧x≤999999999999999) : -999999999999999≤x.tdiv 10∧x.tdiv 10≤999999999999999:=by
 rcases Int.le_total 0 x with q | q
 ·rw [Int.tdiv_eq_ediv_of_nonneg q];omega
 ·obtain ⟨z,rfl⟩:∃ z,x = -z:=⟨-x,by omega⟩
  rw [Int.neg_tdiv,Int.tdiv_eq_ediv_of_nonneg (by omega)];omega
theorem S0 (n:Nat) (b:Int):∀ (k m:Nat) (x a:Int),-999999999999999≤x∧x≤999999999999999 → -200≤a→a≤100→a-b≤k→b≤a → -100≤b→k<m→CY n b m x a=some ((dnN (a-b).toNat x).getD 0,(dnN (a-b).toNat x).isSome)
 | k,0,x,a,_,_,_,_,_,_,h=>absurd h (Nat.not_lt_zero _)
 | 0,m+1,x,a,hx,h0,h1,hk,hb,hb2,_=>by
  rw [CY,decide_eq_false (by omega),if_neg (by decide),show (a-b).toNat=0 by omega];rfl
 | k+1,m+1,x,a,hx,h0,h1,hk,hb,hb2,hm=>by
  rw [CY]
  by_cases q:b<a
  ·obtain ⟨j,hj⟩:∃ j,(a-b).toNat=j+1:=⟨(a-b).toNat-1,by omega⟩
   rw [decide_eq_true q,if_pos rfl,hj,dnN]
   by_cases c:x.tmod 10=0
   ·have d:=ZcH hx
    rw [decide_eq_true c,if_neg (by decide),if_pos c,if_pos (by unfold BR;omega),if_pos (by unfold BR;omega),S0 n b k m (x.tdiv 10) (a-1) d (by omega) (by omega) (by omega) (by omega) hb2 (by omega),show (a-1-b).toNat=j by omega]
   ·rw [decide_eq_false c,if_pos (by rfl),if_neg c];rfl
  ·rw [decide_eq_false q,if_neg (by decide),show (a-b).toNat=0 by omega];rfl
theorem Zb6 (n:Nat) (b:Int):∀ (k m:Nat) (x a:Int),-999999999999999≤x∧x≤999999999999999→0≤a→a≤100→b-a≤k→a≤b→b≤100→k<m→200<n→Cm n b m x a=some ((upN (b-a).toNat x).getD 0,(upN (b-a).toNat x).isSome)
 | k,0,x,a,_,_,_,_,_,_,h,_=>absurd h (Nat.not_lt_zero _)
 | 0,m+1,x,a,hx,h0,h1,hk,hb,hb2,_,hn=>by
  rw [Cm,decide_eq_false (by omega),if_neg (by decide),show (b-a).toNat=0 by omega,D8,S0 n b 0 n x a hx (by omega) h1 (by omega) (by omega) (by omega) (by omega),show (a-b).toNat=0 by omega];rfl
 | k+1,m+1,x,a,hx,h0,h1,hk,hb,hb2,hm,hn=>by
  rw [Cm]
  by_cases q:a<b
  ·obtain ⟨j,hj⟩:∃ j,(b-a).toNat=j+1:=⟨(b-a).toNat-1,by omega⟩
   rw [decide_eq_true q,if_pos rfl,hj,upN,if_pos (by unfold BR;omega)]
   by_cases c : -999999999999999≤x*10∧x*10≤999999999999999
   ·rw [decide_eq_false (by omega),decide_eq_false (by omega),if_neg (by decide),if_pos c,if_pos (by unfold BR;omega),Zb6 n b k m (x*10) (a+1) c (by omega) (by omega) (by omega) (by omega) hb2 (by omega) hn,show (b-(a+1)).toNat=j by omega]
   ·rw [if_pos (by rw [Bool.or_eq_true,decide_eq_true_eq,decide_eq_true_eq];omega),if_neg c];rfl
  ·rw [decide_eq_false q,if_neg (by decide),show (b-a).toNat=0 by omega,D8,S0 n b 0 n x a hx (by omega) h1 (by omega) (by omega) (by omega) (by omega),show (a-b).toNat=0 by omega];rfl
theorem PK (n:Nat) (x a b:Int) (hx : -999999999999999≤x∧x≤999999999999999) (ha:0≤a∧a≤100) (hb:0≤b∧b≤100) (hn:200<n):Da n x a b=some ((KT x a b).getD 0,(KT x a b).isSome):=by
 rw [Da,KT]
 by_cases q:a≤b
 ·rw [if_pos q,Zb6 n b 100 n x a hx ha.1 ha.2 (by omega) q hb.2 (by omega) hn]
 ·rw [if_neg q]
  obtain ⟨m,rfl⟩:∃ m,n=m+1:=⟨n-1,by omega⟩
  rw [Cm,decide_eq_false (by omega),if_neg (by decide),D8,S0 _ b 100 _ x a hx (by omega) ha.2 (by omega) (by omega) (by omega) (by omega)]
def ZhD (o:Option Int) (y:Int × Bool):Prop:=match o with | some m=>y=(m,true) | none=>y.2=false∨(y.2=true∧(999999999999999<y.1∨y.1 < -999999999999999))
theorem Xt (n:Nat):∀ (k m:Nat) (x d:Int),-999999999999999≤x∧x≤999999999999999 → -d≤k→d≤0 → -100≤d→k<m→EW n m x d=some ((dnN (-d).toNat x).getD 0,(dnN (-d).toNat x).isSome)
 | k,0,x,d,_,_,_,_,h=>absurd h (Nat.not_lt_zero _)
 | 0,m+1,x,d,hx,h0,h1,h2,_=>by
  rw [EW,decide_eq_false (by omega),if_neg (by decide),show (-d).toNat=0 by omega];rfl
 | k+1,m+1,x,d,hx,h0,h1,h2,hm=>by
  rw [EW]
  by_cases q:d<0
  ·obtain ⟨j,hj⟩:∃ j,(-d).toNat=j+1:=⟨(-d).toNat-1,by omega⟩
   rw [decide_eq_true q,if_pos rfl,hj,dnN]
   by_cases c:x.tmod 10=0
   ·have a:=ZcH hx
    rw [decide_eq_true c,if_neg (by decide),if_pos c,if_pos (by unfold BR;omega),if_pos (by unfold BR;omega),Xt n k m (x.tdiv 10) (d+1) a (by omega) (by omega) (by omega) (by omega),show (-(d+1)).toNat=j by omega]
   ·rw [decide_eq_false c,if_pos (by rfl),if_neg c];rfl
  ·rw [decide_eq_false q,if_neg (by decide),show (-d).toNat=0 by omega];rfl
theorem Zgg (n:Nat) (hn:200<n):∀ (k m:Nat) (x d:Int),-999999999999999≤x∧x≤999999999999999→d≤k→0≤d→d≤100→k<m→∃ y,ET n m x d=some y∧ZhD (upN d.toNat x) y
 | k,0,x,d,_,_,_,_,h=>absurd h (Nat.not_lt_zero _)
 | 0,m+1,x,d,hx,h0,h1,h2,_=>by
  rw [ET,decide_eq_false (by omega),if_neg (by decide),show d.toNat=0 by omega,GP,Xt n 0 n x d hx (by omega) (by omega) (by omega) (by omega),show (-d).toNat=0 by omega]
  exact ⟨_,rfl,rfl⟩
 | k+1,m+1,x,d,hx,h0,h1,h2,hm=>by
  rw [ET]
  by_cases q:0<d
  ·obtain ⟨j,hj⟩:∃ j,d.toNat=j+1:=⟨d.toNat-1,by omega⟩
   rw [decide_eq_true q,if_pos rfl,hj,upN,decide_eq_false (by omega),decide_eq_false (by omega),if_neg (by decide),if_pos (by unfold BR;omega),if_pos (by unfold BR;omega),Int.mul_comm 10 x]
   by_cases c : -999999999999999≤x*10∧x*10≤999999999999999
   ·rw [if_pos c]
    obtain ⟨y,b,a⟩:=Zgg n hn k m (x*10) (d-1) c (by omega) (by omega) (by omega) (by omega)
    rw [show (d-1).toNat=j by omega] at a
    exact ⟨y,b,a⟩
   ·rw [if_neg c]
    obtain ⟨m,rfl⟩:∃ q,m=q+1:=⟨m-1,by omega⟩
    rw [ET]
    by_cases q2:0<d-1
    ·rw [decide_eq_true q2,if_pos rfl,if_pos (by rw [Bool.or_eq_true,decide_eq_true_eq,decide_eq_true_eq];omega)]
     exact ⟨_,rfl,.inr ⟨rfl,by simp only;omega⟩⟩
    ·rw [decide_eq_false q2,if_neg (by decide),GP]
     obtain ⟨n,rfl⟩:∃ q,n=q+1:=⟨n-1,by omega⟩
     rw [EW,decide_eq_false (by omega),if_neg (by decide)]
     exact ⟨_,rfl,.inr ⟨rfl,by simp only;omega⟩⟩
  ·rw [decide_eq_false q,if_neg (by decide),show d.toNat=0 by omega,GP,Xt n 0 n x d hx (by omega) (by omega) (by omega) (by omega),show (-d).toNat=0 by omega]
   exact ⟨_,rfl,rfl⟩
theorem UY (n:Nat) (x a b:Int) (hx : -999999999999999≤x∧x≤999999999999999) (ha:0≤a∧a≤100) (hb:0≤b∧b≤100) (hn:200<n):∃ y,EY n x (b-a)=some y∧ZhD (KT x a b) y:=by
 rw [EY,KT]
 by_cases q:a≤b
 ·rw [if_pos q]
  exact Zgg n hn 100 n x (b-a) hx (by omega) (by omega) (by omega) (by omega)
 ·rw [if_neg q]
  obtain ⟨m,rfl⟩:∃ m,n=m+1:=⟨n-1,by omega⟩
  rw [ET,decide_eq_false (by omega),if_neg (by decide),GP,Xt _ 100 _ x (b-a) hx (by omega) (by omega) (by omega) (by omega),show (-(b-a)).toNat=(a-b).toNat by omega]
  refine ⟨_,rfl,?_⟩
  cases h:dnN (a-b).toNat x with
  | none=>exact .inl rfl
  | some m=>rfl
theorem QB:∀ a b:List UInt8,Op.bytesLess a b=decide (VD a b<0)
 | [],[]=>rfl
 | _::_,[]=>rfl
 | [],_::_=>rfl
 | x::a,y::b=>by
  have ih:=QB a b
  simp only [Op.bytesLess,VD,Lib.compareBytes] at *
  by_cases h1:x<y
  ·simp [h1]
  ·by_cases h2:y<x
   ·have:¬ x=y:=fun e=>by rw [e] at h2;exact UInt8.lt_irrefl _ h2
    simp [h1,h2,this]
   ·have:x=y:=by
     rw [UInt8.lt_iff_toNat_lt] at h1 h2
     exact UInt8.toNat.inj (by omega)
    subst this
    simp [h1,ih]
theorem XG (x y:ByteArray):Wj x y=decide (Eh x y<0):=QB _ _
theorem OQ (x y:ByteArray):Eh y x = - Eh x y:=QL _ _
theorem Q5 (x:ByteArray):Eh x x=0:=S8 _
theorem O0 {x y z:ByteArray} (h1:Eh x y<0) (h2:Eh y z<0):Eh x z<0:=(Qi _ _ _ (Int.le_of_lt h1) (Int.le_of_lt h2)).2 (.inl h1)
def SS (l:List (ByteArray × Vl)):Prop:=l.Pairwise fun p q=>Eh p.1 q.1<0
theorem VQ:∀ (l m:List (ByteArray × Vl)),l.Perm m→SS l→SS m→l=m
 | [],m,h,_,_=>(List.nil_perm.1 h).symm▸rfl
 | p::l,[],h,_,_=>absurd h.length_eq (by simp)
 | p::l,q::m,h,h1,h2=>by
  obtain ⟨a1,a2⟩:=List.pairwise_cons.1 h1
  obtain ⟨a,b⟩:=List.pairwise_cons.1 h2
  have e:p=q:=by
   have hp:p∈q::m:=h.mem_iff.1 (List.mem_cons_self ..)
   have hq:q∈p::l:=h.mem_iff.2 (List.mem_cons_self ..)
   rcases List.mem_cons.1 hp with e | hp
   ·exact e
   rcases List.mem_cons.1 hq with e | hq
   ·exact e.symm
   have d:=a p hp
   have c:=a1 q hq
   have:=OQ p.1 q.1
   omega
  subst e
  rw [VQ l m ((List.perm_cons _).1 h) a2 b]
theorem TX {α:Type} (d:α):∀ xs:List α,(List.range xs.length).map (fun i=>xs.getD i d)=xs:=fun xs=>by
 apply List.ext_getElem
 ·simp
 ·intro i b a
  simp [List.getD,List.getElem?_eq_getElem a]
theorem I1 (l:List (ByteArray × Vl)):(BG l).Perm l:=by
 have h:=((MW (fun i=>(l.getD i NQ).1) l.length).1).map fun i=>l.getD i NQ
 rw [TX] at h
 exact h
theorem Qg (l:List (ByteArray × Vl)) (hd:(l.map Prod.fst).Nodup):SS (BG l):=by
 have m:=I1 l
 have p:=Gk l
 have f:((BG l).map Prod.fst).Nodup:=(m.map Prod.fst).nodup_iff.2 hd
 unfold SS
 rw [List.pairwise_iff_getElem]
 intro i j c b a
 have h:=(MW (fun i=>(l.getD i NQ).1) l.length).2 i j a (by omega)
 have n:(IF (fun i=>(l.getD i NQ).1) l.length).length=l.length:=Hl _ _
 have g:∀ k (e:k<(BG l).length),(BG l)[k].1=(l.getD ((IF (fun i=>(l.getD i NQ).1) l.length)[k]!) NQ).1:=fun k e=>by
  have d:k<(IF (fun i=>(l.getD i NQ).1) l.length).length:=by omega
  rw [getElem!_pos _ k d]
  show ((MF Prod.fst NQ l)[k]'e).1=_
  simp only [MF,List.getElem_map]
 rw [g i c,g j b]
 have ne:(BG l)[i].1≠(BG l)[j].1:=by
  have:=List.pairwise_iff_getElem.1 f i j (by simpa using c) (by simpa using b) a
  simpa using this
 rw [g i c,g j b] at ne
 have o:=OQ (l.getD ((IF (fun i=>(l.getD i NQ).1) l.length)[i]!) NQ).1 (l.getD ((IF (fun i=>(l.getD i NQ).1) l.length)[j]!) NQ).1
 have r:Eh (l.getD ((IF (fun i=>(l.getD i NQ).1) l.length)[i]!) NQ).1 (l.getD ((IF (fun i=>(l.getD i NQ).1) l.length)[j]!) NQ).1≠0:=fun q=>ne ((I6 _ _).1 q)
 change ¬ Eh _ _<0 at h
 omega
theorem ZaS (n:Nat) (l:List (ByteArray × Vl)) (hl:l.length≤1000000) (hn:l.length<n) (hnul:∀ p∈l,BO p.2=false) (hd:(l.map Prod.fst).Nodup):∀ (k m i:Nat),i+k=l.length→k<m→Ej n l m i (l.take i)=JC n l
 | k,0,i,_,h=>absurd h (Nat.not_lt_zero _)
 | 0,m+1,i,hi,_=>by
  rw [Ej,An,decide_eq_false (by omega),List.take_of_length_le (by omega)]
  rfl
 | k+1,m+1,i,hi,hm=>by
  have a:i<l.length:=by omega
  have r:¬ (((l.length:Nat):Int)<(i:Int)+1):=by omega
  rw [Ej,An,decide_eq_true a]
  rw [if_pos rfl,Au a,Option.bind_some]
  rw [if_pos (Ar (by omega)),if_pos (by omega)]
  have o:((i:Int)+1).toNat=i+1:=by omega
  have d:Dc n (l.drop (i+1)) (fun b=>some (DR b l[i]))=some false:=by
   rw [Dc,B7]
   have e:=Xp n (l.drop (i+1)) (fun b=>some (DR b l[i])) (fun b=>DR b l[i]) (fun _ _=>rfl) (by rw [List.length_drop];omega) (l.drop (i+1)).length n 0 (by omega) (by rw [List.length_drop];omega)
   have c:BC n (l.drop (i+1)) (fun b=>some (DR b l[i])) n 0=_:=e
   rw [c,Option.bind_some,MU]
   congr 1
   rw [List.any_eq_false]
   intro p g
   rw [DR]
   have ne:¬ Dz p.1 l[i].1=true:=by
    rw [EE]
    intro q
    obtain ⟨j,f,rfl⟩:=List.mem_iff_getElem.1 g
    rw [List.length_drop] at f
    have:=List.pairwise_iff_getElem.1 hd i (i+1+j) (by simpa using a) (by simp;omega) (by omega)
    apply this
    simp only [List.getElem_map]
    rw [List.getElem_drop] at q
    exact q.symm
   simp [Bool.eq_false_iff.2 ne]
  rw [o,d,Option.bind_some,hnul _ (List.getElem_mem a)]
  rw [if_pos (by rfl),if_pos (by rw [List.length_take];omega),Ir,if_pos (Ar (by omega))]
  have e:l.take i++[l[i]]=l.take (i+1):=by rw [List.take_succ_eq_append_getElem a]
  rw [e]
  exact ZaS n l hl hn hnul hd k m (i+1) (by omega) (by omega)
theorem Zbu {b:List (ByteArray × Vl)} (hb:SS b) (x:ByteArray × Vl) (hx:∀ p∈b,p.1≠x.1) {j:Nat} (h1:∀ p∈b.take j,Eh p.1 x.1<0) (h2:∀ h:j<b.length,¬ Eh b[j].1 x.1<0):SS (b.take j++[x]++b.drop j):=by
 unfold SS at *
 rw [List.append_assoc,List.singleton_append]
 have a:=hb
 rw [←List.take_append_drop j b] at a
 obtain ⟨k,c,i⟩:=List.pairwise_append.1 a
 have hd:∀ q∈b.drop j,Eh x.1 q.1<0:=by
  by_cases hj:j<b.length
  ·have e:=List.drop_eq_getElem_cons hj
   rw [e] at c ⊢
   obtain ⟨f,n⟩:=List.pairwise_cons.1 c
   have g:Eh x.1 b[j].1<0:=by
    have:=h2 hj
    have l:=OQ b[j].1 x.1
    have m:Eh b[j].1 x.1≠0:=fun q=>hx _ (List.getElem_mem hj) ((I6 _ _).1 q)
    omega
   intro q hq
   rcases List.mem_cons.1 hq with rfl | hq
   ·exact g
   ·exact O0 g (f q hq)
  ·rw [List.drop_eq_nil_of_le (by omega)];simp
 refine List.pairwise_append.2 ⟨k,List.pairwise_cons.2 ⟨hd,c⟩,fun p d q hq=>?_⟩
 rcases List.mem_cons.1 hq with rfl | hq
 ·exact h1 p d
 ·exact i p d q hq
theorem LH {B:List (List AV)} {l:Nat} {cs:List AV} (h:B[l]? = some cs) (i:Nat):∀ (X:List (List AV)) (c c':List AV),(B.set i c++X).set l c'=(B.set i c).set l c'++X:=fun X c c'=>List.set_append_left _ _ (by rw [List.length_set];exact (List.getElem?_eq_some_iff.1 h).1)
theorem Ai {B:List (List AV)} {l:Nat} {c:List AV} (h:B[l]? = some c):B.set l c=B:=by
 apply List.ext_getElem?
 intro i
 by_cases q:l=i
 ·subst q
  rw [List.getElem?_set_self (List.getElem?_eq_some_iff.1 h).1,h]
 ·rw [List.getElem?_set_ne q]
@[go_sem] theorem Zjl:Gj Tryz.prog 119=none:=by kernel_rfl
@[go_sem] theorem Zly:Gj Tryz.prog 69=none:=by kernel_rfl
@[go_sem] theorem ZhL:Jc Tryz.prog 249=false:=by kernel_rfl
@[go_sem] theorem ZdP (xs ys:List AV):OE Tryz.prog .eql 106 xs ys=(obK [(none,true),(some .i64,false)] xs ys,N8 xs ys):=ZbJ (by kernel_rfl) xs ys
@[go_sem] theorem ZhQ:E7 Tryz.prog 122 0=some (0,1,false):=by kernel_rfl
@[go_sem] theorem Zhy:E7 Tryz.prog 122 1=some (1,1,false):=by kernel_rfl
@[go_sem] theorem Zjf:Nr Tryz.prog 249=some .u64:=by kernel_rfl
@[go_sem] theorem Zgw:DX Tryz.prog 119=some [(0,1),(1,1)]:=by kernel_rfl
@[go_sem] theorem Zjw:Ew Tryz.prog 249=false:=by kernel_rfl
@[go_sem] theorem ZkL:IQ Tryz.prog 106=some (2,true):=by kernel_rfl
@[go_sem] theorem ZlD:IQ Tryz.prog 120=some (1,false):=by kernel_rfl
@[go_sem] theorem ZkH:IQ Tryz.prog 249=some (1,false):=by kernel_rfl
@[go_sem] theorem ZiP:CM Tryz.prog 119=some [.val (.string ⟨#[]⟩),.val (.int .i64 0)]:=by kernel_rfl
@[go_sem] theorem ZiB:CM Tryz.prog 249=some [.val (.int .u64 0)]:=by kernel_rfl
end Go.Proofs.YtgpmlelfkjfbiaaGreatDoor
namespace Go.Ev
open Go Go.RowKit
section
variable {o:VO} {n:Nat}
@[go_sem] theorem Zit:(LF o n).cells=[LF o n]:=by cases o<;>rfl
@[go_sem] theorem Zkw:(LF o n).one=true:=by cases o<;>rfl
@[go_sem] theorem ZhR:AY (LF o n)=true:=by cases o<;>rfl
@[go_sem] theorem ZiR:GE (LF o n)=false:=by cases o<;>rfl
@[go_sem] theorem Zlo:Vj (LF o n)=false:=by cases o<;>rfl
@[go_sem] theorem ZfH (id ver:Nat):LF (.row id ver) n = .vec id ver 0 n:=rfl
def VO.under:VO→Nat→Prop
 | .nil,_=>True
 | .row id _,k=>id<k
@[go_sem] theorem ZiG {nb nr nl:Nat}:Under nb nr nl (LF o n)↔o.under nr:=by
 cases o with
 | nil=>exact ⟨fun _=>trivial,fun _ => .list (by simp) trivial⟩
 | row id ver=>exact ⟨fun h=>by cases h;assumption,fun h => .vec h⟩
@[go_sem] theorem Ze2 (k:Nat):VO.nil.under k=True:=rfl
@[go_sem] theorem Qs (id ver k:Nat):(VO.row id ver).under k=(id<k):=rfl
end
def Pv:VO→List RowA→VO
 | .nil,rows => .row rows.length 0
 | .row id ver,_ => .row id (ver+1)
def Qq:VO→List RowA→Nat→List AV→List RowA
 | .nil,rows,sz,cs=>rows++[.vec 0 sz cs]
 | .row id ver,rows,sz,cs=>rows.set id (.vec (ver+1) sz cs)
section
variable {Rw rows:List RowA} {l:List (Nat × Nat × Own)} {ho:Own} {v:List VE} {o:VO} {sz:Nat} {cs:List AV}
theorem OwnsAt.up {lo:Nat} {x:Nat × Nat × Own} (h:OwnsAt lo ho rows x) (r:List RowA):OwnsAt lo ho (rows++r) x:=by
 rcases h with h | ⟨id,h1,h2,h3⟩
 ·exact .inl h
 ·exact .inr ⟨id,h1,h2,by rw [List.getElem?_append_left (List.getElem?_eq_some_iff.1 h3).1];exact h3⟩
theorem OwnsAt.set {lo:Nat} {x:Nat × Nat × Own} (h:OwnsAt lo ho rows x) {i:Nat} {a s:Nat} {c:List AV} (hi:rows[i]? = some (.vec a s c)) (r:RowA):OwnsAt lo ho (rows.set i r) x:=by
 rcases h with h | ⟨id,h1,h2,h3⟩
 ·exact .inl h
 ·refine .inr ⟨id,h1,h2,?_⟩
  rw [List.getElem?_set_ne (fun e=>by rw [e,h3] at hi;cases hi)]
  exact h3
theorem VAt.lt {lo:Nat} {x:VE} (h:VAt lo rows x):x.1.under rows.length:=by
 rcases h with h | ⟨id,ver,h1,h2,h3⟩
 ·rw [h.1];trivial
 ·rw [h1];exact (List.getElem?_eq_some_iff.1 h3).1
theorem Owns.nilV (h:Owns Rw rows l ho v) (sz:Nat):Owns Rw rows l ho ((.nil,sz,[])::v) :=
 ⟨h.len,h.keep,fun i r b q a=>h.calm i r b q fun x hx=>a x (List.mem_cons_of_mem _ hx),h.each,h.apart,fun x hx=>by
  rcases List.mem_cons.1 hx with rfl | hx
  ·exact .inl ⟨rfl,rfl⟩
  ·exact h.veach x hx,List.pairwise_cons.2 ⟨fun _ _ _ _ _ q=>(nomatch q),h.vapart⟩⟩
theorem Owns.newV (h:Owns Rw rows l ho v) (sz:Nat) (cs:List AV):Owns Rw (rows++[.vec 0 sz cs]) l ho ((.row rows.length 0,sz,cs)::v):=by
 have m:=h.len
 refine ⟨by simp;omega,fun i d j=>?_,fun i r c q f=>?_,fun x hx=>(h.each x hx).up _,h.apart,fun x hx=>?_,List.pairwise_cons.2 ⟨fun y g id a b q k=>?_,h.vapart⟩⟩
 ·rw [List.getElem?_append_left (by omega)];exact h.keep i d j
 ·by_cases d:i<rows.length
  ·rw [List.getElem?_append_left d] at c
   exact h.calm i r c q fun x hx=>f x (List.mem_cons_of_mem _ hx)
  ·have e:i=rows.length:=by
    have:=(List.getElem?_eq_some_iff.1 c).1
    simp at this;omega
   exact absurd (by rw [e]) (f _ (List.mem_cons_self ..) 0)
 ·rcases List.mem_cons.1 hx with rfl | hx
  ·exact .inr ⟨_,_,rfl,m,by simp⟩
  ·exact (h.veach x hx).up _
 ·cases q
  have:=(h.veach y g).lt
  rw [k] at this
  exact Nat.lt_irrefl _ this
theorem Owns.setV {id ver:Nat} (h:Owns Rw rows l ho ((.row id ver,sz,cs)::v)) (ver':Nat) (cs':List AV):Owns Rw (rows.set id (.vec ver' sz cs')) l ho ((.row id ver',sz,cs')::v):=by
 obtain ⟨w,n,s,t,u,j,m⟩:=h
 obtain ⟨hid,hrow⟩:Rw.length≤id∧rows[id]? = some (.vec ver sz cs):=by
  rcases j _ (List.mem_cons_self ..) with q | ⟨c,ver',q1,q2,q3⟩
  ·cases q.1
  ·cases q1;exact ⟨q2,q3⟩
 have d:=(List.getElem?_eq_some_iff.1 hrow).1
 obtain ⟨p1,p2⟩:=List.pairwise_cons.1 m
 refine ⟨by simpa using w,fun i p o=>?_,fun i r g q f=>?_,fun x hx=>(t x hx).set hrow _,u,fun x hx=>?_,List.pairwise_cons.2 ⟨fun y hy c a b q=>by cases q;exact p1 y hy id ver b rfl,p2⟩⟩
 ·rw [List.getElem?_set_ne (by omega)];exact n i p o
 ·by_cases e:id=i
  ·exact absurd (by rw [e]) (f _ (List.mem_cons_self ..) ver')
  ·rw [List.getElem?_set_ne e] at g
   refine s i r g q fun x hx=>?_
   rcases List.mem_cons.1 hx with rfl | hx
   ·intro a k;cases k;exact e rfl
   ·exact f x (List.mem_cons_of_mem _ hx)
 ·rcases List.mem_cons.1 hx with rfl | hx
  ·exact .inr ⟨id,ver',rfl,hid,by simp [d]⟩
  ·exact (j x (List.mem_cons_of_mem _ hx)).set (fun a k=>p1 x hx id ver a rfl k) _
theorem Owns.bump (h:Owns Rw rows l ho ((o,sz,cs)::v)) (cs':List AV):Owns Rw (Qq o rows sz cs') l ho ((Pv o rows,sz,cs')::v):=by
 cases o with
 | nil =>
  have b:Owns Rw rows l ho v:=⟨h.len,h.keep,fun i r d q c=>h.calm i r d q fun x hx=>by
   rcases List.mem_cons.1 hx with rfl | hx
   ·intro a k;cases k
   ·exact c x hx,h.each,h.apart,fun x hx=>h.veach x (List.mem_cons_of_mem _ hx),(List.pairwise_cons.1 h.vapart).2⟩
  exact b.newV sz cs'
 | row id ver=>exact h.setV (ver+1) cs'
theorem Owns.eqV {v':List VE} (h:Owns Rw rows l ho v) (he:v=v'):Owns Rw rows l ho v':=he▸h
theorem Owns.nilZ (h:Owns Rw rows l ho ((o,sz,cs)::v)) (hs:0<sz) {n:Nat} (hn:cs.length=n*sz):o = .nil→n=0:=fun e=>by
 rcases h.veach _ (List.mem_cons_self ..) with q | ⟨id,ver,q1,a,q3⟩
 ·have a:cs=[]:=q.2
  rw [a] at hn
  rcases Nat.eq_zero_or_pos n with w | w
  ·exact w
  ·have:=Nat.mul_pos w hs
   simp at hn;omega
 ·rw [e] at q1;cases q1
theorem Owns.lenV (h:Owns Rw rows l ho ((o,sz,cs)::v)) (hs:0<sz) {n:Nat} (hn:cs.length=n*sz) (P:Program) (t:TypeId):R9 P t (LF o n)=((JR P t).isSome=true,.val (.int .i64 n)):=by
 cases o with
 | nil=>rw [h.nilZ hs hn rfl];rfl
 | row id ver=>rfl
theorem Owns.underV (h:Owns Rw rows l ho v):∀ x∈v,x.1.under rows.length:=fun x a=>(h.veach x a).lt
theorem Owns.appendV {P:Program} {t el:TypeId} {by8 n m:Nat} {ag:Bool} (h:Owns Rw rows l ho ((o,sz,cs)::v)) (he:JR P t=some (el,sz,ag,by8)) (hz:(CM P el).isSome=true) (hs:0<sz) (hn:cs.length=n*sz) (hm:0<m)
  (hb:(n+m)*by8≤140737488355328) (hb2:n+m≤4611686018427387904) (ys:List AV) (hy:ys.length=m) (cs':List AV) (hc:cs++ys.flatMap (fun y=>y.pub.cells)=cs') :
  ∃ o' rows',Owns Rw rows' l ho ((o',sz,cs')::v)∧∀ (B:List (List AV)) (L:List LoopA) (o2:Own),Bh P ⟨B,rows,L⟩ t (LF o n) (.list ys o2)=((∀ y∈ys,y.cells.length=sz∧AY y=true),LF o' (n+m),⟨B,rows',L⟩):=by
 subst hc
 refine ⟨_,_,h.bump _,fun B L o2=>?_⟩
 cases o with
 | nil =>
  have e0:=h.nilZ hs hn rfl
  subst e0
  have ec:cs=[]:=List.length_eq_zero_iff.1 (by simpa using hn)
  subst ec
  simp only [LF,Bh,he,AM,B1,Cc,hs,hz,hy,hm,Pv,Qq,List.length_nil,List.nil_append,Nat.zero_add,true_and,and_true,Prod.mk.injEq,eq_iff_iff,and_self]
  rw [Nat.zero_add] at hb hb2
  exact ⟨fun q=>q.2.2,fun q=>⟨hb,hb2,q⟩⟩
 | row id ver =>
  obtain ⟨id',ver',e,hlt,hv⟩:∃ id' ver',VO.row id ver = .row id' ver'∧id'<rows.length∧EN rows id' ver'=some (sz,cs):=by
   rcases h.veach _ (List.mem_cons_self ..) with q | ⟨id,ver,q1,q2,q3⟩
   ·cases q.1
   ·refine ⟨id,ver,q1,(List.getElem?_eq_some_iff.1 q3).1,?_⟩
    simp only [EN,q3,if_true]
  cases e
  have a:cs.take (n*sz)=cs:=List.take_of_length_le (by omega)
  have b:=hb
  simp only [LF,Bh,he,hv,AM,B1,Cc,hs,hz,hy,Pv,Qq,a,Nat.le_of_eq hn.symm,true_and,and_true,Prod.mk.injEq,eq_iff_iff]
  exact ⟨fun q=>q.2.2,fun q=>⟨hb,hb2,q⟩⟩
theorem Owns.callV {rows':List RowA} {v':List VE} (h:Owns Rw rows l ho v) (hc:Owns rows rows' [] .none v'):Owns Rw rows' l ho (v'++v):=by
 have s:=h.len
 have t:=hc.len
 have keep:∀ i,i<rows.length→rows'[i]? = rows[i]? := fun i f=>hc.keep i f (fun q=>by cases q)
 have g:∀ x∈v,x.1.under rows.length:=h.underV
 have new:∀ x∈v',∀ id c,x.1 = .row id c→rows.length≤id:=fun x hx id c e=>by
  rcases hc.veach x hx with q | ⟨id',ver',q1,q2,q3⟩
  ·rw [q.1] at e;cases e
  ·rw [q1] at e;cases e;exact q2
 refine ⟨by omega,fun i f o=>?_,fun i r d q j=>?_,fun x hx=>?_,h.apart,fun x hx=>?_,List.pairwise_append.2 ⟨hc.vapart,h.vapart,fun x hx y n id a b e k=>?_⟩⟩
 ·rw [keep i (by omega)];exact h.keep i f o
 ·by_cases e:rows.length≤i
  ·exact hc.calm i r d (.inl e) fun x hx=>j x (List.mem_append_left _ hx)
  ·rw [keep i (by omega)] at d
   exact h.calm i r d q fun x hx=>j x (List.mem_append_right _ hx)
 ·rcases h.each x hx with q | ⟨id,q1,q2,q3⟩
  ·exact .inl q
  ·exact .inr ⟨id,q1,q2,by rw [keep id (List.getElem?_eq_some_iff.1 q3).1];exact q3⟩
 ·rcases List.mem_append.1 hx with hx | hx
  ·rcases hc.veach x hx with q | ⟨id,c,q1,q2,q3⟩
   ·exact .inl q
   ·exact .inr ⟨id,c,q1,by omega,q3⟩
  ·rcases h.veach x hx with q | ⟨id,c,q1,q2,q3⟩
   ·exact .inl q
   ·exact .inr ⟨id,c,q1,q2,by rw [keep id (List.getElem?_eq_some_iff.1 q3).1];exact q3⟩
 ·have p:=new x hx id a e
  have m:=g y n
  rw [k] at m
  exact absurd m (by simp only [VO.under];omega)
theorem Owns.dropV {x:VE} (h:Owns Rw rows l ho ((.nil,sz,cs)::v)):Owns Rw rows l ho v :=
 ⟨h.len,h.keep,fun i r c q b=>h.calm i r c q fun x hx=>by
  rcases List.mem_cons.1 hx with rfl | hx
  ·intro a k;cases k
  ·exact b x hx,h.each,h.apart,fun x hx=>h.veach x (List.mem_cons_of_mem _ hx),(List.pairwise_cons.1 h.vapart).2⟩
theorem Owns.deadV {id ver:Nat} (h:Owns Rw rows l ho ((.row id ver,sz,cs)::v)):Owns Rw (rows.set id (.dead (ver+1))) l ho v:=by
 obtain ⟨t,f,n,o,p,c,d⟩:=h
 obtain ⟨hid,hrow⟩:Rw.length≤id∧rows[id]? = some (.vec ver sz cs):=by
  rcases c _ (List.mem_cons_self ..) with q | ⟨id',ver',q1,q2,q3⟩
  ·cases q.1
  ·cases q1;exact ⟨q2,q3⟩
 have b:=(List.getElem?_eq_some_iff.1 hrow).1
 obtain ⟨u,s⟩:=List.pairwise_cons.1 d
 refine ⟨by simpa using t,fun i m g=>?_,fun i r hr q j=>?_,fun x hx=>(o x hx).set hrow _,p,fun x hx=>?_,s⟩
 ·rw [List.getElem?_set_ne (by omega)];exact f i m g
 ·by_cases e:id=i
  ·subst e
   rw [List.getElem?_set_self b] at hr
   cases hr;rfl
  ·rw [List.getElem?_set_ne e] at hr
   refine n i r hr q fun x hx=>?_
   rcases List.mem_cons.1 hx with rfl | hx
   ·intro a k;cases k;exact e rfl
   ·exact j x hx
 ·exact (c x (List.mem_cons_of_mem _ hx)).set (fun a k=>u x hx id ver a rfl k) _
end
section
variable {P:Program} {w0:World} {n:Nat} {e:Env} {st:St} {M0:Mem} {W0:World} {ro:Option Nat} {Q:AQ} {c:Code}
variable {Rw:List RowA} {lw:List (Nat × Nat × Own)} {oh:Own} {v:List VE} {o:VO} {sz m:Nat} {cs xs:List AV}
theorem Yy (l i:Nat) {bs:List AV} (hl:st.boxes[l]? = some bs) (hi:bs[i]? = some (LF o m)) (ho:Owns Rw st.rows lw oh ((o,sz,cs)::v)) (ag:Bool) (hag:ag=true∨sz=1) (hs:0<sz) (hn:cs.length=m*sz) (hx:Pi sz ag cs 0 m=xs)
  (h:∀ rows',Owns Rw rows' lw oh v→Gq P w0 n M0 W0 ro c Q e { st with boxes:=st.boxes.set l (bs.set i (.list xs .none)),rows:=rows' }):Gq P w0 n M0 W0 ro c Q e st:=by
 cases o with
 | nil =>
  have e0:=ho.nilZ hs hn rfl
  subst e0
  have ex:xs=[]:=by rw [←hx];rfl
  subst ex
  exact Sl l i hl hi rfl (h _ (ho.dropV (x:=(.nil,0,[]))))
 | row id ver =>
  rcases ho.veach _ (List.mem_cons_self ..) with q | ⟨id',ver',q1,q2,q3⟩
  ·cases q.1
  ·cases q1
   subst hx
   exact Ob l i ag hl hi (by simp only [EN,q3,if_true]) hag (by rw [Nat.zero_add];omega) (h _ ho.deadV)
end
theorem ZfD {α:Type} {f:α→AV} {g:α→List AV} (sz:Nat) (hf:∀ x,f x = .agg (g x)) (hg:∀ x,(g x).length=sz) (xs:List α):Pi sz true (xs.flatMap fun x=>(f x).cells) 0 xs.length=xs.map f:=by
 have b:(xs.flatMap fun x=>(f x).cells)=xs.flatMap g:=by
  congr 1;funext x;rw [hf];rfl
 rw [b]
 refine List.ext_getElem (by simp [Pi]) fun i c a=>?_
 simp only [List.length_map] at a
 simp only [Pi,List.getElem_map,List.getElem_range,Nat.zero_add,Pl,if_true]
 rw [Hu sz hg (List.getElem?_eq_getElem a),hf]
theorem Jv {α:Type} {f:α→AV} {sz:Nat} (hf:∀ x,(f x).cells.length=sz) (xs:List α):(xs.flatMap fun x=>(f x).cells).length=xs.length*sz:=by
 induction xs with
 | nil=>simp
 | cons x xs ih=>rw [List.flatMap_cons,List.length_append,ih,hf,List.length_cons,Nat.succ_mul,Nat.add_comm]
theorem Zc {α:Type} {f:α→AV} {sz:Nat} (hf:∀ x,(f x).cells.length=sz) {xs:List α} {i:Nat} {x:α} (h:xs[i]? = some x) :
  (∀ j,j<sz→XP (xs.flatMap fun x=>(f x).cells) (i*sz+j)=XP (f x).cells j)∧(∀ j k,j+k≤sz→((xs.flatMap fun x=>(f x).cells).drop (i*sz+j)).take k=((f x).cells.drop j).take k):=by
 have a:=Hu (f:=fun x=>(f x).cells) sz hf h
 have c:∀ j k,j+k≤sz→((xs.flatMap fun x=>(f x).cells).drop (i*sz+j)).take k=((f x).cells.drop j).take k:=fun j k d=>by
  rw [←a,List.drop_take,List.take_take,List.drop_drop,Nat.min_eq_left (by omega)]
 refine ⟨fun j e=>?_,c⟩
 have:=c j 1 (by omega)
 simp only [XP,List.getD_eq_getElem?_getD]
 have b:∀ (l:List AV) (q:Nat),l[q]? = ((l.drop q).take 1)[0]? := fun l q=>by simp [List.getElem?_take_of_lt,List.getElem?_drop]
 rw [b,b (f x).cells,this]
section
variable {P:Program} {w0:World} {f:FuncId} {st:St}
def finV (st:St) (Post:AV→St→Prop) (r:AV) (s:St):Prop :=
 st.boxes.length≤s.boxes.length∧st.rows.length≤s.rows.length∧st.loops.length≤s.loops.length∧Calm st.boxes.length s.rows.length st.loops.length (s.cut st.boxes.length s.rows.length st.loops.length) ∧
  Under st.boxes.length s.rows.length st.loops.length r∧Post r (s.cut st.boxes.length s.rows.length st.loops.length)
theorem ACalls.finV {args:List AV} {Post:AV→St→Prop} (h:ACalls P w0 f args st (finV st Post)):ACalls P w0 f args st Post:=by
 refine ⟨h.1,fun M w b a c=>(h.2 M w b a c).mono ?_⟩
 rintro en m ⟨v,M',r,d,g,⟨k,n,e,l,i,j⟩,h3,h4,h5⟩
 exact ⟨v,M'.cut st.boxes.length d.rows.length st.loops.length,r,_,g,j,h3.cut (by have:=a.N;omega) (by have:=a.NR;omega) (by have:=a.loop.NL;omega) (by rw [h4.loop.NL];exact e),h4.cut k (Nat.le_refl _) e l,h5.cut i⟩
theorem Zj2 {B B' X:List (List AV)} {R0 rows:List RowA} {L l:List LoopA} {Post:AV→St→Prop} {r:AV} {ow:List (Nat × Nat × Own)} {v:List VE} (ho:Owns R0 rows ow .none v) (hc:Calm B.length R0.length L.length ⟨B',R0,L⟩) (hB:B'.length=B.length) (hu:Under B.length rows.length L.length r)
  (hv:∀ x∈v,∀ y∈x.2.2,Under B.length rows.length L.length y) (hp:Post r ⟨B',rows,L⟩):Go.Ev.finV ⟨B,R0,L⟩ Post r ⟨B'++X,rows,L++l⟩:=by
 have e:St.cut ⟨B'++X,rows,L++l⟩ B.length rows.length L.length=⟨B',rows,L⟩:=by simp [St.cut,←hB]
 have d:=ho.len
 refine ⟨by simp [hB],d,by simp,?_,hu,by simp only [e];exact hp⟩
 simp only [e]
 exact ⟨ho.rowsCalm (Nat.le_refl _) hc.rows hv,fun cs a x b=>CP (Nat.le_refl _) d (Nat.le_refl _) (hc.boxes cs a x b),fun f a k x b c=>CP (Nat.le_refl _) d (Nat.le_refl _) (hc.loops f a k x b c)⟩
theorem ZhK {B B' X:List (List AV)} {R0 rows:List RowA} {L:List LoopA} {Post:AV→St→Prop} {r:AV} {ow:List (Nat × Nat × Own)} {v:List VE} (ho:Owns R0 rows ow .none v) (hc:Calm B.length R0.length L.length ⟨B',R0,L⟩) (hB:B'.length=B.length) (hu:Under B.length rows.length L.length r)
  (hv:∀ x∈v,∀ y∈x.2.2,Under B.length rows.length L.length y) (hp:Post r ⟨B',rows,L⟩):Go.Ev.finV ⟨B,R0,L⟩ Post r ⟨B'++X,rows,L⟩:=by
 have:=Zj2 (X:=X) (l:=[]) ho hc hB hu hv hp
 rwa [List.append_nil] at this
end
abbrev VP (Rw:List RowA) (o:VO) (sz:Nat) (cs:List AV):Prop:=VAt 0 Rw (o,sz,cs)
theorem Owns.vp {Rw rows:List RowA} {l:List (Nat × Nat × Own)} {ho:Own} {v:List VE} {o:VO} {sz:Nat} {cs:List AV} (h:Owns Rw rows l ho ((o,sz,cs)::v)):VP rows o sz cs:=by
 rcases h.veach _ (List.mem_cons_self ..) with q | ⟨id,ver,q1,q2,q3⟩
 ·exact .inl q
 ·exact .inr ⟨id,ver,q1,Nat.zero_le _,q3⟩
theorem VP.up {Rw rows:List RowA} {o:VO} {sz:Nat} {cs:List AV} {l:List (Nat × Nat × Own)} {v:List VE} (h:VP Rw o sz cs) (ho:Owns Rw rows l .none v):VP rows o sz cs:=by
 rcases h with q | ⟨id,ver,q1,q2,q3⟩
 ·exact .inl q
 ·refine .inr ⟨id,ver,q1,q2,?_⟩
  rw [ho.keep id (List.getElem?_eq_some_iff.1 q3).1 (fun e=>by cases e)]
  exact q3
theorem VP.row {rows:List RowA} {o:VO} {sz:Nat} {cs:List AV} (h:VP rows o sz cs) (hne:0<cs.length):∃ id ver,o = .row id ver∧id<rows.length∧EN rows id ver=some (sz,cs):=by
 rcases h with q | ⟨id,ver,q1,a,q3⟩
 ·have a:cs=[]:=q.2
  rw [a] at hne;simp at hne
 ·refine ⟨id,ver,q1,(List.getElem?_eq_some_iff.1 q3).1,?_⟩
  simp only [EN,q3,if_true]
theorem VP.lenV {rows:List RowA} {o:VO} {sz:Nat} {cs:List AV} (h:VP rows o sz cs) (hs:0<sz) {n:Nat} (hn:cs.length=n*sz) (P:Program) (t:TypeId):R9 P t (LF o n)=((JR P t).isSome=true,.val (.int .i64 n)):=by
 cases o with
 | nil =>
  rcases h with q | ⟨id,ver,q1,a,q3⟩
  ·have a:cs=[]:=q.2
   rw [a] at hn
   rcases Nat.eq_zero_or_pos n with w | w
   ·rw [w];rfl
   ·have:=Nat.mul_pos w hs
    simp at hn;omega
  ·cases q1
 | row id ver=>rfl
theorem VP.under {rows:List RowA} {o:VO} {sz:Nat} {cs:List AV} (h:VP rows o sz cs):o.under rows.length:=VAt.lt h
end Go.Ev
namespace Go.Ev
open Go Go.RowKit Go.Shelf Go.Lib Go.Proofs
structure InsLay (P:Program) (ρ:Ren) (nm:String) (sz bytes:Nat) (z:Value):Prop where
 mixed:P.follows .mixedOrders=true
 nmo:nm ≠ "runtime.NumGoroutine"
 f22:P.funcs[ρ.f 22]? = some { Body2.n22 ρ with name:=nm }
 ov:∀ (w:World) (x y:Value),(Extern.SlicesOverlaps.overlaps #[ρ.t 24,ρ.t 24] #[ρ.t 4] #[x,y]).run P w = .ok (.bool false) w→(callFunc (ρ.f 29) #[x,y]).run P w = .ok (.value (.bool false)) w
 t0:P.underlying (ρ.t 0)=some (TypeDesc.tuple #[])
 a0:∀ w,(isAgg (ρ.t 0)).run P w = .ok false w
 z0:∀ w,(Go.sizeOf (ρ.t 0)).run P w = .ok 1 w
 v0:∀ w,(zeroValue (ρ.t 0)).run P w = .ok (Value.tuple #[]) w
 t3:P.underlying (ρ.t 3)=some (TypeDesc.int IntKind.i64)
 a3:∀ w,(isAgg (ρ.t 3)).run P w = .ok false w
 z3:∀ w,(Go.sizeOf (ρ.t 3)).run P w = .ok 1 w
 v3:∀ w,(zeroValue (ρ.t 3)).run P w = .ok (Value.int IntKind.i64 0) w
 t4:P.underlying (ρ.t 4)=some (TypeDesc.bool)
 a4:∀ w,(isAgg (ρ.t 4)).run P w = .ok false w
 z4:∀ w,(Go.sizeOf (ρ.t 4)).run P w = .ok 1 w
 v4:∀ w,(zeroValue (ρ.t 4)).run P w = .ok (Value.bool false) w
 z9:∀ w,(Go.sizeOf (ρ.t 9)).run P w = .ok sz w
 t24:P.underlying (ρ.t 24)=some (TypeDesc.slice (ρ.t 9))
 a24:∀ w,(isAgg (ρ.t 24)).run P w = .ok false w
 z24:∀ w,(Go.sizeOf (ρ.t 24)).run P w = .ok 1 w
 v24:∀ w,(zeroValue (ρ.t 24)).run P w = .ok (Value.slice none 0 0) w
 i9:(P.info? (ρ.t 9)).map (fun i=>(i.zero,i.size,i.bytes))=some (some z,sz,bytes)
theorem Ry {P:Program} (w:World) (tS tR e:TypeId) (ht:P.underlying tS=some (.slice e)) (size:Nat) (hz:∀ w,(Go.sizeOf e).run P w = .ok size w)
  (a b:Addr) (la ca lb cb:Nat) (hne:a.block≠b.block) (tA tB:TypeId) (kA kB:Nat)
  (hsa:w.shape? a.block=some (tA,kA)) (hsb:w.shape? b.block=some (tB,kB)) (hkA:kA≠0) (hkB:kB≠0)
  (hfb:∀ j,w.frozen? { block:=b.block,off:=j }=false) (hb:b.spot=none) :
  (Extern.SlicesOverlaps.overlaps #[tS,tS] #[tR] #[.slice (some a) la ca,.slice (some b) lb cb]).run P w = .ok (.bool false) w:=by
 have d:(a.block != b.block)=true:=by simpa using hne
 have c:(a.block == b.block)=false:=by simpa using hne
 have g:w.frozen? b=false:=by
  obtain ⟨h,f,i⟩:=b
  cases hb
  exact hfb f
 change Sem.run P (α:=Value) (do
  let some t:=(#[tS,tS]:Array TypeId)[0]? | stuck "slices.overlaps: no parameter types"
  let .slice elem ← underlying t | stuck "slices.overlaps: slice type expected"
  let size ← sizeOf elem
  match (some a:Option Addr),(some b:Option Addr) with
  | some a,some b =>
   if la=0∨lb=0∨size=0 then pure (Value.bool false)
   else if a.block != b.block&&(← frozen a)&&(← frozen b) then unsupported .addressObserved
   else do
    if a.block != b.block then do
     noView a;noView b
     if ← mayBeOne a b then return Value.bool ((← choose (.extern "sameAddr.stringBytes" 2)) == 1)
    pure (Value.bool (a.block == b.block&&a.off<b.off+lb*size&&b.off<a.off+la*size))
  | _,_=>pure (Value.bool false)) w=_
 by_cases h0:la=0∨lb=0∨size=0
 ·simp [run_underlying ht,hz,h0]
 ·cases kB with
  | zero=>exact absurd rfl hkB
  | succ kB =>
  cases kA with
  | zero=>exact absurd rfl hkA
  | succ kA =>
   cases hfa:w.frozen? a<;>cases hfe:w.frozen? { block:=a.block,off:=kA+1 } <;>
    simp [run_underlying ht,hz,h0,d,c,frozen,noView,viewAt,mayBeOne,stringish,shape,Sem.run,hsa,hsb,hfa,hfe,g,hfb]
section
variable {P:Program} {ρ:Ren} {nm:String} {sz bytes:Nat} {z:Value}
theorem Le (w:World) (dT sT ty elem:TypeId) (b o dLen dCap:Nat) (a:Addr) (sLen sCap:Nat) (cs:List Value)
  (hu:P.underlying dT=some (.slice elem)) (hs:(P.info? elem).map (·.size)=some sz) (hn:cs.length=Nat.min sLen dLen*sz)
  (hsrc:∀ j v,cs[j]? = some v→w.cell? (a.add j)=some v) (hc:∀ j,j<cs.length→(w.cell? ⟨b,o+j,none⟩).isSome=true) (hf:∀ j,j<cs.length→w.frozen? ⟨b,o+j,none⟩=false) (h1:∀ v∈cs,v.oneCell'=true) :
  (Builtin.copy_ #[dT,sT] ty #[.slice (some ⟨b,o,none⟩) dLen dCap,.slice (some a) sLen sCap]).run P w = .ok (goInt (Nat.min sLen dLen)) (w.setCells b o cs):=by
 have d:=run_loadCells_list (P:=P) w a cs hsrc
 have c:=run_storeCells_cells (P:=P) b o cs 0 w (by simpa using hc) (by simpa using hf) h1
 rw [Nat.add_zero] at c
 rw [hn] at d
 cases hq:P.info? elem with
 | none=>simp [hq] at hs
 | some i =>
  have e:i.size=sz:=by simpa [hq] using hs
  simp [Builtin.copy_,run_underlying hu,Builtin.lenOf,Builtin.firstCells,sizeOf,typeInfo,hq,e,d,c]
theorem ZbR (L:InsLay P ρ nm sz bytes z) (b off n c i vb voff m vc:Nat) (cs vs:List Value) (w:World) (hi:i<n) (hm:0<m) (hroom:n+m≤c) (hc63:c≤9223372036854775807) (hvb:vb≠b)
  (hcl:cs.length=n*sz) (hvl:vs.length=m*sz)
  (hcs:∀ j v,cs[j]? = some v→w.cell? ⟨b,off+j,none⟩=some v) (hsp:∀ j,j<n*sz+m*sz→(w.cell? ⟨b,off+j,none⟩).isSome=true) (hfz:∀ j,j<n*sz+m*sz→w.frozen? ⟨b,off+j,none⟩=false)
  (hvs:∀ j v,vs[j]? = some v→w.cell? ⟨vb,voff+j,none⟩=some v) (h1c:∀ v∈cs,v.oneCell'=true) (h1v:∀ v∈vs,v.oneCell'=true)
  (tA tB:TypeId) (kA kB:Nat) (hsa:w.shape? vb=some (tA,kA)) (hsb:w.shape? b=some (tB,kB)) (hkA:kA≠0) (hkB:kB≠0) (hfb:∀ j,w.frozen? ⟨b,j,none⟩=false) :
  Calls P (ρ.f 22) #[.slice (some ⟨b,off,none⟩) n c,.int .i64 i,.slice (some ⟨vb,voff,none⟩) m vc] w fun e w' =>
   e = .returned (.slice (some ⟨b,off,none⟩) (n+m) c)∧w'=(w.drew.setCells b (off+(i*sz+m*sz)) (cs.drop (i*sz))).setCells b (off+i*sz) vs:=by
 have t0:=L.t0;have a0:=L.a0;have z0:=L.z0;have v0:=L.v0;have t3:=L.t3;have a3:=L.a3;have z3:=L.z3;have v3:=L.v3;have t4:=L.t4;have a4:=L.a4;have z4:=L.z4;have v4:=L.v4;have z9:=L.z9;have U:=L.t24;have af:=L.a24;have aa:=L.z24;have Z:=L.v24
 have u0:=run_underlying L.t0;have u3:=run_underlying L.t3;have u4:=run_underlying L.t4;have Y:=run_underlying L.t24
 have ah:¬ ((m:Int)=0):=by omega
 have ab:¬ ((i:Int)=(n:Int)):=by omega
 have s:(P.info? (ρ.t 9)).map (·.size)=some sz:=by
  obtain ⟨i0,J,h0,N,h2⟩:=info_parts L.i9
  rw [J];simp [N]
 have E:=L.mixed
 have V:IntKind.i64.wrap ((i:Int)+(m:Int))=(i:Int)+(m:Int):=by rw [IntKind.wrap_i64];omega
 have ae:(0:Int)≤(i:Int)+(m:Int):=by omega
 have F:i≤n:=by omega
 have O:((i:Int)+(m:Int)).toNat=i+m:=by omega
 have Q:¬ (c=i+m):=by omega
 have ai:(i:Int)≤(n:Int)+(m:Int):=by omega
 have ag:¬ (c=i):=by omega
 have aj:(i+m)*sz=i*sz+m*sz:=Nat.add_mul ..
 have ad:i*sz≤n*sz:=Nat.mul_le_mul_right _ F
 have u:(n-i)*sz=n*sz-i*sz:=Nat.sub_mul ..
 have D:∀ G C,(callFunc (ρ.f 29) #[.slice (some ⟨vb,voff,none⟩) m vc,.slice (some ⟨b,off+(i*sz+m*sz),none⟩) G C]).run P w = .ok (.value (.bool false)) w:=fun G C =>
  L.ov _ _ _ (Ry w (ρ.t 24) (ρ.t 4) (ρ.t 9) L.t24 sz L.z9 ⟨vb,voff,none⟩ ⟨b,off+(i*sz+m*sz),none⟩ m vc G C hvb tA tB kA kB hsa hsb hkA hkB hfb rfl)
 have K:(cs.drop (i*sz)).length=n*sz-i*sz:=by rw [List.length_drop,hcl]
 have d:∀ l o H,(Builtin.copy_ #[(ρ.t 24),(ρ.t 24)] l #[.slice (some ⟨b,off+(i*sz+m*sz),none⟩) (n+m-(i+m)) o,.slice (some ⟨b,off+i*sz,none⟩) (n+m-i) H]).run P w.drew = .ok (goInt ((n-i:Nat):Int)) (w.drew.setCells b (off+(i*sz+m*sz)) (cs.drop (i*sz))):=fun l o H=>by
  have a:Nat.min (n+m-i) (n+m-(i+m))=n-i:=by simp only [Nat.min_def];split<;>omega
  have:=Le (P:=P) w.drew (ρ.t 24) (ρ.t 24) l (ρ.t 9) b (off+(i*sz+m*sz)) (n+m-(i+m)) o ⟨b,off+i*sz,none⟩ (n+m-i) H (cs.drop (i*sz)) L.t24 s (by rw [K,a,u])
   (fun j v g=>by rw [Addr.add_lit,Nat.add_assoc];exact hcs (i*sz+j) v (by rwa [List.getElem?_drop] at g))
   (fun j g=>by rw [Nat.add_assoc];exact hsp _ (by omega)) (fun j g=>by rw [Nat.add_assoc];exact hfz _ (by omega)) (fun v hv=>h1c v (List.mem_of_mem_drop hv))
  rwa [a] at this
 obtain ⟨W1,hW1⟩:∃ W1,W1=w.drew.setCells b (off+(i*sz+m*sz)) (cs.drop (i*sz)):=⟨_,rfl⟩
 have q:∀ k,k<n*sz+m*sz→(W1.cell? ⟨b,off+k,none⟩).isSome=true:=fun k hk=>by
  rw [hW1]
  exact isSome_setCells b _ _ _ (fun j g=>by rw [Nat.add_assoc];exact hsp _ (by omega)) _ (hsp k hk)
 have p:∀ (W:World),(∀ x,W.cell? x=W1.cell? x)→(∀ x,W.frozen? x=W1.frozen? x)→∀ l o,(Builtin.copy_ #[(ρ.t 24),(ρ.t 24)] l #[.slice (some ⟨b,off+i*sz,none⟩) (n+m-i) o,.slice (some ⟨vb,voff,none⟩) m vc]).run P W = .ok (goInt m) (W.setCells b (off+i*sz) vs):=fun W r y l o=>by
  have a:Nat.min m (n+m-i)=m:=by simp only [Nat.min_def];split<;>omega
  have:=Le (P:=P) W (ρ.t 24) (ρ.t 24) l (ρ.t 9) b (off+i*sz) (n+m-i) o ⟨vb,voff,none⟩ m vc vs L.t24 s (by rw [hvl,a])
   (fun j v g=>by
    rw [Addr.add_lit,r,hW1,World.cell?_setCells_out b _ _ _ _ (fun h _=>absurd h hvb)]
    exact hvs j v g)
   (fun j g=>by rw [r,Nat.add_assoc];exact q _ (by omega)) (fun j g=>by rw [y,hW1,World.frozen?_setCells,Nat.add_assoc];exact hfz _ (by omega)) h1v
  rwa [a] at this
 rw [←hW1] at d
 have FG:=L.f22
 go_enter FG,Body2.n22_ntmps ρ
 go_wp2_with (simp only [D])
 go_region_law_o (refine step_copy_runI rfl _ _ (ρ.t 24) (ρ.t 24) rfl _ _ (by simp [Act.eval,Act.put]) (by simp [Act.eval,Act.put]) (d _ _ _) ?_)
 go_wp2_with (at_builtin;refine wpList_copy_runI _ rfl _ _ (ρ.t 24) (ρ.t 24) rfl _ _ rfl rfl (p _ (fun _=>rfl) (fun _=>rfl) _ _) ?_)
 go_ret
 first | exact ⟨rfl,rfl⟩ | exact ⟨rfl,by rw [hW1]⟩
theorem ZdB (L:InsLay P ρ nm sz bytes z) (hzc:z.cells.size=sz) (h0:0<sz) (b off n c i vb voff m vc:Nat) (cs vs:List Value) (w:World) (hi:i<n) (hm:0<m) (hnc:n≤c) (hroom:c<n+m) (hbig:(n+m)*bytes≤140737488355328) (hbig2:n+m≤4611686018427387904)
  (hcl:cs.length=n*sz) (hvl:vs.length=m*sz)
  (hcs:∀ j v,cs[j]? = some v→w.cell? ⟨b,off+j,none⟩=some v)
  (hvs:∀ j v,vs[j]? = some v→w.cell? ⟨vb,voff+j,none⟩=some v) (h1c:∀ v∈cs,v.oneCell'=true) (h1v:∀ v∈vs,v.oneCell'=true) :
  Calls P (ρ.f 22) #[.slice (some ⟨b,off,none⟩) n c,.int .i64 i,.slice (some ⟨vb,voff,none⟩) m vc] w fun e w' =>
   e = .returned (.slice (some ⟨w.heap.size,0,none⟩) (n+m) (grownCap w (n+m) c (ρ.t 9))) ∧
   w'=(((w.alloc (.cells ((cs.take (i*sz)).toArray++Builtin.zeroCells z.cells (n+m-i)++Builtin.zeroCells z.cells (grownCap w (n+m) c (ρ.t 9)-(n+m))) (ρ.t 9))).drew.setCells w.heap.size (i*sz) vs).drew).setCells w.heap.size (i*sz+m*sz) (cs.drop (i*sz)):=by
 have t0:=L.t0;have a0:=L.a0;have z0:=L.z0;have v0:=L.v0;have t3:=L.t3;have a3:=L.a3;have z3:=L.z3;have v3:=L.v3;have t4:=L.t4;have a4:=L.a4;have z4:=L.z4;have v4:=L.v4;have z9:=L.z9;have ar:=L.t24;have a5:=L.a24;have ay:=L.z24;have aw:=L.v24
 have u0:=run_underlying L.t0;have u3:=run_underlying L.t3;have u4:=run_underlying L.t4;have av:=run_underlying L.t24
 have Z:=L.mixed
 obtain ⟨N,J,Q,E,u⟩:=info_parts L.i9
 have ba:¬ ((m:Int)=0):=by omega
 have az:¬ ((i:Int)=(n:Int)):=by omega
 have ax:(c:Int)<(n:Int)+(m:Int):=by omega
 have H:(P.info? (ρ.t 9)).map (·.size)=some sz:=by rw [J];simp [E]
 have F:(i+m)*sz=i*sz+m*sz:=Nat.add_mul ..
 have a1:i*sz≤n*sz:=Nat.mul_le_mul_right _ (by omega)
 have ak:0<m*sz:=Nat.mul_pos hm h0
 have K:(n-i)*sz=n*sz-i*sz:=Nat.sub_mul ..
 have O:(n+m)*sz=n*sz+m*sz:=Nat.add_mul ..
 have ao:0<n*sz:=Nat.mul_pos (by omega) h0
 have V:b<w.heap.size:=block_lt_of_cell (hcs 0 _ (List.getElem?_eq_getElem (by omega)))
 have ab:vb<w.heap.size:=block_lt_of_cell (hvs 0 _ (List.getElem?_eq_getElem (by omega)))
 have y:(n:Int)+(m:Int)-(i:Int)=((n+m-i:Nat):Int):=by omega
 have r:i+(n+m-i)=n+m:=by omega
 have o:(Builtin.firstCells N.size i (.slice (some ⟨b,off,none⟩) i c)).run P w.drew = .ok (cs.take (i*sz)).toArray w.drew:=by
  rw [E]
  exact run_firstCells_some w.drew sz i ⟨b,off,none⟩ i c (cs.take (i*sz)) (by rw [List.length_take];omega) (fun j v hj=>by
   rw [Addr.add_lit]
   rw [List.getElem?_take] at hj
   split at hj
   ·exact hcs j v hj
   ·cases hj)
 have p:n+m≤maxLen:=by unfold maxLen;omega
 have l:∀ g,(Builtin.append_ #[(ρ.t 24),(ρ.t 3)] g #[.slice (some ⟨b,off,none⟩) i c,.int .i64 ((n:Int)+(m:Int)-(i:Int))]).run P w =
   .ok (.slice (some ⟨w.heap.size,0,none⟩) (n+m) (grownCap w (n+m) c (ρ.t 9))) (w.drew.alloc (.cells ((cs.take (i*sz)).toArray++Builtin.zeroCells z.cells (n+m-i)++Builtin.zeroCells z.cells (grownCap w (n+m) c (ρ.t 9)-(n+m))) (ρ.t 9))):=fun g=>by
  have ah:(n+m-i)*N.bytes≤(n+m)*N.bytes:=Nat.mul_le_mul_right _ (by omega)
  have h:=Lib.run_append_grow_zeros w (ρ.t 24) (ρ.t 3) g (ρ.t 9) N _ .i64 .i64 L.t24 L.t3 J Q (some ⟨b,off,none⟩) i c (cs.take (i*sz)) o (n+m-i) (by omega) (by omega) (by omega) (by omega) (by rw [u] at ah ⊢; omega) (by rw [u,r];exact growslice_fits hroom hbig)
  rw [r] at h
  rw [y]
  exact h
 obtain ⟨G,hG⟩:∃ G,G=grownCap w (n+m) c (ρ.t 9):=⟨_,rfl⟩
 have a7:n+m≤G:=by rw [hG];exact grownCap_ge w _ _ _
 have am:G≤9223372036854775807:=by
  have:=grownCap_le_maxLen w (n+m) c (ρ.t 9) p
  rw [←hG] at this
  unfold maxLen at this
  omega
 obtain ⟨ROW,hROW⟩:∃ ROW:Array Value,ROW=(cs.take (i*sz)).toArray++Builtin.zeroCells z.cells (n+m-i)++Builtin.zeroCells z.cells (G-(n+m)):=⟨_,rfl⟩
 rw [←hG] at l ⊢
 rw [←hROW] at l ⊢
 have U:n*sz+m*sz≤ROW.size:=by
  have e1:(n+m-i)*sz=n*sz+m*sz-i*sz:=by rw [Nat.sub_mul,O]
  rw [hROW]
  simp only [Array.size_append,List.size_toArray,List.length_take,size_zeroCells,hzc]
  omega
 obtain ⟨W1,hW1⟩:∃ W1,W1=w.drew.alloc (.cells ROW (ρ.t 9)):=⟨_,rfl⟩
 rw [←hW1] at l
 have hN:∀ j,j<n*sz+m*sz→(W1.cell? ⟨w.heap.size,j,none⟩).isSome=true:=fun j hj=>by
  rw [hW1,World.cell?_alloc_at (w:=w.drew) ROW _ w.heap.size j rfl,Array.getElem?_eq_getElem (by omega)];rfl
 have D:∀ j,W1.frozen? ⟨w.heap.size,j,none⟩=false:=fun j=>by rw [hW1];exact World.frozen?_alloc_at (w:=w.drew) ROW _ w.heap.size j rfl
 have ai:∀ j v,w.cell? ⟨b,j,none⟩=some v→W1.cell? ⟨b,j,none⟩=some v:=fun j v h=>by rw [hW1,World.cell?_alloc_past (w:=w.drew) _ b j V];exact h
 have af:∀ j v,w.cell? ⟨vb,j,none⟩=some v→W1.cell? ⟨vb,j,none⟩=some v:=fun j v h=>by rw [hW1,World.cell?_alloc_past (w:=w.drew) _ vb j ab];exact h
 have C:∀ (W:World),(∀ x,W.cell? x=W1.cell? x)→(∀ x,W.frozen? x=W1.frozen? x)→∀ g s,(Builtin.copy_ #[(ρ.t 24),(ρ.t 24)] g #[.slice (some ⟨w.heap.size,i*sz,none⟩) (n+m-i) s,.slice (some ⟨vb,voff,none⟩) m vc]).run P W = .ok (goInt m) (W.setCells w.heap.size (i*sz) vs):=fun W k q g s=>by
  have a:Nat.min m (n+m-i)=m:=by simp only [Nat.min_def];split<;>omega
  have:=Le (P:=P) W (ρ.t 24) (ρ.t 24) g (ρ.t 9) w.heap.size (i*sz) (n+m-i) s ⟨vb,voff,none⟩ m vc vs L.t24 H (by rw [hvl,a])
   (fun j v hj=>by rw [Addr.add_lit,k];exact af _ v (hvs j v hj))
   (fun j hj=>by rw [k];exact hN _ (by omega)) (fun j hj=>by rw [q];exact D _) h1v
  rwa [a] at this
 have a8:¬ (G=i):=by omega
 have ap:¬ (G=i+m):=by omega
 have a9:¬ (c=i):=by omega
 have ad:b≠w.heap.size:=by omega
 have aj:(cs.drop (i*sz)).length=n*sz-i*sz:=by rw [List.length_drop,hcl]
 have d:∀ (W:World),(∀ x,W.cell? x=(W1.setCells w.heap.size (i*sz) vs).cell? x)→(∀ x,W.frozen? x=(W1.setCells w.heap.size (i*sz) vs).frozen? x)→∀ g s sc,(Builtin.copy_ #[(ρ.t 24),(ρ.t 24)] g #[.slice (some ⟨w.heap.size,i*sz+m*sz,none⟩) (n+m-(i+m)) s,.slice (some ⟨b,off+i*sz,none⟩) (n-i) sc]).run P W = .ok (goInt ((n-i:Nat):Int)) (W.setCells w.heap.size (i*sz+m*sz) (cs.drop (i*sz))):=fun W k q g s sc=>by
  have a:Nat.min (n-i) (n+m-(i+m))=n-i:=by simp only [Nat.min_def];split<;>omega
  have:=Le (P:=P) W (ρ.t 24) (ρ.t 24) g (ρ.t 9) w.heap.size (i*sz+m*sz) (n+m-(i+m)) s ⟨b,off+i*sz,none⟩ (n-i) sc (cs.drop (i*sz)) L.t24 H (by rw [aj,a,K])
   (fun j v hj=>by
    rw [Addr.add_lit,k,World.cell?_setCells_out _ _ _ _ _ (fun h _=>absurd h ad),Nat.add_assoc]
    exact ai _ v (hcs (i*sz+j) v (by rwa [List.getElem?_drop] at hj)))
   (fun j hj=>by rw [k];exact isSome_setCells _ _ _ _ (fun t ht=>hN _ (by omega)) _ (hN _ (by omega)))
   (fun j hj=>by rw [q,World.frozen?_setCells];exact D _) (fun v hv=>h1c v (List.mem_of_mem_drop hv))
  rwa [a] at this
 subst hW1
 have Y:∀ x,((w.alloc (.cells ROW (ρ.t 9))).drew).cell? x=(w.drew.alloc (.cells ROW (ρ.t 9))).cell? x:=fun x=>rfl
 have ae:∀ x,((w.alloc (.cells ROW (ρ.t 9))).drew).frozen? x=(w.drew.alloc (.cells ROW (ρ.t 9))).frozen? x:=fun x=>rfl
 have aa:∀ x,(((w.alloc (.cells ROW (ρ.t 9))).drew.setCells w.heap.size (i*sz) vs).drew).cell? x=((w.drew.alloc (.cells ROW (ρ.t 9))).setCells w.heap.size (i*sz) vs).cell? x:=fun x=>rfl
 have ag:∀ x,(((w.alloc (.cells ROW (ρ.t 9))).drew.setCells w.heap.size (i*sz) vs).drew).frozen? x=((w.drew.alloc (.cells ROW (ρ.t 9))).setCells w.heap.size (i*sz) vs).frozen? x:=fun x=>rfl
 have au:IntKind.i64.wrap ((i:Int)+(m:Int))=(i:Int)+(m:Int):=by rw [IntKind.wrap_i64];omega
 have a2:(0:Int)≤(i:Int)+(m:Int):=by omega
 have a6:i≤n:=by omega
 have aq:((i:Int)+(m:Int)).toNat=i+m:=by omega
 have bb:(i:Int)≤(n:Int):=by omega
 clear y r o hROW hG U
 have FG:=L.f22
 rw [←F] at d ⊢
 go_enter FG,Body2.n22_ntmps ρ
 go_wp2_with (first
  | (at_builtin;refine Lib.wpList_append_run _ rfl _ _ _ _ rfl _ _ rfl rfl _ _ (l _) ?_)
  | (at_builtin;refine wpList_copy_runI _ rfl _ _ (ρ.t 24) (ρ.t 24) rfl _ _ rfl rfl (C _ Y ae _ _) ?_)
  | (at_builtin;refine wpList_copy_runI _ rfl _ _ (ρ.t 24) (ρ.t 24) rfl _ _ rfl rfl (d _ (fun _=>rfl) (fun _=>rfl) _ _ _) ?_))
 go_region_law_o (refine step_copy_runI rfl _ _ (ρ.t 24) (ρ.t 24) rfl (.slice (some ⟨w.heap.size,(i+m)*sz,none⟩) (n+m-(i+m)) (G-(i+m))) (.slice (some ⟨b,off+i*sz,none⟩) (n-i) (c-i)) (by simp [Act.eval,Act.put]) (by simp [Act.eval,Act.put]) (d _ aa ag (ρ.t 3) (G-(i+m)) (c-i)) ?_)
 go_wp2
 go_ret
 exact ⟨rfl,by rw [F]⟩
theorem Zft (L:InsLay P ρ nm sz bytes z) (base:Option Addr) (n c:Nat) (va:Addr) (m vc:Nat) (w w1:World) (r:Value) (hm:0<m) (hnc:n≤c) (hbase:base=none→n=0)
  (hrun:∀ ty,(Builtin.append_ #[(ρ.t 24),(ρ.t 24)] ty #[.slice base n c,.slice (some va) m vc]).run P w = .ok r w1) :
  Calls P (ρ.f 22) #[.slice base n c,.int .i64 n,.slice (some va) m vc] w fun e w'=>e = .returned r∧w'=w1:=by
 have s:=L.t0;have a0:=L.a0;have G:=L.z0;have u:=L.v0;have J:=L.t3;have a3:=L.a3;have D:=L.z3;have v:=L.v3;have C:=L.t4;have a4:=L.a4;have E:=L.z4;have x:=L.v4;have K:=L.z9;have d:=L.t24;have k:=L.a24;have i:=L.z24;have h:=L.v24
 have q:=run_underlying L.t0;have H:=run_underlying L.t3;have y:=run_underlying L.t4;have g:=run_underlying L.t24
 have b:=L.mixed
 have o:¬ ((m:Int)=0):=by omega
 have j:=L.f22
 go_enter j,Body2.n22_ntmps ρ
 cases base with
 | none =>
  have h0:=hbase rfl
  subst h0
  go_wp2_with (at_builtin;refine Lib.wpList_append_run _ rfl _ _ _ _ rfl _ _ rfl rfl _ _ (hrun _) ?_)
  go_ret
  exact ⟨rfl,rfl⟩
 | some a =>
  obtain ⟨p,F,l⟩:=a
  go_wp2_with (at_builtin;refine Lib.wpList_append_run _ rfl _ _ _ _ rfl _ _ rfl rfl _ _ (hrun _) ?_)
  all_goals (go_ret;exact ⟨rfl,rfl⟩)
end
theorem JV (P:Program) {w:World} {b:Nat} {cur:Array Value} {te:TypeId} (h:w.heap[b]? = some (.cells cur te (0,0))) (o:Nat) (vs:List Value) (hl:o+vs.length≤cur.size) (h1:∀ v∈vs,v.oneCell'=true) :
  w.setCells b o vs=w.setRow b (cur.toList.take o++vs++cur.toList.drop (o+vs.length)).toArray:=by
 have c:=run_storeCells_at P b o te vs 0 cur w h (by simpa using hl) h1
 have a:=run_storeCells_cells (P:=P) b o vs 0 w (fun j d=>by rw [cell_of_row w b _ cur te _ h,Array.getElem?_eq_getElem (by omega)];rfl) (fun j d=>by simp [World.frozen?,h]) h1
 simp only [Nat.add_zero] at c a
 rw [c] at a
 injection a with _ q
 exact q.symm
theorem XO (w:World) (c c':Array Value) (te:TypeId):(w.alloc (.cells c te)).setRow w.heap.size c'=w.alloc (.cells c' te):=by
 unfold World.setRow World.alloc
 congr 1
 apply Array.ext
 ·simp
 ·intro i d b
  simp only [Array.getElem_modify]
  split
  ·subst i;simp
  ·rename_i hne
   have a:i<w.heap.size:=by
    have:i<w.heap.size+1:=by simpa using b
    omega
   rw [Array.getElem_push_lt a,Array.getElem_push_lt a]
theorem Zc1 {α:Type} (A V:List α) (i n m:Nat) (hi:i≤n) (hA:n+m≤A.length) (hV:V.length=m) :
  (A.take (i+m)++(A.take n).drop i++A.drop (n+m)).take i++V++(A.take (i+m)++(A.take n).drop i++A.drop (n+m)).drop (i+m)=A.take i++V++(A.take n).drop i++A.drop (n+m):=by
 have e:(A.take (i+m)).length=i+m:=by rw [List.length_take];omega
 rw [List.append_assoc (A.take (i+m)),List.take_append_of_le_length (by omega),List.take_take,Nat.min_eq_left (by omega),List.drop_append_of_le_length (by omega),List.drop_of_length_le (by omega),List.nil_append]
 simp only [List.append_assoc]
section
variable {P:Program} {w0:World} {ρ:Ren} {nm:String} {sz bytes:Nat} {z:Value} {st:St} {M:Mem} {w:World}
theorem ZjT {A V rest:List Value} {cs Y:List AV} {i n m:Nat} (hi:i≤n) (hA:n≤A.length) (hc:cs.length=n) (hV:V.length=m) (hY:Y.length=m) (ha:∀ (j:Nat) (v:Value) (x:AV),A[j]? = some v→cs[j]? = some x→R w0 M w v x) (hv:∀ (j:Nat) (v:Value) (x:AV),V[j]? = some v→Y[j]? = some x→R w0 M w v x) :
  ∀ (j:Nat) (v:Value) (x:AV),(A.take i++V++(A.take n).drop i++rest)[j]? = some v→(cs.take i++Y++cs.drop i)[j]? = some x→R w0 M w v x:=by
 intro j v x a b
 have c:(A.take i).length=i:=by rw [List.length_take];omega
 have d:(cs.take i).length=i:=by rw [List.length_take];omega
 have f:((A.take n).drop i).length=n-i:=by rw [List.length_drop,List.length_take];omega
 simp only [List.append_assoc] at a b
 by_cases q:j<i
 ·rw [List.getElem?_append_left (by omega),List.getElem?_take,if_pos q] at a b
  exact ha j v x a b
 rw [List.getElem?_append_right (by omega),c] at a
 rw [List.getElem?_append_right (by omega),d] at b
 by_cases q2:j-i<m
 ·rw [List.getElem?_append_left (by omega)] at a b
  exact hv _ v x a b
 rw [List.getElem?_append_right (by omega),hV] at a
 rw [List.getElem?_append_right (by omega),hY,List.getElem?_drop] at b
 have e:=(List.getElem?_eq_some_iff.1 b).1
 rw [List.getElem?_append_left (by omega),List.getElem?_drop,List.getElem?_take,if_pos (by omega)] at a
 exact ha _ v x a b
theorem ZY (L:InsLay P ρ nm sz bytes z) (hzc:z.cells.size=sz) (h0:0<sz) {id ver n i:Nat} {cs ys:List AV} {ow:Own} (hrow:st.rows[id]? = some (.vec ver sz cs)) (hcs:cs.length=n*sz) (hi:i<n) (hm:0<ys.length)
  (hx:∀ y∈ys,y.cells.length=sz∧AY y=true) (hb:(n+ys.length)*bytes≤140737488355328) (hb2:n+ys.length≤4611686018427387904) {v0 vx:Value} (hst:RelSt w0 M st w) (hv0:R w0 M w v0 (.vec id ver 0 n)) (hvx:R w0 M w vx (.list ys ow)) :
  Calls P (ρ.f 22) #[v0,.int .i64 i,vx] w (Comes' w0 M w fun r s=>r = .vec id (ver+1) 0 (n+ys.length)∧s={ st with rows:=st.rows.set id (.vec (ver+1) sz (cs.take (i*sz)++ys.flatMap (fun y=>y.pub.cells)++cs.drop (i*sz))) }):=by
 have E:id<M.NR:=by rw [hst.NR];exact (List.getElem?_eq_some_iff.1 hrow).1
 obtain ⟨f1,f2,f3,f4,f5,f6,f7,cur,te,f8,f9,bi,ak,a0⟩:=hst.row id _ hrow
 cases hv0 with
 | @vec _ _ _ _ p cap hid' hver hh =>
 obtain ⟨rfl,hcap,ay⟩:=hh f1.symm
 simp only [Nat.add_zero,Nat.zero_mul] at hcap ⊢
 subst hcap
 have aj:∀ (b o c:Nat),vx = .slice (some ⟨b,o,none⟩) ys.length c→M.imm w0 b o:=by
  cases hvx with
  | nil _=>simp at hm
  | emp _=>simp at hm
  | @list b0 off0 cap0 _ _ sz2 us hc hm' d hu ho =>
   intro b o c e
   have e0:=(d 0 hm).1
   have e1:=(hu 0 hm).cells.1
   have e2:=(hx _ (List.getElem_mem hm)).1
   have:=((d 0 hm).2 0 (by omega)).1
   cases e
   simpa using this
 obtain ⟨ux,x1,x2⟩:=hvx.list_open (fun y O=>(hx y O).1)
 have a3:∀ i,i<ys.length→(ux i).cells.size=sz:=fun i hi=>(x1 i hi).1
 rcases x2 with ⟨_,q,_⟩ | ⟨bx,ox,cx',sz',rfl,hxc,hxm,_,hcx⟩
 ·subst q;simp at hm
 have az:M.imm w0 bx ox:=aj bx ox cx' rfl
 have Q:bx≠M.blk id:=by
  intro q
  rcases az with k | k
  ·rw [q] at k;omega
  ·rw [q,f4] at k;omega
 have ax:=Gz (w:=w) a3 h0 hcx
 have m:(flat ux ys.length).length=ys.length*sz:=AK a3
 have aq:(ys.flatMap fun y=>y.pub.cells).length=ys.length*sz:=MG (fun y O=>(hx y O).1)
 have ai:=XH (fun i hi=>(x1 i hi).2) (fun y O=>(hx y O).2)
 have U:∀ v∈flat ux ys.length,v.oneCell'=true:=Uu x1 (fun y O=>(hx y O).2)
 have ae:i*sz≤n*sz:=Nat.mul_le_mul_right _ (by omega)
 have af:n*sz≤cur.size:=by rw [f9];exact Nat.mul_le_mul_right _ ay
 have ba:0<ys.length*sz:=Nat.mul_pos hm h0
 have a9:0<n*sz:=Nat.mul_pos (by omega) h0
 have h:(cur.toList.take (n*sz)).length=n*sz:=by simp;omega
 have C:∀ v∈cur.toList.take (n*sz),v.oneCell'=true:=by
  intro v hv
  obtain ⟨k,hk,rfl⟩:=List.mem_iff_getElem.1 hv
  rw [h] at hk
  rw [List.getElem_take,Array.getElem_toList]
  exact (a0 k (by omega) (by omega)).oneCell (ak _ (List.getElem_mem _))
 have d:∀ j v,(cur.toList.take (n*sz))[j]? = some v→w.cell? ⟨M.blk id,0+j,none⟩=some v:=by
  intro j u hj
  rw [List.getElem?_take] at hj
  split at hj
  ·rw [Nat.zero_add,cell_of_row w _ j cur te _ f8,←Array.getElem?_toList];exact hj
  ·cases hj
 have am:∀ j v,(flat ux ys.length)[j]? = some v→w.cell? ⟨bx,ox+j,none⟩=some v:=fun j v hj=>by
  have:=ax j v hj
  rwa [ES] at this
 have aa:∀ x∈cs.take (i*sz)++ys.flatMap (fun y=>y.pub.cells)++cs.drop (i*sz),x.one=true:=by
  intro x hx
  rcases List.mem_append.1 hx with hx | hx
  ·rcases List.mem_append.1 hx with hx | hx
   ·exact ak x (List.mem_of_mem_take hx)
   ·exact ai x hx
  ·exact ak x (List.mem_of_mem_drop hx)
 have F:(n+ys.length)*sz=n*sz+ys.length*sz:=Nat.add_mul ..
 have av:(cs.take (i*sz)++ys.flatMap (fun y=>y.pub.cells)++cs.drop (i*sz)).length=(n+ys.length)*sz:=by
  rw [List.length_append,List.length_append,aq,List.length_take,List.length_drop,F];omega
 have D:∀ (cells:Array Value) (rest:List Value),cells.toList=cur.toList.take (i*sz)++flat ux ys.length++(cur.toList.take (n*sz)).drop (i*sz)++rest→∀ (k:Nat) (v:Value) (x:AV),cells[k]? = some v→(cs.take (i*sz)++ys.flatMap (fun y=>y.pub.cells)++cs.drop (i*sz))[k]? = some x→R w0 M w v x:=by
  intro cells rest au k v x a2 a6
  rw [←Array.getElem?_toList,au] at a2
  refine ZjT (A:=cur.toList) (rest:=rest) ae (by simpa using af) hcs m aq (fun j v x h1 h2=>?_) (fun j v x h1 h2=>ZeW h0 x1 (fun y O=>(hx y O).1) h1 h2) k v x a2 a6
  rw [Array.getElem?_toList] at h1
  obtain ⟨q1,rfl⟩:=Array.getElem?_eq_some_iff.1 h1
  obtain ⟨q2,rfl⟩:=List.getElem?_eq_some_iff.1 h2
  exact a0 j q1 q2
 obtain ⟨d1,d2⟩:=hst.drew
 by_cases hroom:n+ys.length≤M.cap id
 ·-- there is room
  have a4:n*sz+ys.length*sz≤cur.size:=by rw [f9,←F];exact Nat.mul_le_mul_right _ hroom
  have bd:∃ tA kA,w.shape? bx=some (tA,kA)∧kA≠0:=by
   have:=am 0 _ (List.getElem?_eq_getElem (by omega))
   unfold World.cell? at this
   unfold World.shape?
   cases hq:w.heap[bx]? with
   | none=>simp [hq] at this
   | some o =>
    cases o with
    | cells c t f =>
     refine ⟨_,_,rfl,fun q=>?_⟩
     simp [hq] at this
     have:=(Array.getElem?_eq_some_iff.1 this).1
     omega
    | _=>simp [hq] at this
  obtain ⟨tA,kA,bb,a8⟩:=bd
  refine (ZbR L (M.blk id) 0 n (M.cap id) i bx ox ys.length cx' (cur.toList.take (n*sz)) (flat ux ys.length) w hi hm hroom (by unfold maxLen at f6;omega) Q h m d
   (fun j hj=>by rw [Nat.zero_add,cell_of_row w _ j cur te _ f8,Array.getElem?_eq_getElem (by omega)];rfl) (fun j hj=>by simp [World.frozen?,f8]) am C U tA te kA cur.size bb (by simp [World.shape?,f8]) a8 (by omega) (fun j=>by simp [World.frozen?,f8])).mono ?_
  rintro en w' ⟨rfl,rfl⟩
  have G:w.drew.heap[M.blk id]? = some (.cells cur te (0,0)):=f8
  have H:((cur.toList.take (n*sz)).drop (i*sz)).length=n*sz-i*sz:=by rw [List.length_drop,h]
  rw [JV P G _ _ (by rw [H];omega) (fun v hv=>C v (List.mem_of_mem_drop hv))]
  have bc:=setRow_heap w.drew (M.blk id) cur (cur.toList.take (0+(i*sz+ys.length*sz))++(cur.toList.take (n*sz)).drop (i*sz)++cur.toList.drop (0+(i*sz+ys.length*sz)+((cur.toList.take (n*sz)).drop (i*sz)).length)).toArray te _ G
  rw [JV P bc _ _ (by simp only [List.size_toArray,List.length_append,List.length_take,List.length_drop,Array.length_toList];omega) U,setRow_setRow]
  have hL:=Zc1 cur.toList (flat ux ys.length) (i*sz) (n*sz) (ys.length*sz) ae (by simpa using a4) m
  have e1:0+(i*sz+ys.length*sz)+((cur.toList.take (n*sz)).drop (i*sz)).length=n*sz+ys.length*sz:=by rw [H];omega
  have e2:0+i*sz+(flat ux ys.length).length=i*sz+ys.length*sz:=by rw [m];omega
  rw [e2,e1]
  simp only [Nat.zero_add]
  rw [hL]
  generalize hc':(cur.toList.take (i*sz)++flat ux ys.length++(cur.toList.take (n*sz)).drop (i*sz)++cur.toList.drop (n*sz+ys.length*sz)).toArray=cur'
  have Z:cur'.size=cur.size:=by rw [←hc'];simp only [List.size_toArray,List.length_append,List.length_take,List.length_drop,Array.length_toList,m];omega
  have g:Ext w0 M w.drew (M.growRow id (M.blk id) (M.cap id) (ver+1) 0) (w.drew.setRow (M.blk id) cur'):=by
   refine Kv (M:=M) (M.growRow id (M.blk id) (M.cap id) (ver+1) 0) rfl (fun _ _=>rfl) rfl (fun i hi=>?_) (fun b=>?_) G f3 (fun j hj=>by rw [f4] at hj;omega)
   ·by_cases c:i=id
    ·subst c
     simp only [Mem.growRow,if_true,f1]
     exact ⟨by omega,fun q=>absurd q (by omega)⟩
    ·simp only [Mem.growRow,if_neg c]
     exact ⟨Nat.le_refl _,fun _=>⟨trivial,trivial,trivial⟩⟩
   ·simp only [Mem.growRow]
    split
    ·rename_i c
     rw [c,f4]
     exact Nat.le_refl _
    ·exact Nat.le_refl _
  have aw:=hst.row_lt E
  have q:(M.growRow id (M.blk id) (M.cap id) (ver+1) 0).fr id=ver+1∧(M.growRow id (M.blk id) (M.cap id) (ver+1) 0).blk id=M.blk id∧(M.growRow id (M.blk id) (M.cap id) (ver+1) 0).cap id=M.cap id∧(M.growRow id (M.blk id) (M.cap id) (ver+1) 0).rsz id=M.rsz id∧(M.growRow id (M.blk id) (M.cap id) (ver+1) 0).top (M.blk id)=0:=by simp [Mem.growRow]
  obtain ⟨q1,q2,q3,q4,q5⟩:=q
  have J:=d1.growRow' hrow (x := .vec (ver+1) sz (cs.take (i*sz)++ys.flatMap (fun y=>y.pub.cells)++cs.drop (i*sz))) (w':=w.drew.setRow (M.blk id) cur') (b:=M.blk id) (cap:=M.cap id) (k:=ver+1) (tp:=0) (Below.setRow (Below.refl _ _) f3 _) (by simp) (by simpa using aw)
   (fun l hl=>⟨f5 l hl,setRow_other w.drew _ _ _ (f5 l hl)⟩) (fun i hi Q=>by
    have:M.blk i≠M.blk id:=fun q=>Q (hst.rowinj i id hi E q)
    exact ⟨this,setRow_other w.drew _ _ _ this⟩) (by
    simp only [RowOk,q1,q2,q3,q4,q5]
    exact ⟨trivial,f2,f3,trivial,f5,f6,h0,cur',te,setRow_heap w.drew _ cur cur' te _ G,Z.trans f9,by rw [av,Z,f9];exact Nat.mul_le_mul_right _ hroom,aa,
     fun i a b=>((D cur' _ (by rw [←hc']) i _ _ (Array.getElem?_eq_getElem a) (List.getElem?_eq_getElem b)).mono d2).mono g⟩) g (KeepsObj.setRow G _)
  exact ⟨_,_,_,_,rfl,⟨rfl,rfl⟩,d2.trans g,J,.vec E (by rw [q1];exact Nat.le_refl _) fun _=>⟨by rw [q2];simp,by rw [q3];rfl,hroom⟩⟩
 ·-- a new block
  refine (ZdB L hzc h0 (M.blk id) 0 n (M.cap id) i bx ox ys.length cx' (cur.toList.take (n*sz)) (flat ux ys.length) w hi hm ay (by omega) hb hb2 h m d am C U).mono ?_
  rintro en w' ⟨rfl,rfl⟩
  have ag:n+ys.length≤maxLen:=by simp [maxLen];omega
  have ad:=grownCap_ge w (n+ys.length) (M.cap id) (ρ.t 9)
  have ar:=grownCap_le_maxLen w (n+ys.length) (M.cap id) (ρ.t 9) ag
  generalize grownCap w (n+ys.length) (M.cap id) (ρ.t 9)=gc at *
  generalize hROW:((cur.toList.take (n*sz)).take (i*sz)).toArray++Builtin.zeroCells z.cells (n+ys.length-i)++Builtin.zeroCells z.cells (gc-(n+ys.length))=ROW
  have a5:(n+ys.length-i)*sz=n*sz+ys.length*sz-i*sz:=by rw [Nat.sub_mul,F]
  have bj:(gc-(n+ys.length))*sz=gc*sz-(n*sz+ys.length*sz):=by rw [Nat.sub_mul,F]
  have bh:n*sz+ys.length*sz≤gc*sz:=by rw [←F];exact Nat.mul_le_mul_right _ ad
  have ao:ROW.size=gc*sz:=by
   rw [←hROW]
   simp only [Array.size_append,List.size_toArray,List.length_take,size_zeroCells,hzc,Array.length_toList]
   omega
  have H:((cur.toList.take (n*sz)).drop (i*sz)).length=n*sz-i*sz:=by rw [List.length_drop,h]
  have hX:(w.alloc (.cells ROW (ρ.t 9))).drew.heap[w.heap.size]? = some (.cells ROW (ρ.t 9) (0,0)):=heap_alloc_new w _
  rw [JV P hX _ _ (by rw [m,ao];omega) U]
  have hX1:=setRow_heap (w.alloc (.cells ROW (ρ.t 9))).drew w.heap.size ROW (ROW.toList.take (i*sz)++flat ux ys.length++ROW.toList.drop (i*sz+(flat ux ys.length).length)).toArray (ρ.t 9) _ hX
  generalize hc1:(ROW.toList.take (i*sz)++flat ux ys.length++ROW.toList.drop (i*sz+(flat ux ys.length).length)).toArray=c1 at hX1 ⊢
  have be:((w.alloc (.cells ROW (ρ.t 9))).drew.setRow w.heap.size c1).drew.heap[w.heap.size]? = some (.cells c1 (ρ.t 9) (0,0)):=hX1
  have Y:c1.size=gc*sz:=by
   rw [←hc1]
   simp only [List.size_toArray,List.length_append,List.length_take,List.length_drop,Array.length_toList,m,ao]
   omega
  rw [JV P be _ _ (by rw [H,Y];omega) (fun v hv=>C v (List.mem_of_mem_drop hv))]
  generalize hc2:(c1.toList.take (i*sz+ys.length*sz)++(cur.toList.take (n*sz)).drop (i*sz)++c1.toList.drop (i*sz+ys.length*sz+((cur.toList.take (n*sz)).drop (i*sz)).length)).toArray=cells
  have hW:(((w.alloc (.cells ROW (ρ.t 9))).drew.setRow w.heap.size c1).drew).setRow w.heap.size cells=w.drew.drew.alloc (.cells cells (ρ.t 9)):=by
   have a1:((w.alloc (.cells ROW (ρ.t 9))).drew.setRow w.heap.size c1).drew=(w.drew.drew.alloc (.cells ROW (ρ.t 9))).setRow w.heap.size c1:=rfl
   rw [a1,setRow_setRow]
   exact XO w.drew.drew ROW cells (ρ.t 9)
  rw [hW]
  have K:cells.size=gc*sz:=by
   rw [←hc2]
   simp only [List.size_toArray,List.length_append,List.length_take,List.length_drop,Array.length_toList,H,Y]
   omega
  have ah:(cur.toList.take (n*sz)).take (i*sz)=cur.toList.take (i*sz):=by rw [List.take_take,Nat.min_eq_left ae]
  have bg:(cur.toList.take (i*sz)).length=i*sz:=by simp;omega
  have a7:ROW.toList.take (i*sz)=cur.toList.take (i*sz):=by
   rw [←hROW,ah]
   simp only [Array.toList_append,List.append_assoc]
   rw [List.take_append_of_le_length (by omega),List.take_of_length_le (by omega)]
  have V:cells.toList=cur.toList.take (i*sz)++flat ux ys.length++(cur.toList.take (n*sz)).drop (i*sz)++c1.toList.drop (i*sz+ys.length*sz+((cur.toList.take (n*sz)).drop (i*sz)).length):=by
   have e:c1.toList.take (i*sz+ys.length*sz)=cur.toList.take (i*sz)++flat ux ys.length:=by
    rw [←hc1,a7]
    simp only [List.append_assoc]
    rw [←List.append_assoc,List.take_append_of_le_length (by rw [List.length_append,m];omega),List.take_of_length_le (by rw [List.length_append,m];omega)]
   rw [←hc2,←e]
  obtain ⟨bf,ap⟩:=d1.drew
  have g:Ext w0 M w.drew.drew (M.growRow id w.drew.drew.heap.size gc (ver+1) 0) (w.drew.drew.alloc (.cells cells (ρ.t 9))):=by
   refine O5 _ _ (.inl rfl) (fun _ _=>rfl) (Nat.le_refl _) (fun i hi=>?_) (fun b hb=>?_)
   ·by_cases c:i=id
    ·subst c
     simp only [Mem.growRow,if_true,f1]
     exact ⟨by omega,fun q=>absurd q (by omega)⟩
    ·simp only [Mem.growRow,if_neg c]
     exact ⟨Nat.le_refl _,fun _=>⟨trivial,trivial,trivial⟩⟩
   ·simp only [Mem.growRow]
    rw [if_neg (by omega)]
    exact Nat.le_refl _
  have q:(M.growRow id w.drew.drew.heap.size gc (ver+1) 0).fr id=ver+1∧(M.growRow id w.drew.drew.heap.size gc (ver+1) 0).blk id=w.drew.drew.heap.size∧(M.growRow id w.drew.drew.heap.size gc (ver+1) 0).cap id=gc∧(M.growRow id w.drew.drew.heap.size gc (ver+1) 0).rsz id=M.rsz id∧(M.growRow id w.drew.drew.heap.size gc (ver+1) 0).top w.drew.drew.heap.size=0:=by simp [Mem.growRow]
  obtain ⟨q1,q2,q3,q4,q5⟩:=q
  have ab:∀ l,l<M.N→M.bx l≠w.drew.drew.heap.size:=fun l hl=>by have:=hst.box_lt hl;intro q;simp at q;omega
  have J:=bf.growRow' hrow (x := .vec (ver+1) sz (cs.take (i*sz)++ys.flatMap (fun y=>y.pub.cells)++cs.drop (i*sz))) (w':=w.drew.drew.alloc (.cells cells (ρ.t 9))) (b:=w.drew.drew.heap.size) (cap:=gc) (k:=ver+1) (tp:=0) ((Below.refl _ w.drew.drew).alloc hst.base_le _) (by simp) (by simp)
   (fun l hl=>by have:=hst.box_lt hl;exact ⟨ab l hl,Br _ _ this⟩) (fun i hi Q=>by have:=hst.row_lt hi;exact ⟨fun q=>by simp at q;omega,Br _ _ this⟩) (by
    simp only [RowOk,q1,q2,q3,q4,q5]
    exact ⟨trivial,f2,hst.base_le,trivial,ab,ar,h0,cells,ρ.t 9,heap_alloc_new w.drew.drew _,K,by rw [av,K];exact Nat.mul_le_mul_right _ ad,aa,
     fun i a b=>(((D cells _ V i _ _ (Array.getElem?_eq_getElem a) (List.getElem?_eq_getElem b)).mono d2).mono ap).mono g⟩) g (KeepsObj.alloc _ _)
  exact ⟨_,_,_,_,rfl,⟨rfl,rfl⟩,(d2.trans ap).trans g,J,.vec E (by rw [q1];exact Nat.le_refl _) fun _=>⟨by rw [q2];simp,by rw [q3];rfl,ad⟩⟩
theorem YL {t el:TypeId} {ag:Bool} {o:VO} {n:Nat} {cs ys:List AV} {ow:Own} (he:JR P t=some (el,sz,ag,bytes)) (hz:(CM P el).isSome=true) (h0:0<sz) (hV:VAt 0 st.rows (o,sz,cs)) (hcs:cs.length=n*sz) (hm:0<ys.length)
  (hx:∀ y∈ys,y.cells.length=sz∧AY y=true) (hb:(n+ys.length)*bytes≤140737488355328) (hb2:n+ys.length≤4611686018427387904) :
  (Bh P st t (LF o n) (.list ys ow)).1∧(Bh P st t (LF o n) (.list ys ow)).2.1=LF (Pv o st.rows) (n+ys.length)∧(Bh P st t (LF o n) (.list ys ow)).2.2={ st with rows:=Qq o st.rows sz (cs++ys.flatMap fun y=>y.pub.cells) }:=by
 cases o with
 | nil =>
  rcases hV with ⟨_,q⟩ | ⟨id,ver,q,_⟩
  ·have q:cs=[]:=q
   subst q
   have en:n=0:=by
    rcases Nat.eq_zero_or_pos n with k | k
    ·exact k
    ·have:=Nat.mul_pos k h0
     simp at hcs;omega
   subst en
   rw [Nat.zero_add] at hb hb2
   simp only [LF,Bh,he,AM,B1,Cc,hz,Pv,Qq,List.length_nil,List.nil_append,Nat.zero_add,true_and,and_true]
   exact ⟨⟨h0,hb,hb2,hx⟩,hm⟩
  ·cases q
 | row id ver =>
  rcases hV with ⟨q,_⟩ | ⟨id',ver',q,_,a⟩
  ·cases q
  ·cases q
   have hv:EN st.rows id ver=some (sz,cs):=by
    have a:st.rows[id]? = some (.vec ver sz cs):=a
    simp only [EN,a,if_true]
   have b:cs.take (n*sz)=cs:=List.take_of_length_le (by omega)
   simp only [LF,Bh,he,hv,AM,B1,Cc,hz,Pv,Qq,b,Nat.le_of_eq hcs.symm,true_and,and_true]
   exact ⟨h0,hb,hb2,hx⟩
theorem ZS (L:InsLay P ρ nm sz bytes z) (hen:KG P (ρ.f 22)) {ag:Bool} (he:JR P (ρ.t 24)=some (ρ.t 9,sz,ag,bytes)) (hz:(CM P (ρ.t 9)).isSome=true) (hzc:z.cells.size=sz) (h0:0<sz) {o:VO} {n i:Nat} {cs ys:List AV} {ow:Own}
  (hV:VAt 0 st.rows (o,sz,cs)) (hcs:cs.length=n*sz) (hi:i≤n) (hm:0<ys.length)
  (hx:∀ y∈ys,y.cells.length=sz∧AY y=true) (hb:(n+ys.length)*bytes≤140737488355328) (hb2:n+ys.length≤4611686018427387904) :
  ACalls P w0 (ρ.f 22) [LF o n,.val (.int .i64 i),.list ys ow] st fun r s=>r=LF (Pv o st.rows) (n+ys.length)∧s={ st with rows:=Qq o st.rows sz (cs.take (i*sz)++ys.flatMap (fun y=>y.pub.cells)++cs.drop (i*sz)) }:=by
 refine ⟨hen,fun M w j m d=>?_⟩
 obtain ⟨v0,v1,vx,rfl⟩:∃ v0 v1 vx,j = #[v0,v1,vx]:=by
  have:=d.1
  simp only [List.length_cons,List.length_nil] at this
  obtain ⟨l⟩:=j
  match l,this with
  | [a,b,c],_=>exact ⟨a,b,c,rfl⟩
 have hv0:R w0 M w v0 (LF o n):=d.2 0 (by simp) (by simp)
 have E:R w0 M w v1 (.val (.int .i64 i)):=d.2 1 (by simp) (by simp)
 have hvx:R w0 M w vx (.list ys ow):=d.2 2 (by simp) (by simp)
 obtain ⟨rfl,_⟩:=E.val_inv
 by_cases hin:i<n
 ·-- in the middle
  cases o with
  | nil =>
   rcases hV with ⟨_,q⟩ | ⟨id,ver,q,_⟩
   ·have q:cs=[]:=q
    rw [q] at hcs
    have:=Nat.mul_pos (show 0<n by omega) h0
    simp at hcs;omega
   ·cases q
  | row id ver =>
   rcases hV with ⟨q,_⟩ | ⟨id',ver',q,_,q3⟩
   ·cases q
   ·cases q
    exact ZY L hzc h0 q3 hcs hin hm hx hb hb2 m hv0 hvx
 ·have hin:i=n:=by omega
  subst hin
  -- at the end: as append
  obtain ⟨g1,g2,g3⟩:=YL (st:=st) (ow:=ow) he hz h0 hV hcs hm hx hb hb2
  have Z:Rel w0 2 M [(0,true,LF o i),(1,true,.list ys ow)] st ⟨#[v0,vx],[]⟩ w:=⟨m,rfl,fun s x hs=>by
   simp only [DG] at hs
   split at hs
   ·subst s;cases hs;simpa [entryOk] using hv0
   ·split at hs
    ·subst s;cases hs;simpa [entryOk] using hvx
    ·cases hs⟩
  obtain ⟨v,J,M',g,V,N,H⟩:=Wh Z (.tmp 0) (.tmp 1) (ρ.t 24) (ρ.t 24) (by simp [AC,DG]) (by simp [AC,DG]) g1
  have a0:(⟨#[v0,vx],[]⟩:Act).eval (.tmp 0)=v0:=rfl
  have a1:(⟨#[v0,vx],[]⟩:Act).eval (.tmp 1)=vx:=rfl
  rw [a0,a1] at g
  have G:(Bh P st (ρ.t 24) (Aj [(0,true,LF o i),(1,true,AV.list ys ow)] (.tmp 0)) (Aj [(0,true,LF o i),(1,true,AV.list ys ow)] (.tmp 1))).2.1=LF (Pv o st.rows) (i+ys.length):=g2
  have F:(Bh P st (ρ.t 24) (Aj [(0,true,LF o i),(1,true,AV.list ys ow)] (.tmp 0)) (Aj [(0,true,LF o i),(1,true,AV.list ys ow)] (.tmp 1))).2.2={ st with rows:=Qq o st.rows sz (cs++ys.flatMap fun y=>y.pub.cells) }:=g3
  rw [F] at N
  rw [G] at H
  have Q:cs.take (i*sz)=cs:=List.take_of_length_le (by omega)
  have hd:cs.drop (i*sz)=[]:=List.drop_of_length_le (by omega)
  rw [Q,hd,List.append_nil]
  have C:(Builtin.append_ #[ρ.t 24,ρ.t 24] (ρ.t 24) #[v0,vx]).run P w = .ok v J:=by
   cases hq:(Builtin.append_ #[ρ.t 24,ρ.t 24] (ρ.t 24) #[v0,vx]).run P w with
   | ok u w1 =>
    rcases g with g | ⟨g,_⟩
    ·simp [hq] at g
     rw [g.1,g.2]
    ·simp [hq] at g
   | _=>rcases g with g | ⟨g,_⟩<;>simp [hq] at g
  obtain ⟨ux,x1,Y⟩:=hvx.list_open (fun y O=>(hx y O).1)
  rcases Y with ⟨_,q,_⟩ | ⟨bx,ox,cx',sz',rfl,_⟩
  ·subst q;simp at hm
  have h:∀ (base:Option Addr) (c:Nat),v0 = .slice base i c→i≤c→(base=none→i=0)→Calls P (ρ.f 22) #[v0,.int .i64 i,.slice (some ⟨bx,ox,none⟩) ys.length cx'] w (Comes' w0 M w fun r s=>r=LF (Pv o st.rows) (i+ys.length)∧s={ st with rows:=Qq o st.rows sz (cs++ys.flatMap fun y=>y.pub.cells) }):=fun base c e K U=>by
   subst e
   exact (Zft L base i c ⟨bx,ox,none⟩ ys.length cx' w J v hm K U (fun ty=>C)).mono fun en aa ⟨q1,q2⟩=>by
    subst q1;subst q2
    exact ⟨_,_,_,_,rfl,⟨rfl,rfl⟩,V,N,H⟩
  cases o with
  | nil =>
   have ez:i=0:=by
    rcases hV with ⟨_,q⟩ | ⟨id,ver,q,_⟩
    ·have q:cs=[]:=q
     rw [q] at hcs
     rcases Nat.eq_zero_or_pos i with k | k
     ·exact k
     ·have:=Nat.mul_pos k h0
      simp at hcs;omega
    ·cases q
   subst ez
   have hv0':R w0 M w v0 (.list [] .seed):=hv0
   cases hv0' with
   | nil _=>exact h none 0 rfl (Nat.le_refl _) (fun _=>rfl)
   | @emp a _ _=>exact h (some a) 0 rfl (Nat.le_refl _) (fun _=>rfl)
   | list sz us K=>exact h _ _ rfl (Nat.zero_le _) (fun _=>rfl)
  | row id ver =>
   rcases hV with ⟨q,_⟩ | ⟨id',ver',q,_,q3⟩
   ·cases q
   ·cases q
    have f1:=(m.row id _ q3).1
    have hv0':R w0 M w v0 (.vec id ver 0 i):=hv0
    cases hv0' with
    | @vec _ _ _ _ p cap hid' hver hh =>
     obtain ⟨rfl,_,D⟩:=hh f1.symm
     exact h _ _ rfl D (fun q=>nomatch q)
end
def IL:List Bool→List AV→List AV
 | b::m,a::l=>(if b=true then a.pubA else a)::IL m l
 | [],l=>l.map AV.pubA
 | _::_,[]=>[]
@[go_sem] theorem Zlt (m:List Bool) (a:AV) (l:List AV):IL (true::m) (a::l)=a.pubA::IL m l:=rfl
@[go_sem] theorem ZkD (m:List Bool) (a:AV) (l:List AV):IL (false::m) (a::l)=a::IL m l:=rfl
@[go_sem] theorem ZkC (l:List AV):IL [] l=l.map AV.pubA:=rfl
@[go_sem] theorem ZlF (m:List Bool):IL m []=[]:=by cases m<;>rfl
theorem UX:∀ (m:List Bool) (l:List AV),(IL m l).length=l.length∧∀ (i:Nat) (h1:i<(IL m l).length) (h2:i<l.length),(IL m l)[i]=l[i]∨(IL m l)[i]=l[i].pubA
 | [],l=>⟨by simp [IL],fun i h1 h2 => .inr (by simp [IL])⟩
 | b::m,[]=>⟨rfl,fun i h1 h2=>absurd h2 (by simp)⟩
 | b::m,a::l=>by
  obtain ⟨h1,h2⟩:=UX m l
  refine ⟨by simp [IL,h1],fun i c d=>?_⟩
  cases i with
  | zero=>cases b with
   | true=>exact .inr rfl
   | false=>exact .inl rfl
  | succ i=>exact h2 i (by simpa [IL] using c) (by simpa using d)
section
variable {P:Program} {w0:World} {st:St} {f:FuncId}
theorem ACalls.mask {m:List Bool} {args args':List AV} {Post:AV→St→Prop} (h:ACalls P w0 f args' st Post) (he:IL m args=args'):ACalls P w0 f args st Post:=by
 subst he
 obtain ⟨j,l⟩:=UX m args
 refine ⟨h.1,fun M w c g d=>h.2 M w c g ?_⟩
 obtain ⟨n,k⟩:=d
 refine ⟨by rw [j];exact n,fun i a b=>?_⟩
 have e:i<args.length:=by rw [←j];exact b
 rcases l i b e with q | q
 ·rw [q];exact k i a e
 ·rw [q];exact (k i a e).pubA
theorem ZdF {c d:Bool} {cs args args':List AV} {k:AV→St→Prop} (m:List Bool) (v:AV)
  (h:ACalls P w0 f args' st fun r s=>r=v∧s=st) (he:IL m (args++cs)=args') (hk:k v st):Lh P w0 c d (.clo f cs) args st k := .inl ⟨v,fun _=>h.mask he,hk⟩
theorem ZbO {cs args args':List AV} {k:AV→St→Prop} (m:List Bool) (Post:AV→St→Prop)
  (h:ACalls P w0 f args' st Post) (he:IL m (args++cs)=args') (hk:∀ v s,Post v s→k v s):Lh P w0 true false (.clo f cs) args st k := .inr ⟨rfl,Post,fun _=>h.mask he,fun v s a _=>hk v s (a rfl)⟩
end
def JD:List Bool→List AV→List AV
 | b::m,a::l=>(if b=true then a.pubCell else a)::JD m l
 | [],l=>l.map AV.pubCell
 | _::_,[]=>[]
@[go_sem] theorem ZlG (m:List Bool) (a:AV) (l:List AV):JD (true::m) (a::l)=a.pubCell::JD m l:=rfl
@[go_sem] theorem Zk6 (m:List Bool) (a:AV) (l:List AV):JD (false::m) (a::l)=a::JD m l:=rfl
@[go_sem] theorem Zkq (l:List AV):JD [] l=l.map AV.pubCell:=rfl
@[go_sem] theorem ZkF (m:List Bool):JD m []=[]:=by cases m<;>rfl
def pubS (m:List Bool):AV→AV
 | .agg cs => .agg (JD m cs)
 | x=>x
@[go_sem] theorem Zj3 (m:List Bool) (cs:List AV):pubS m (.agg cs) = .agg (JD m cs):=rfl
theorem TN:∀ (m:List Bool) (l:List AV),(JD m l).length=l.length∧∀ (i:Nat) (h1:i<(JD m l).length) (h2:i<l.length),(JD m l)[i]=l[i]∨(JD m l)[i]=l[i].pubCell
 | [],l=>⟨by simp [JD],fun i h1 h2 => .inr (by simp [JD])⟩
 | b::m,[]=>⟨rfl,fun i h1 h2=>absurd h2 (by simp)⟩
 | b::m,a::l=>by
  obtain ⟨h1,h2⟩:=TN m l
  refine ⟨by simp [JD,h1],fun i c d=>?_⟩
  cases i with
  | zero=>cases b with
   | true=>exact .inr rfl
   | false=>exact .inl rfl
  | succ i=>exact h2 i (by simpa [JD] using c) (by simpa using d)
theorem R.pubS {w0:World} {M:Mem} {w:World} (m:List Bool) {v:Value} {x:AV} (h:R w0 M w v x):R w0 M w v (pubS m x):=by
 cases h with
 | @agg us xs hl h1 h =>
  obtain ⟨e,f⟩:=TN m xs
  refine .agg (by rw [e];exact hl) (fun x g=>?_) (fun i a b=>?_)
  ·obtain ⟨i,d,rfl⟩:=List.mem_iff_getElem.1 g
   have c:i<xs.length:=by rw [←e];exact d
   rcases f i d c with q | q
   ·rw [q];exact h1 _ (List.getElem_mem _)
   ·rw [q,AV.one_pubCell];exact h1 _ (List.getElem_mem _)
  ·have c:i<xs.length:=by rw [←e];exact b
   rcases f i b c with q | q
   ·rw [q];exact h i a c
   ·rw [q];exact (h i a c).pubCell
 | nil ho=>exact .nil ho
 | emp ho=>exact .emp ho
 | list sz us hc hm hcell hu ho=>exact .list sz us hc hm hcell hu ho
 | flat hf=>exact .flat hf
 | tup hl h=>exact .tup hl h
 | elem u k hcell hu=>exact .elem u k hcell hu
 | box hl=>exact .box hl
 | clo hl h=>exact .clo hl h
 | yld hk=>exact .yld hk
 | vec d hv h=>exact .vec d hv h
 | vel d hv h=>exact .vel d hv h
def Zbc (P:Program) (e:Env) (st:St):ResultVar→AV
 | .tmp t=>Aj e (.tmp t)
 | .cell t ty=>(A4 P e true st (.load ty (.tmp t))).2.1
def Zgx (mk:List Bool) (P:Program) (rs:List ResultVar) (Post:AV→St→Prop):AQ:=fun x e st =>
 match x with
 | .normal | .ret=>(∀ r∈rs,Uk P e st r)∧Post (pubS mk (YM (rs.map (Zbc P e st)))) st
 | _=>False
attribute [go_sem] Zbc Zgx
section
variable {P:Program} {w0:World} {n:Nat} {M:Mem} {e:Env} {st:St} {a:Act} {w:World}
theorem ZG (mk:List Bool) (h:Rel w0 n M e st a w) {fn:Func} {rs:List ResultVar} (hfn:fn.results=rs.toArray) (hrs:∀ r∈rs,Uk P e st r) :
  ∃ v,(results fn a.tmps).run P w = .ok v w∧R w0 M w v (pubS mk (YM (rs.map (Zbc P e st)))):=by
 let f:ResultVar→Sem Value:=fun
  | .tmp t=>pure (a.tmps.getD t undef)
  | .cell b t=>do loadVar t (← asAddr (a.tmps.getD b undef))
 have d:∀ r∈rs,∃ v,(f r).run P w = .ok v w∧R w0 M w v (Zbc P e st r):=by
  intro r c
  have:=hrs r c
  cases r with
  | tmp t=>exact ⟨_,rfl,A6 h (x := .tmp t) this⟩
  | cell b t =>
   obtain ⟨v,k,m⟩:=Ua h t (.tmp b) this
   exact ⟨v,k,m⟩
 classical
 let g:ResultVar→Value:=fun r=>if c:r∈rs then Classical.choose (d r c) else undef
 have j:∀ r∈rs,(f r).run P w = .ok (g r) w∧R w0 M w (g r) (Zbc P e st r):=by
  intro r c
  have:=Classical.choose_spec (d r c)
  have e:g r=Classical.choose (d r c):=by simp only [g,dif_pos c]
  rw [e];exact this
 have l:(fn.results.mapM f).run P w = .ok ((rs.map g).toArray) w:=by
  rw [hfn,Array.mapM_eq_mapM_toList]
  simp only [Sem.run_map,Of f g rs (fun r c=>(j r c).1),Result.andThen_ok]
 have i:(results fn a.tmps).run P w = .ok (if h:(rs.map g).toArray.size=1 then (rs.map g).toArray[0] else .tuple (rs.map g).toArray) w:=by
  unfold results
  simp only [Sem.run_bind]
  refine Eq.trans (congrArg (fun x=>Result.andThen x _) l) ?_
  simp only [Result.andThen_ok,Sem.run_pure]
 refine ⟨_,i,?_⟩
 exact R.pubS mk (U1 rs g fun r c=>(j r c).2)
theorem ZJ (mk:List Bool) {f:FuncId} {fn:Func} {c:Code} {args:List AV} {rs:List ResultVar} {Post:AV→St→Prop} (hf:P.funcs[f]? = some fn) (hb:fn.body=some c) (hrs:fn.results=rs.toArray) (hn:fn.ntmps=n)
  (hen:KG P f) (ha:args.length≤n)
  (h:∀ (M0:Mem) (W0:World),M0.N=st.boxes.length→M0.NR=st.rows.length→M0.NL=st.loops.length→Calm st.boxes.length st.rows.length st.loops.length st→(∀ x∈args,Under st.boxes.length st.rows.length st.loops.length x) →
   Gq P w0 n M0 W0 none c (Zgx mk P rs Post) (Am 0 args) st):ACalls P w0 f args st Post:=by
 refine ⟨hen,fun M w a b d=>?_⟩
 have U:a.size=args.length:=d.1
 have Q:∀ x∈args,Under st.boxes.length st.rows.length st.loops.length x:=by
  intro x G
  obtain ⟨i,q,rfl⟩:=List.mem_iff_getElem.1 G
  have:=(d.get (i:=i) (Array.getElem?_eq_getElem (by omega)) (List.getElem?_eq_getElem q)).under
  rwa [b.N,b.NR,b.loop.NL] at this
 have k:Rel w0 n M (Am 0 args) st { tmps:=a++Array.replicate (fn.ntmps-a.size) undef,defers:=[] } w:=by
  refine ⟨b,by simp;omega,fun s x hs=>?_⟩
  obtain ⟨i,j,y,C,rfl⟩:=PO _ _ _ _ hs
  have q:i<args.length:=(List.getElem?_eq_some_iff.1 C).1
  have hs':s=i:=by omega
  subst hs'
  simp only [entryOk,if_true]
  have V:(a++Array.replicate (fn.ntmps-a.size) undef).getD s undef=a[s]'(by omega):=by
   simp [Array.getD_eq_getD_getElem?,Array.getElem?_append_left (show s<a.size by omega),Array.getElem?_eq_getElem (show s<a.size by omega)]
  rw [V]
  exact d.get (Array.getElem?_eq_getElem (by omega)) C
 refine Sr (n:=0) (callsIn_of_wp_marks hf hb trivial (wpIn_mono (h M w b.N b.NR b.loop.NL b.calm Q 0 M _ w ⟨k,.refl _ _ _,[],by simp⟩) ?_))
 rintro ex p z ⟨M',o,l,j,m⟩
 have e:∀ (u:∀ r∈rs,Uk P o l r) (t:Post (pubS mk (YM (rs.map (Zbc P o l)))) l),
   LeavesInM (FW none) 0 P fn p.tmps (Comes' w0 M w Post) p.defers .returning z:=by
  intro u t
  obtain ⟨Ds,Y,F,J⟩:=j.marks
  rw [F]
  refine M9 Ds M' z Y J b.base_le j.rel.st j.ext fun H D K k3=>?_
  have g:Rel w0 n M' o l p H:=⟨D,j.rel.size,fun s x hs=>by
   have:=j.rel.env s x hs
   unfold entryOk at *
   split
   ·rename_i c;rw [if_pos c] at this;exact k3 _ _ this
   ·rename_i c;rw [if_neg c] at this;exact this⟩
  obtain ⟨v,E,O⟩:=ZG mk g hrs u
  exact ⟨v,E,v,M',_,l,rfl,t,K,D,O⟩
 cases ex with
 | normal=>exact e m.1 m.2
 | ret=>exact e m.1 m.2
 | _=>exact m.elim
end
end Go.Ev
namespace Go.Proofs.YtgpmlelfkjfbiaaGreatDoor
open Go Go.RowKit Go.Ev
@[go_sem] theorem Zkt (n:Nat):LF .nil n = .list [] .seed:=rfl
def L9 {α:Type} (l:List α) (i:Int) (y:α):List α:=l.take i.toNat++y::l.drop i.toNat
theorem Wu {α:Type} {g:α→List AV} {sz:Nat} (hg:∀ x,(g x).length=sz):∀ (xs:List α) (k:Nat),(xs.flatMap g).take (k*sz)=(xs.take k).flatMap g
 | [],k=>by simp
 | x::xs,0=>by simp
 | x::xs,k+1=>by
  have a:=hg x
  rw [List.flatMap_cons,List.take_succ_cons,List.flatMap_cons,←Wu hg xs k,Nat.succ_mul,Nat.add_comm,List.take_append,List.take_of_length_le (by omega)]
  congr 2
  omega
theorem V4 {α:Type} {g:α→List AV} {sz:Nat} (hg:∀ x,(g x).length=sz):∀ (xs:List α) (k:Nat),(xs.flatMap g).drop (k*sz)=(xs.drop k).flatMap g
 | [],k=>by simp
 | x::xs,0=>by simp
 | x::xs,k+1=>by
  have a:=hg x
  rw [List.flatMap_cons,List.drop_succ_cons,←V4 hg xs k,Nat.succ_mul,Nat.add_comm,List.drop_append,List.drop_of_length_le (by omega),List.nil_append]
  congr 1
  omega
def insR:Go.Shelf.Ren:=⟨fun x=>if x=22 then 69 else if x=29 then 125 else if x=30 then 126 else x,
 fun x=>if x=9 then 75 else if x=24 then 44 else if x=3 then 3 else if x=4 then 4 else if x=0 then 0 else x,fun x=>x⟩
theorem Zmg:∃ z,InsLay Tryz.prog insR Tryz.f69.name 7 104 z∧z.cells.size=7:=by
 obtain ⟨j,z,g,c,b,d,a⟩:=UP (by kernel_rfl:ZaE Tryz.prog 75 7 104=true)
 exact ⟨z,{
  mixed:=by kernel_rfl
  nmo:=by decide
  f22:=Tryz.func69.trans (congrArg some (by kernel_rfl))
  ov:=fun w x y h=>by
   show (callFunc 125 #[x,y]).run Tryz.prog w=_
   rw [run_callFunc_extern Tryz.func125 (by kernel_rfl) (by kernel_rfl) (by kernel_rfl) (e:=Extern.SlicesOverlaps.overlaps #[44,44] #[4]) (by kernel_rfl)]
   have f:(Extern.SlicesOverlaps.overlaps #[44,44] #[4] #[x,y]).run Tryz.prog w = .ok (.bool false) w:=h
   first | (rw [f];rfl) | simp [f]
  t0:=Tryz.underlying0
  a0:=Tryz.isAgg0
  z0:=Tryz.sizeOf0
  v0:=Tryz.zeroValue0
  t3:=Tryz.underlying3
  a3:=Tryz.isAgg3
  z3:=Tryz.sizeOf3
  v3:=Tryz.zeroValue3
  t4:=Tryz.underlying4
  a4:=Tryz.isAgg4
  z4:=Tryz.sizeOf4
  v4:=Tryz.zeroValue4
  z9:=Tryz.sizeOf75
  t24:=Tryz.underlying44
  a24:=Tryz.isAgg44
  z24:=Tryz.sizeOf44
  v24:=Tryz.zeroValue44
  i9:=by
   show (Tryz.prog.info? 75).map (fun i=>(i.zero,i.size,i.bytes))=_
   rw [g];simp [c,b,d] },a⟩
theorem ZD (w0:World) {Rw rows:List RowA} {l:List (Nat × Nat × Ev.Own)} {ho:Ev.Own} {o:VO} {v:List VE} {xs:List (ByteArray × Vl)} (hO:Owns Rw rows l ho ((o,7,xs.flatMap fun x=>(BI x).cells)::v)) (i:Int)
  (hg:(0≤i∧i≤(xs.length:Int))∧(xs.length+1)*104≤140737488355328∧xs.length+1≤4611686018427387904) (y:ByteArray × Vl) :
  ∃ id' ver' rows',Owns Rw rows' l ho ((.row id' ver',7,(L9 xs i y).flatMap fun x=>(BI x).cells)::v)∧∀ (B:List (List AV)) (L:List LoopA) (ow:Ev.Own),ACalls Tryz.prog w0 69 [LF o xs.length,.val (.int .i64 i),.list [BI y] ow] ⟨B,rows,L⟩ fun r s=>r = .vec id' ver' 0 (L9 xs i y).length∧s=⟨B,rows',L⟩:=by
 obtain ⟨⟨w,u⟩,j,m⟩:=hg
 obtain ⟨k,rfl⟩:∃ k:Nat,i=(k:Int):=⟨i.toNat,by omega⟩
 obtain ⟨z,n,g⟩:=Zmg
 have a:∀ x:ByteArray × Vl,((fun x=>(BI x).cells) x).length=7:=fun x=>by simp +decide only [go_sem]
 have p:(xs.flatMap fun x=>(BI x).cells).length=xs.length*7:=Jv (f:=BI) (fun _=>by simp +decide only [go_sem]) xs
 have b:(L9 xs (k:Int) y).length=xs.length+1:=by
  unfold L9
  rw [List.length_append,List.length_cons,List.length_take,List.length_drop]
  simp only [Int.toNat_natCast]
  omega
 have c:(xs.flatMap fun x=>(BI x).cells).take (k*7)++[BI y].flatMap (fun y=>y.pub.cells)++(xs.flatMap fun x=>(BI x).cells).drop (k*7)=(L9 xs (k:Int) y).flatMap fun x=>(BI x).cells:=by
  unfold L9
  rw [Wu a,V4 a,List.flatMap_append,List.flatMap_cons,List.flatMap_cons,List.flatMap_nil,List.append_nil,YI,Int.toNat_natCast,List.append_assoc]
 obtain ⟨id',ver',hrow⟩:∃ id' ver',Pv o rows = .row id' ver':=by
  cases o with
  | nil=>exact ⟨_,_,rfl⟩
  | row id ver=>exact ⟨_,_,rfl⟩
 refine ⟨id',ver',_,hrow▸hO.bump ((L9 xs (k:Int) y).flatMap fun x=>(BI x).cells),fun B L ow=>?_⟩
 have:=ZS (P:=Tryz.prog) (w0:=w0) (st:=⟨B,rows,L⟩) (ow:=ow) (ys:=[BI y]) (ag:=true) (i:=k) n (A3 Tryz.func69 rfl (by decide)) LV (by rw [show insR.t 9=75 from rfl,HF];rfl) g (by decide) hO.vp p (by omega) (by simp)
  (fun q h=>by rw [List.mem_singleton.1 h];exact ⟨by simp +decide only [go_sem],by simp +decide only [go_sem]⟩) j m
 rw [c] at this
 exact this.mono fun r s ⟨d,e⟩=>⟨by rw [d,b,hrow];rfl,e⟩
theorem ZI {B B':List (List AV)} {R0 rows:List RowA} {L:List LoopA} {Post:AV→St→Prop} {v:AV} {ow:List (Nat × Nat × Ev.Own)} {oh:Ev.Own} (ho:Owns R0 rows ow oh) (hc:Go.Ev.Calm B.length rows.length L.length ⟨B',R0,L⟩) (hB:B'.length=B.length) (hu:Go.Ev.Under B.length rows.length L.length v.pubA) (hp:Post v.pubA ⟨B',rows,L⟩) :
  Go.Ev.finG ⟨B,R0,L⟩ Post v ⟨B',rows,L⟩:=by
 have:=Ri (X:=[]) ho hc hB hu hp
 rwa [List.append_nil] at this
def Fo (g:ByteArray × Vl) (b:ByteArray):Int :=
 Eh g.1 b
theorem QM (w0:World) (B:List (List AV)) (Rw:List RowA) (L:List LoopA) (a0:ByteArray × Vl) (a1:ByteArray) (r:Int) (h:Fo a0 a1=r) :
  ACalls Tryz.prog w0 140 [.agg (.val (.string a0.1)::(a0.2.cs)),.val (.string a1)] ⟨B,Rw,L⟩ fun x st=>x = .val (.int .i64 r)∧st=⟨B,Rw,L⟩:=by
 rw [Fo] at h
 refine hd [.tmp 4] Tryz.func140 Tryz.ntmps140 fun M0 W0 f e d a g c hs=>?_
 simp only [Am]
 refine rg [1,2] hs ?_
 refine rc 2 [4] hs ?_;intro K2 b
 refine Ab _ (MR w0 _ _ _ a0.1 a1) (hv hs) ?_
 refine ne hs b ?_
 clear b
 exact rT h hs a c
theorem P2 (w0:World) (B:List (List AV)) (Rw:List RowA) (L:List LoopA) (a0:ByteArray × Vl) (a1:ByteArray) :
  ACalls Tryz.prog w0 140 [.agg (.val (.string a0.1)::(a0.2.cs)),.val (.string a1)] ⟨B,Rw,L⟩ fun x st=>x = .val (.int .i64 (Fo a0 a1))∧st=⟨B,Rw,L⟩:=QM w0 B Rw L a0 a1 _ rfl
def Ni (b:ByteArray):Option Bool :=
 if b.size≤maxLen then
  some (Lib.validD b.data.toList)
 else none
theorem Y4 (w0:World) (hT:Lib.Utf8Tabs 0 1 w0) (B:List (List AV)) (Rw:List RowA) (L:List LoopA) (a0:ByteArray) (r:Bool) (h:Ni a0=some r) :
  ACalls Tryz.prog w0 196 [.val (.string a0)] ⟨B,Rw,L⟩ fun x st=>x = .val (.bool r)∧st=⟨B,Rw,L⟩:=by
 rw [Ni] at h
 refine hd [.tmp 2] Tryz.func196 Tryz.ntmps196 fun M0 W0 g f e a i d hs=>?_
 simp only [Am]
 refine rg [0] hs ?_
 obtain ⟨c,h⟩:=Ac h
 refine rc 2 [2] hs ?_;intro K2 b
 refine Ab _ (TG w0 _ _ _ hT a0 c) (hv hs) ?_
 refine ne hs b ?_
 clear b
 exact rt h hs a d
def BQ (n:Nat)  (b1_k4:Vl):Option Bool :=
 some (((((decide (b1_k4.int=0))&&(decide (b1_k4.scale=0)))&&(Dz b1_k4.text ((⟨#[]⟩:ByteArray))))&&(decide ((b1_k4.list.length:Int)=0)))&&(decide ((b1_k4.fields.length:Int)=0)))
def IG (n:Nat) (b:Vl):Option Bool :=
 BQ n (Vl.mk b.kind b.int b.scale b.text b.list ([]))
def DU (n:Nat) (g:Vl):Nat→Int→Option Bool
 | 0,_=>none
 | m+1,b =>
  if decide (b<(g.fields.length:Int)) then
   if BR (b-1) then
    (Cb g.fields (b-1)).bind fun q =>
    (Cb g.fields b).bind fun h =>
    if !(Wj q.1 h.1) then
     some (false)
    else
     if BR (b+1) then
      (DU n g m) (b+1)
     else none
   else none
  else
   IG n g 
def Dj (n:Nat) (b:Vl) (g:Bool):Option Bool :=
 if g then
  BQ n (Vl.mk b.kind 0 b.scale b.text b.list b.fields)
 else
  if decide (b.kind=3) then
   BQ n (Vl.mk b.kind 0 0 b.text b.list b.fields)
  else
   if decide (b.kind=4) then
    (Ni b.text).bind fun h =>
    if !h then
     some (false)
    else
     BQ n (Vl.mk b.kind b.int b.scale ((⟨#[]⟩:ByteArray)) b.list b.fields)
   else
    if decide (b.kind=5) then
     BQ n (Vl.mk b.kind b.int b.scale ((⟨#[]⟩:ByteArray)) b.list b.fields)
    else
     if decide (b.kind=8) then
      BQ n (Vl.mk b.kind b.int b.scale b.text ([]) b.fields)
     else
      if decide (b.kind=9) then
       DU n b n 1
      else
       if decide (b.kind=10) then
        if !(decide ((b.list.length:Int)=1)) then
         some (false)
        else
         BQ n (Vl.mk b.kind b.int b.scale ((⟨#[]⟩:ByteArray)) ([]) b.fields)
       else
        BQ n b
def Hr (n:Nat) (b:Vl):Option Bool :=
 if decide (b.kind=1) then
  if (!(decide (b.int=0)))&&(!(decide (b.int=1))) then
   some (false)
  else
   BQ n (Vl.mk b.kind 0 b.scale b.text b.list b.fields)
 else
  if decide (b.kind=2) then
   Dj n b true
  else
   if decide (b.kind=6) then
    Dj n b true
   else
    Dj n b (decide (b.kind=7))
theorem Po (w0:World) (hT:Lib.Utf8Tabs 0 1 w0) (n:Nat) (B:List (List AV)) (Rw:List RowA) (L:List LoopA) (a0:Vl) (r:Bool) (h:Hr n a0=some r) :
  ACalls Tryz.prog w0 137 [.agg (a0.cs)] ⟨B,Rw,L⟩ fun x st=>x = .val (.bool r)∧st=⟨B,Rw,L⟩:=by
 rw [Hr] at h
 refine hd [.tmp 2] Tryz.func137 Tryz.ntmps137 fun M0 W0 J o l a hu b hs=>?_
 simp only [Am]
 refine rg [1] hs ?_
 refine rg [1,3] hs ?_
 refine Ak (fun e st=>∃ (g:Vl) (j:List AV),Ck e st B Rw L [(3,true,.box (B.length+1) 0)] [a0.cs,j] [] (j.map AV.pubCell=g.cs∧BQ n g=some r)) ?_ ?_
 ·intro K5 i
  refine rg [1,3,7] hs ?_
  apply Ad
  refine rg [1,3,7,8] hs ?_
  refine Av h hs (fun hs h=>?_) (fun hs h=>?_)
  ·apply Aa;intro K9 H
   refine rg [3,17] hs ?_
   refine Av h hs (fun hs h=>?_) (fun hs h=>?_)
   ·refine rg [2] hs ?_
    exact rt h hs a b
   refine sk [3] hs H ?_
   clear H
   have hs:=And.intro (Vl.cs_eqs a0) hs
   refine rl [3] hs i ?_
   exact ⟨(Vl.mk a0.kind 0 a0.scale a0.text a0.list a0.fields),([.val (.int .i64 a0.kind),.val (.int .i64 0),.val (.int .i64 a0.scale),.val (.string a0.text),.list (a0.list.map A1) .none,.list (a0.fields.map BI) .none]),([]),Rw,ef (cm hs),ef (cm hs),b,ef (cm hs),h⟩
  refine Ak (fun e st=>∃ (d:Bool),Ck e st B Rw L [(1,true,.box B.length 0),(3,true,.box (B.length+1) 0),(7,true,.val (.int .i64 a0.kind)),(19,true,.val (.bool d))] [a0.cs,a0.cs] [] (Dj n a0 d=some r)) ?_ ?_
  ·intro K15 k
   refine rg [1,3,7,19] hs ?_
   refine Av h hs (fun hs h=>?_) (fun hs h=>?_)
   ·refine sk [1,3,7,19] hs k ?_
    exact ⟨true,([]),Rw,ef hs,ef hs,b,h⟩
   refine rg [1,3,7,19] hs ?_
   refine Av h hs (fun hs h=>?_) (fun hs h=>?_)
   ·refine sk [1,3,7,19] hs k ?_
    exact ⟨true,([]),Rw,ef hs,ef hs,b,h⟩
   refine rl [1,3,7,19] hs k ?_
   exact ⟨(decide (a0.kind=7)),([]),Rw,ef hs,ef hs,b,h⟩
  ·clear h;rintro e st ⟨d,Xk14,Rk14,rfl,rfl,b,h⟩
   rw [Dj] at h
   refine td J o l a b ?_
   refine Av h hs (fun hs h=>?_) (fun hs h=>?_)
   ·have hs:=And.intro (Vl.cs_eqs a0) hs
    refine rl [3] hs i ?_
    exact ⟨(Vl.mk a0.kind 0 a0.scale a0.text a0.list a0.fields),([.val (.int .i64 a0.kind),.val (.int .i64 0),.val (.int .i64 a0.scale),.val (.string a0.text),.list (a0.list.map A1) .none,.list (a0.fields.map BI) .none]),([]),Rk14,ef (cm hs),ef (cm hs),b,ef (cm hs),h⟩
   refine rg [1,3,7,24] hs ?_
   refine Av h hs (fun hs h=>?_) (fun hs h=>?_)
   ·have hs:=And.intro (Vl.cs_eqs a0) hs
    refine rl [3] hs i ?_
    exact ⟨(Vl.mk a0.kind 0 0 a0.text a0.list a0.fields),([.val (.int .i64 a0.kind),.val (.int .i64 0),.val (.int .i64 0),.val (.string a0.text),.list (a0.list.map A1) .none,.list (a0.fields.map BI) .none]),([]),Rk14,ef (cm hs),ef (cm hs),b,ef (cm hs),h⟩
   refine rg [1,3,7,28] hs ?_
   refine Av h hs (fun hs h=>?_) (fun hs h=>?_)
   ·apply Aa;intro K25 u
    obtain ⟨aa,D,h⟩:=bind_some h
    refine rc 2 [3,33] hs ?_;intro K26 p
    refine Ab _ (Y4 w0 hT _ _ _ a0.text _ D) (hv hs) ?_
    refine ne hs p ?_
    clear p
    refine Av h hs (fun hs h=>?_) (fun hs h=>?_)
    ·refine rg [2] hs ?_
     exact rt h hs a b
    refine sk [3] hs u ?_
    clear u
    have hs:=And.intro (Vl.cs_eqs a0) hs
    refine rl [3] hs i ?_
    exact ⟨(Vl.mk a0.kind a0.int a0.scale ((⟨#[]⟩:ByteArray)) a0.list a0.fields),([.val (.int .i64 a0.kind),.val (.int .i64 a0.int),.val (.int .i64 a0.scale),.val (.string ((⟨#[]⟩:ByteArray))),.list (a0.list.map A1) .none,.list (a0.fields.map BI) .none]),([]),Rk14,ef (cm hs),ef (cm hs),b,ef (cm hs),h⟩
   refine rg [1,3,7,35] hs ?_
   refine Av h hs (fun hs h=>?_) (fun hs h=>?_)
   ·have hs:=And.intro (Vl.cs_eqs a0) hs
    refine rl [3] hs i ?_
    exact ⟨(Vl.mk a0.kind a0.int a0.scale ((⟨#[]⟩:ByteArray)) a0.list a0.fields),([.val (.int .i64 a0.kind),.val (.int .i64 a0.int),.val (.int .i64 a0.scale),.val (.string ((⟨#[]⟩:ByteArray))),.list (a0.list.map A1) .none,.list (a0.fields.map BI) .none]),([]),Rk14,ef (cm hs),ef (cm hs),b,ef (cm hs),h⟩
   refine rg [1,3,7,38] hs ?_
   refine Av h hs (fun hs h=>?_) (fun hs h=>?_)
   ·have hs:=And.intro (Vl.cs_eqs a0) hs
    refine rl [3] hs i ?_
    exact ⟨(Vl.mk a0.kind a0.int a0.scale a0.text ([]) a0.fields),([.val (.int .i64 a0.kind),.val (.int .i64 a0.int),.val (.int .i64 a0.scale),.val (.string a0.text),.list ([]) .full,.list (a0.fields.map BI) .none]),([]),Rk14,ef (cm hs),ef (cm hs),b,ef (cm hs),h⟩
   refine rg [1,3,7,41] hs ?_
   refine Av h hs (fun hs h=>?_) (fun hs h=>?_)
   ·refine Ak (fun e st=>Ck e st B Rw L [(3,true,.box (B.length+1) 0)] [a0.cs,a0.cs] [] (IG n a0  = some r)) ?_ ?_
    ·intro K38 G
     refine rg [1,3,4] hs ?_
     apply Ad
     refine Ap (fun m e st=>∃ (c:Int),Ck e st B Rw L [(1,true,.box B.length 0),(3,true,.box (B.length+1) 0),(4,true,.val (.int .i64 c))] [a0.cs,a0.cs] [] (DU n a0 m c=some r)) n ⟨1,([]),Rk14,ef hs,ef hs,b,h⟩ ?_
     rintro ml40 e st ⟨c,Xl40,Rl40,rfl,rfl,b,h⟩ Ul40 Vl40
     cases ml40 with
     | zero=>cases h
     | succ ml40 =>
     rw [DU] at h
     refine td J o l a b ?_
     apply Aa;intro K41 q
     refine rg [1,3,4,47] hs ?_
     refine Av h hs (fun hs h=>?_) (fun hs h=>?_)
     rotate_left
     ·refine sx [3] hs G ?_
      exact ⟨([]),Rl40,ef hs,ef hs,b,h⟩
     refine sk [1,3,4] hs q ?_
     clear q
     apply Aa;intro K44 v
     apply Ad
     obtain ⟨V,h⟩:=Ac h
     obtain ⟨Z,F,h⟩:=bind_some h
     obtain ⟨U,O,C⟩:=Ao F
     have w:=Aq (f:=BI) C
     obtain ⟨ab,E,h⟩:=bind_some h
     obtain ⟨Q,K,y⟩:=Ao E
     have z:=Aq (f:=BI) y
     have hs:=And.intro w hs
     have hs:=And.intro z hs
     refine dg 14 1 1 [1,3,4,63] hs Gm ?_
     refine Av h hs (fun hs h=>?_) (fun hs h=>?_)
     ·refine rg [2] hs ?_
      exact rt h hs a b
     refine sk [1,3,4] hs v ?_
     clear v
     obtain ⟨Y,h⟩:=Ac h
     refine rl [1,3,4] hs (fun e s=>Vl40 ml40 e s (Nat.lt_succ_self _)) ?_
     exact ⟨(c+1),([]),Rl40,ef hs,ef hs,b,h⟩
    ·clear h;rintro e st ⟨Xk37,Rk37,rfl,rfl,b,h⟩
     rw [IG] at h
     refine td J o l a b ?_
     have hs:=And.intro (Vl.cs_eqs a0) hs
     refine rl [3] hs i ?_
     exact ⟨(Vl.mk a0.kind a0.int a0.scale a0.text a0.list ([])),([.val (.int .i64 a0.kind),.val (.int .i64 a0.int),.val (.int .i64 a0.scale),.val (.string a0.text),.list (a0.list.map A1) .none,.list ([]) .full]),([]),Rk37,ef (cm hs),ef (cm hs),b,ef (cm hs),h⟩
   refine rg [1,3,65] hs ?_
   refine Av h hs (fun hs h=>?_) (fun hs h=>?_)
   ·apply Aa;intro K54 t
    refine rg [3,70] hs ?_
    refine Av h hs (fun hs h=>?_) (fun hs h=>?_)
    ·refine rg [2] hs ?_
     exact rt h hs a b
    refine sk [3] hs t ?_
    clear t
    have hs:=And.intro (Vl.cs_eqs a0) hs
    refine rl [3] hs i ?_
    exact ⟨(Vl.mk a0.kind a0.int a0.scale ((⟨#[]⟩:ByteArray)) ([]) a0.fields),([.val (.int .i64 a0.kind),.val (.int .i64 a0.int),.val (.int .i64 a0.scale),.val (.string ((⟨#[]⟩:ByteArray))),.list ([]) .full,.list (a0.fields.map BI) .none]),([]),Rk14,ef (cm hs),ef (cm hs),b,ef (cm hs),h⟩
   refine sk [3] hs i ?_
   exact ⟨a0,_,([]),Rk14,ef hs,ef hs,b,ef hs,h⟩
 ·clear h;rintro e st ⟨g,j,Xk4,Rk4,rfl,rfl,b,N,h⟩
  rw [BQ] at h
  refine LN (B.length+1) (by first | rfl | (simp only [HL,Gs,HG,Gx];rfl)) N ?_;simp +decide only [go_sem,Nat.reduceAdd]
  show Gq _ _ _ _ _ _ _ _ [(3,true,.box (B.length+1) 0)] ⟨B++([a0.cs,g.cs]++Xk4),Rk4,L⟩
  refine td J o l a b ?_
  refine rg [2] hs ?_
  exact rt h hs a b
def Ji (n:Nat) (g:Int→(List (ByteArray × Vl))→Option Vl) (b:Int) (b3_k37_5:List (ByteArray × Vl)) (b4_k37:ByteArray × Vl):Option Vl :=
 if (b3_k37_5.length+1)*104≤140737488355328∧b3_k37_5.length+1≤4611686018427387904 then
  if BR (b+1) then
   g (b+1) (b3_k37_5++([b4_k37]))
  else none
 else none
def CW (n:Nat) (b:Vl) (b3_k4_4:List Vl) (b3_k4_5:List (ByteArray × Vl)):Option Vl :=
 some (Vl.mk b.kind b.int b.scale b.text b3_k4_4 b3_k4_5)
def E5 (n:Nat) (y:Ty) (g:Vl) (a2:Ty→Vl→Option Vl):Nat→Int→(List Vl)→Option Vl
 | 0,_,_=>none
 | m+1,b,b3_l10_4 =>
  if decide (b<(g.list.length:Int)) then
   (Cb g.list b).bind fun q =>
   (Cb y.elem 0).bind fun s =>
   (a2 s q).bind fun h =>
   if (b3_l10_4.length+1)*88≤140737488355328∧b3_l10_4.length+1≤4611686018427387904 then
    if BR (b+1) then
     (E5 n y g a2 m) (b+1) (b3_l10_4++([h]))
    else none
   else none
  else
   CW n g b3_l10_4 g.fields
def Gw (n:Nat) (s:Ty) (h:Vl) (a2:Ty→Vl→Option Vl):Nat→Int→(List (ByteArray × Vl))→Option Vl
 | 0,_,_=>none
 | m+1,b,b3_l29_5 =>
  if decide (b<(h.fields.length:Int)) then
   (Cb h.fields b).bind fun g =>
   (CV n s g.1).bind fun q =>
   if q.2 then
    (a2 q.1.2.2.2.1 g.2).bind fun y =>
    Ji n (Gw n s h a2 m) b b3_l29_5 ((g.1,y))
   else
    Ji n (Gw n s h a2 m) b b3_l29_5 g
  else
   CW n h h.list b3_l29_5
def KZ (n:Nat) (g:Ty) (b:Vl) (y:Ty→Vl→Option Vl):Option Vl :=
 if (decide (g.kind=8))&&(decide ((g.elem.length:Int)=1)) then
  E5 n g b y n 0 ([])
 else
  if decide (g.kind=9) then
   Gw n g b y n 0 ([])
  else
   if decide (g.kind=10) then
    (CV n g b.text).bind fun h =>
    if h.2 then
     (Cb b.list 0).bind fun s =>
     (y h.1.2.2.2.1 s).bind fun q =>
     CW n b ([q]) b.fields
    else
     CW n b b.list b.fields
   else
    CW n b b.list b.fields
theorem WU (w0:World) (n:Nat) (B:List (List AV)) (Rw:List RowA) (L:List LoopA) (a0:Ty) (a1:Vl) (fa2:FuncId) (ca2:List AV) (a2:Ty→Vl→Option Vl) (ha2:∀ (x0:Ty) (x1:Vl) r,a2 x0 x1=some r→∀ B' rows,B <+: B'→Rw <+: rows→ACalls Tryz.prog w0 fa2 ([.agg (x0.cs),.agg (x1.cs)]++ca2) ⟨B',rows,L⟩ fun v s=>v = .agg (r.cs)∧s=⟨B',rows,L⟩) (r:Vl) (h:KZ n a0 a1 a2=some r) :
  ACalls Tryz.prog w0 138 [.agg (a0.cs),.agg (a1.cs),.clo fa2 ca2] ⟨B,Rw,L⟩ fun x st=>x = .agg (r.cs)∧st=⟨B,Rw,L⟩:=by
 rw [KZ] at h
 refine hd [.cell 6 46] Tryz.func138 Tryz.ntmps138 fun M0 W0 hN U V D hu l hs=>?_
 simp only [Am]
 have o:=B6 (hu (.clo fa2 ca2) (by simp))
 refine rg [2,3,4,6] hs ?_
 refine rg [2,3,4,6,7] hs ?_
 refine Ak (fun e st=>∃ (t:List Vl) (q:List (ByteArray × Vl)) (u:AV) (z:AV),Ck e st B Rw L [(6,true,.box (B.length+2) 0),(7,true,.box (B.length+3) 0)] [a0.cs,a1.cs,[.val (.int .i64 0),.val (.int .i64 0),.val (.int .i64 0),.val (.string ((⟨#[]⟩:ByteArray))),.list ([]) .full,.list ([]) .full],[.val (.int .i64 a1.kind),.val (.int .i64 a1.int),.val (.int .i64 a1.scale),.val (.string a1.text),u,z]] [] (u.pub = .list (t.map A1) .none∧z.pub = .list (q.map BI) .none∧CW n a1 t q=some r)) ?_ ?_
 ·intro K5 K
  apply Ad
  refine rg [2,3,4,6,7,17] hs ?_
  refine Av h hs (fun hs h=>?_) (fun hs h=>?_)
  ·have hs:=And.intro (Vl.cs_eqs a1) hs
   refine rg [2,3,4,6,7] hs ?_
   refine rg [2,3,6,7,29,30,31] hs ?_
   apply Ad
   refine Ap (fun m e st=>∃ (p:Int) (a:List Vl) (i:Ev.Own),Ck e st B Rw L [(2,true,.clo fa2 ca2),(3,true,.box B.length 0),(6,true,.box (B.length+2) 0),(7,true,.box (B.length+3) 0),(29,true,.list (a1.list.map A1) .none),(30,true,.val (.int .i64 (a1.list.length:Int))),(31,true,.val (.int .i64 p))] [a0.cs,a1.cs,[.val (.int .i64 0),.val (.int .i64 0),.val (.int .i64 0),.val (.string ((⟨#[]⟩:ByteArray))),.list ([]) .full,.list ([]) .full],[.val (.int .i64 a1.kind),.val (.int .i64 a1.int),.val (.int .i64 a1.scale),.val (.string a1.text),.list (a.map A1) i,.list (a1.fields.map BI) .none]] [(6,a.length,i)] (E5 n a0 a1 a2 m p a=some r)) n ⟨0,([]),.full,([]),Rw,ef hs,ef hs,Owns.of_eq ((l).full 6 0) EK,h⟩ ?_
   rintro ml10 e st ⟨p,a,i,Xl10,Rl10,rfl,rfl,l,h⟩ Ul10 Vl10
   cases ml10 with
   | zero=>cases h
   | succ ml10 =>
   rw [E5] at h
   have hU:=l.unders
   simp only [List.mem_cons,List.not_mem_nil,or_false,forall_eq_or_imp,forall_eq] at hU
   refine AH hN U V rfl D l (Jm o l) (Jm o l) ?_
   refine rg [2,3,6,7,29,30,31,32] hs ?_
   apply Aa;intro K12 ah
   refine Av h hs (fun hs h=>?_) (fun hs h=>?_)
   rotate_left
   ·refine sx [6,7] hs K ?_
    exact ⟨a,a1.fields,(.list (a.map A1) i),(.list (a1.fields.map BI) .none),([]),Rl10,ef hs,ef hs,(l).sub (List.sublist_append_left [] [(6,a.length,i)]),ef hs,ef hs,h⟩
   refine sk [2,3,6,7,29,30,31] hs ah ?_
   clear ah
   apply Aa;intro K14 ad
   apply Ad
   obtain ⟨a5,av,h⟩:=bind_some h
   obtain ⟨bi,bf,ak⟩:=Ao av
   have au:=Aq (f:=A1) ak
   have hs:=And.intro au hs
   refine rg [2,3,6,7,9,29,30,31] hs ?_
   obtain ⟨a9,bg,bh,N,h⟩:=ix HK h
   have ap:(a0.elem.map HK).getD 0 .junk=_:=N
   obtain ⟨a8,aw,h⟩:=bind_some h
   have aq:=l.pre
   obtain ⟨ab,h⟩:=Ac h
   obtain ⟨bc,Q,l,C⟩:=l.append (P:=Tryz.prog) Rx (by rw [Me];rfl) (by decide) 1 ab.1 ab.2
   replace C:=fun (ys:List AV) B L o2=>C (a.map A1) ys B L o2 EK
   replace C:=fun (y:AV) B L o2=>C [y] B L o2 EK ev
   try simp only [List.mem_singleton,List.mem_cons,List.not_mem_nil,or_false,forall_eq_or_imp,forall_eq,List.map_append,List.map_cons,List.map_nil,Fp,FA,FH,FB,FC,E1,D6,DY,Fj,CO,CH,D7,D3,D5] at C
   have hs:=And.intro N hs
   have hs:=And.intro ap hs
   have hs:=And.intro C hs
   refine dk 10 2 1 [2,3,6,7,29,30,31] hs Gm ?_
   refine FY _ (ha2 a9 a5 _ aw _ _ px aq) (hv hs) ?_
   refine dn hs ad ?_
   clear ad
   obtain ⟨bm,h⟩:=Ac h
   refine rl [2,3,6,7,29,30,31] hs (fun e s=>Vl10 ml10 e s (Nat.lt_succ_self _)) ?_
   exact ⟨(p+1),(a++([a8])),bc,([a5.cs]),Q,ef hs,ef hs,Owns.of_eq (l) EK,h⟩
  refine rg [2,3,4,6,7,48] hs ?_
  refine Av h hs (fun hs h=>?_) (fun hs h=>?_)
  ·have hs:=And.intro (Vl.cs_eqs a1) hs
   refine rg [2,3,4,6,7] hs ?_
   refine rg [2,3,6,7,54,55,56] hs ?_
   apply Ad
   refine Ap (fun m e st=>∃ (j:Int) (b:List (ByteArray × Vl)) (c:Ev.Own),Ck e st B Rw L [(2,true,.clo fa2 ca2),(3,true,.box B.length 0),(6,true,.box (B.length+2) 0),(7,true,.box (B.length+3) 0),(54,true,.list (a1.fields.map BI) .none),(55,true,.val (.int .i64 (a1.fields.length:Int))),(56,true,.val (.int .i64 j))] [a0.cs,a1.cs,[.val (.int .i64 0),.val (.int .i64 0),.val (.int .i64 0),.val (.string ((⟨#[]⟩:ByteArray))),.list ([]) .full,.list ([]) .full],[.val (.int .i64 a1.kind),.val (.int .i64 a1.int),.val (.int .i64 a1.scale),.val (.string a1.text),.list (a1.list.map A1) .none,.list (b.map BI) c]] [(7,b.length,c)] (Gw n a0 a1 a2 m j b=some r)) n ⟨0,([]),.full,([]),Rw,ef hs,ef hs,Owns.of_eq ((l).full 7 0) EK,h⟩ ?_
   rintro ml29 e st ⟨j,b,c,Xl29,Rl29,rfl,rfl,l,h⟩ Ul29 Vl29
   cases ml29 with
   | zero=>cases h
   | succ ml29 =>
   rw [Gw] at h
   have hU:=l.unders
   simp only [List.mem_cons,List.not_mem_nil,or_false,forall_eq_or_imp,forall_eq] at hU
   refine AH hN U V rfl D l (Jm o l) (Jm o l) ?_
   refine rg [2,3,6,7,54,55,56,57] hs ?_
   apply Aa;intro K31 ai
   refine Av h hs (fun hs h=>?_) (fun hs h=>?_)
   rotate_left
   ·refine sx [6,7] hs K ?_
    exact ⟨a1.list,b,(.list (a1.list.map A1) .none),(.list (b.map BI) c),([]),Rl29,ef hs,ef hs,(l).sub (List.sublist_append_left [] [(7,b.length,c)]),ef hs,ef hs,h⟩
   refine sk [2,3,6,7,54,55,56] hs ai ?_
   clear ai
   apply Aa;intro K33 ag
   apply Ad
   obtain ⟨J,a4,h⟩:=bind_some h
   obtain ⟨be,bk,ao⟩:=Ao a4
   have am:=Aq (f:=BI) ao
   have hs:=And.intro am hs
   refine rg [2,3,6,7,11,54,55,56] hs ?_
   refine Ak (fun e st=>∃ (d:List (ByteArray × Vl)) (g:ByteArray × Vl) (k:Ev.Own) (G:List AV),Ck e st B Rw L [(2,true,.clo fa2 ca2),(3,true,.box B.length 0),(6,true,.box (B.length+2) 0),(7,true,.box (B.length+3) 0),(11,true,.box (B.length+4) 0),(54,true,.list (a1.fields.map BI) .none),(55,true,.val (.int .i64 (a1.fields.length:Int))),(56,true,.val (.int .i64 j))] [a0.cs,a1.cs,[.val (.int .i64 0),.val (.int .i64 0),.val (.int .i64 0),.val (.string ((⟨#[]⟩:ByteArray))),.list ([]) .full,.list ([]) .full],[.val (.int .i64 a1.kind),.val (.int .i64 a1.int),.val (.int .i64 a1.scale),.val (.string a1.text),.list (a1.list.map A1) .none,.list (d.map BI) k],G] [(7,d.length,k)] (G.map AV.pubCell = .val (.string g.1)::(g.2.cs)∧Ji n (Gw n a0 a1 a2 ml29) j d g=some r)) ?_ ?_
   ·intro K38 ae
    obtain ⟨E,a6,h⟩:=bind_some h
    refine rc 2 [2,3,6,7,11,12,13,54,55,56] hs ?_;intro K39 Z
    refine Ab _ (FI w0 n _ _ _ a0 J.1 _ a6) (hv hs) ?_
    refine ne hs Z ?_
    clear Z
    refine rg [2,3,6,7,11,12,54,55,56,67] hs ?_
    refine Av h hs (fun hs h=>?_) (fun hs h=>?_)
    ·obtain ⟨H,ax,h⟩:=bind_some h
     have hs:=And.intro (Vl.cs_eqs J.2) hs
     have hs:=And.intro (Vl.cs_eqs H) hs
     refine rk 2 [2,3,6,7,11,54,55,56] hs ?_
     refine FY _ (ha2 E.1.2.2.2.1 J.2 _ ax _ _ px l.pre) (hv hs) ?_
     refine ne hs ae ?_
     exact ⟨b,((J.1,H)),c,([.val (.string J.1),.val (.int .i64 H.kind),.val (.int .i64 H.int),.val (.int .i64 H.scale),.val (.string H.text),.list (H.list.map A1) .none,.list (H.fields.map BI) .none]),([.val (.int .i64 E.1.1)::(.val (.string E.1.2.1)::(.val (.int .i64 E.1.2.2.1)::((E.1.2.2.2.1.cs)++([.list (E.1.2.2.2.2.map A1) .none]))))]),Rl29,ef (cm hs),ef (cm hs),Owns.of_eq (l) EK,ef (cm hs),h⟩
    refine sk [2,3,6,7,11,54,55,56] hs ae ?_
    exact ⟨b,J,c,(.val (.string J.1)::(J.2.cs)),([.val (.int .i64 E.1.1)::(.val (.string E.1.2.1)::(.val (.int .i64 E.1.2.2.1)::((E.1.2.2.2.1.cs)++([.list (E.1.2.2.2.2.map A1) .none]))))]),Rl29,ef (cm hs),ef (cm hs),Owns.of_eq (l) EK,ef (cm hs),h⟩
   ·clear h;rintro e st ⟨d,g,k,G,Xk37,Rk37,rfl,rfl,l,ar,h⟩
    rw [Ji] at h
    refine LN (B.length+4) (by first | rfl | (simp only [HL,Gs,HG,Gx];rfl)) ar ?_;simp +decide only [go_sem,Nat.reduceAdd]
    show Gq _ _ _ _ _ _ _ _ [(2,true,.clo fa2 ca2),(3,true,.box B.length 0),(6,true,.box (B.length+2) 0),(7,true,.box (B.length+3) 0),(11,true,.box (B.length+4) 0),(54,true,.list (a1.fields.map BI) .none),(55,true,.val (.int .i64 (a1.fields.length:Int))),(56,true,.val (.int .i64 j))] ⟨B++([a0.cs,a1.cs,[.val (.int .i64 0),.val (.int .i64 0),.val (.int .i64 0),.val (.string ((⟨#[]⟩:ByteArray))),.list ([]) .full,.list ([]) .full],[.val (.int .i64 a1.kind),.val (.int .i64 a1.int),.val (.int .i64 a1.scale),.val (.string a1.text),.list (a1.list.map A1) .none,.list (d.map BI) k],.val (.string g.1)::(g.2.cs)]++Xk37),Rk37,L⟩
    have hU:=l.unders
    simp only [List.mem_cons,List.not_mem_nil,or_false,forall_eq_or_imp,forall_eq] at hU
    refine AH hN U V rfl D l (Jm o l) (Jm o l) ?_
    obtain ⟨af,h⟩:=Ac h
    obtain ⟨a7,Y,l,w⟩:=l.append (P:=Tryz.prog) LV (by rw [HF];rfl) (by decide) 1 af.1 af.2
    replace w:=fun (ys:List AV) B L o2=>w (d.map BI) ys B L o2 EK
    replace w:=fun (y:AV) B L o2=>w [y] B L o2 EK ev
    try simp only [List.mem_singleton,List.mem_cons,List.not_mem_nil,or_false,forall_eq_or_imp,forall_eq,List.map_append,List.map_cons,List.map_nil,Fp,FA,FH,FB,FC,E1,D6,DY,Fj,CO,CH,D7,D3,D5] at w
    have hs:=And.intro w hs
    refine rl [2,3,6,7,54,55,56] hs ag ?_
    clear ag
    obtain ⟨bl,h⟩:=Ac h
    refine rl [2,3,6,7,54,55,56] hs (fun e s=>Vl29 ml29 e s (Nat.lt_succ_self _)) ?_
    exact ⟨(j+1),(d++([g])),a7,([.val (.string g.1)::(g.2.cs)]),Y,ef hs,ef hs,Owns.of_eq (l) EK,h⟩
  refine rg [2,3,4,6,7,82] hs ?_
  refine Av h hs (fun hs h=>?_) (fun hs h=>?_)
  ·obtain ⟨F,a3,h⟩:=bind_some h
   refine rc 2 [2,4,6,7,14,15] hs ?_;intro K51 aa
   refine Ab _ (FI w0 n _ _ _ a0 a1.text _ a3) (hv hs) ?_
   refine ne hs aa ?_
   clear aa
   refine rg [2,4,6,7,14,93] hs ?_
   refine Av h hs (fun hs h=>?_) (fun hs h=>?_)
   ·obtain ⟨bb,bj,bd,O,h⟩:=ix A1 h
    have aj:(a1.list.map A1).getD 0 .junk=_:=O
    obtain ⟨ay,az,h⟩:=bind_some h
    have hs:=And.intro O hs
    have hs:=And.intro aj hs
    have hs:=And.intro (Vl.cs_eqs a1) hs
    refine dk 10 2 1 [6,7] hs Gm ?_
    refine FY _ (ha2 F.1.2.2.2.1 bb _ az _ _ px l.pre) (hv hs) ?_
    refine dn hs K ?_
    exact ⟨([ay]),a1.fields,(.list (([ay]).map A1) .full),(.list (a1.fields.map BI) .none),([.val (.int .i64 F.1.1)::(.val (.string F.1.2.1)::(.val (.int .i64 F.1.2.2.1)::((F.1.2.2.2.1.cs)++([.list (F.1.2.2.2.2.map A1) .none]))))]),Rw,ef hs,ef hs,l,ef hs,ef hs,h⟩
   have hs:=And.intro (Vl.cs_eqs a1) hs
   refine sk [6,7] hs K ?_
   exact ⟨a1.list,a1.fields,(.list (a1.list.map A1) .none),(.list (a1.fields.map BI) .none),([.val (.int .i64 F.1.1)::(.val (.string F.1.2.1)::(.val (.int .i64 F.1.2.2.1)::((F.1.2.2.2.1.cs)++([.list (F.1.2.2.2.2.map A1) .none]))))]),Rw,ef hs,ef hs,l,ef hs,ef hs,h⟩
  have hs:=And.intro (Vl.cs_eqs a1) hs
  refine sk [6,7] hs K ?_
  exact ⟨a1.list,a1.fields,(.list (a1.list.map A1) .none),(.list (a1.fields.map BI) .none),([]),Rw,ef hs,ef hs,l,ef hs,ef hs,h⟩
 ·clear h;rintro e st ⟨t,q,u,z,Xk4,Rk4,rfl,rfl,l,ar,ba,h⟩
  rw [CW] at h
  refine Iq (B.length+3) 4 (by first | rfl | (simp only [HL,Gs,HG,Gx];rfl)) rfl ar ?_;simp +decide only [go_sem,Nat.reduceAdd]
  refine Iq (B.length+3) 5 (by first | rfl | (simp only [HL,Gs,HG,Gx];rfl)) rfl ba ?_;simp +decide only [go_sem,Nat.reduceAdd]
  show Gq _ _ _ _ _ _ _ _ [(6,true,.box (B.length+2) 0),(7,true,.box (B.length+3) 0)] ⟨B++([a0.cs,a1.cs,[.val (.int .i64 0),.val (.int .i64 0),.val (.int .i64 0),.val (.string ((⟨#[]⟩:ByteArray))),.list ([]) .full,.list ([]) .full],[.val (.int .i64 a1.kind),.val (.int .i64 a1.int),.val (.int .i64 a1.scale),.val (.string a1.text),.list (t.map A1) .none,.list (q.map BI) .none]]++Xk4),Rk4,L⟩
  refine AH hN U V rfl D l (Jm o l) (Jm o l) ?_
  refine rg [6] hs ?_
  exact rt h hs D l
def Fh (n:Nat) (g:Int→(List (ByteArray × Vl))→Option Vl) (b:Int) (b3_k24_5:List (ByteArray × Vl)) (b4_k24:ByteArray × Vl):Option Vl :=
 if (b3_k24_5.length+1)*104≤140737488355328∧b3_k24_5.length+1≤4611686018427387904 then
  if BR (b+1) then
   g (b+1) (b3_k24_5++[b4_k24])
  else none
 else none
def LQ (n:Nat) (b:Vl) (b3_k7_5:List (ByteArray × Vl)):Option Vl :=
 some (Vl.mk b.kind b.int b.scale b.text b.list b3_k7_5)
def Dq (n:Nat) (y:Ty) (q:Vl) (a2:Ty→Vl→Option Vl):Nat→Int→(List (ByteArray × Vl))→Option Vl
 | 0,_,_=>none
 | m+1,b,b3_l15_5 =>
  if decide (b<(q.fields.length:Int)) then
   (Cb q.fields b).bind fun g =>
   (CV n y g.1).bind fun h =>
   if h.2 then
    (a2 h.1.2.2.2.1 g.2).bind fun s =>
    Fh n (Dq n y q a2 m) b b3_l15_5 ((g.1,s))
   else
    Fh n (Dq n y q a2 m) b b3_l15_5 g
  else
   LQ n q b3_l15_5
def J0 (n:Nat) (b:Ty) (g:Vl) (h:Ty→Vl→Option Vl):Option Vl :=
 if b.kind=9 then
  Dq n b g h n 0 ([])
 else none
theorem Vo (w0:World) (n:Nat) (B:List (List AV)) (Rw:List RowA) (L:List LoopA) (a0:Ty) (a1:Vl) (fa2:FuncId) (ca2:List AV) (a2:Ty→Vl→Option Vl) (ha2:∀ (x0:Ty) (x1:Vl) r,a2 x0 x1=some r→∀ B' rows,B <+: B'→Rw <+: rows→ACalls Tryz.prog w0 fa2 ([.agg (x0.cs),.agg (x1.cs)]++ca2) ⟨B',rows,L⟩ fun v s=>v = .agg (r.cs)∧s=⟨B',rows,L⟩) (r:Vl) (h:J0 n a0 a1 a2=some r) :
  ACalls Tryz.prog w0 138 [.agg (a0.cs),.agg (a1.cs),.clo fa2 ca2] ⟨B,Rw,L⟩ fun x st=>∃ (o0:VO) (rows:List RowA),x = .agg ([.val (.int .i64 r.kind),.val (.int .i64 r.int),.val (.int .i64 r.scale),.val (.string r.text),.list (r.list.map A1) .none,LF o0 r.fields.length])∧st=⟨B,rows,L⟩∧Owns Rw rows [] .none [(o0,7,(r.fields).flatMap fun x=>(BI x).cells)]:=by
 rw [J0] at h
 refine ACalls.finV (ZJ [true,true,true,true,true,false] (rs:=[.cell 6 46]) Tryz.func138 rfl rfl Tryz.ntmps138 (A3 Tryz.func138 rfl (by decide)) (Nat.le_of_ble_eq_true rfl) ?_)
 intro M0 W0 hN G F q hu
 dsimp only at hN G F q hu
 simp only [Am]
 have k:=Owns.none Rw
 have hs:=Zax
 have o:=B6 (hu (.clo fa2 ca2) (by simp))
 obtain ⟨ag,h⟩:=Ac h
 have z:(decide (a0.kind=9))=true:=decide_eq_true ag
 have D:(decide (a0.kind=8))=false:=decide_eq_false (by omega)
 have hs:=And.intro z hs
 have hs:=And.intro D hs
 refine rg [2,3,4,6] hs ?_
 refine rg [2,3,4,6,7] hs ?_
 refine Ak (fun e st=>∃ (j:List (ByteArray × Vl)) (l:VO) (Xk7:List (List AV)) (Rk7:List RowA),e=[(6,true,.box (B.length+2) 0),(7,true,.box (B.length+3) 0)]∧st=⟨B++([a0.cs,a1.cs,[.val (.int .i64 0),.val (.int .i64 0),.val (.int .i64 0),.val (.string ((⟨#[]⟩:ByteArray))),.list ([]) .full,.list ([]) .full],[.val (.int .i64 a1.kind),.val (.int .i64 a1.int),.val (.int .i64 a1.scale),.val (.string a1.text),.list (a1.list.map A1) .none,LF l j.length]]++Xk7),Rk7,L⟩∧Owns Rw Rk7 [] .none [(l,7,j.flatMap fun x=>(BI x).cells)]∧LQ n a1 j=some r) ?_ ?_
 ·intro K8 af
  apply Ad
  refine rg [2,3,4,6,7,17] hs ?_
  refine AP false ev (ef hs) (fun hb10=>by cases hb10) (fun hb10=>?_)
  refine rg [2,3,4,6,7,48] hs ?_
  refine AP true ev (ef hs) (fun hb12=>?_) (fun hb12=>by cases hb12)
  have hs:=And.intro (Vl.cs_eqs a1) hs
  refine rg [2,3,4,6,7] hs ?_
  refine rg [2,3,6,7,54,55,56] hs ?_
  apply Ad
  refine QJ (B.length+3) 5 (by simp only [HL,Gs,HG,Gx];rfl) rfl ?_;simp +decide only [go_sem,Nat.reduceAdd,List.set_cons_zero,List.set_cons_succ]
  have k:=k.nilV 7
  refine Ap (fun m e st=>∃ (g:Int) (d:List (ByteArray × Vl)) (c:VO) (Xl15:List (List AV)) (Rl15:List RowA),e=[(2,true,.clo fa2 ca2),(3,true,.box B.length 0),(6,true,.box (B.length+2) 0),(7,true,.box (B.length+3) 0),(54,true,.list (a1.fields.map BI) .none),(55,true,.val (.int .i64 (a1.fields.length:Int))),(56,true,.val (.int .i64 g))]∧st=⟨B++([a0.cs,a1.cs,[.val (.int .i64 0),.val (.int .i64 0),.val (.int .i64 0),.val (.string ((⟨#[]⟩:ByteArray))),.list ([]) .full,.list ([]) .full],[.val (.int .i64 a1.kind),.val (.int .i64 a1.int),.val (.int .i64 a1.scale),.val (.string a1.text),.list (a1.list.map A1) .none,LF c d.length]]++Xl15),Rl15,L⟩∧Owns Rw Rl15 [] .none [(c,7,d.flatMap fun x=>(BI x).cells)]∧Dq n a0 a1 a2 m g d=some r) n ⟨0,([]),.nil,([]),Rw,ef hs,ef hs,Owns.eqV (k) fn_,h⟩ ?_
  rintro ml15 e st ⟨g,d,c,Xl15,Rl15,rfl,rfl,k,h⟩ Ul15 Vl15
  cases ml15 with
  | zero=>cases h
  | succ ml15 =>
  rw [Dq] at h
  have y:=k.underV
  simp only [List.mem_cons,List.not_mem_nil,or_false,forall_eq_or_imp,forall_eq] at y
  refine AH hN G F rfl q k (Jm o k) (Jm o k) ?_ (vu @PH)
  refine rg [2,3,6,7,54,55,56,57] hs ?_
  apply Aa;intro K18 N
  refine Av h hs (fun hs h=>?_) (fun hs h=>?_)
  rotate_left
  ·refine sx [6,7] hs af ?_
   exact ⟨d,c,([]),Rl15,ef hs,ef hs,Owns.eqV (k) fn_,h⟩
  refine sk [2,3,6,7,54,55,56] hs N ?_
  clear N
  apply Aa;intro K20 K
  apply Ad
  obtain ⟨u,Z,h⟩:=bind_some h
  obtain ⟨ae,ad,Q⟩:=Ao Z
  have U:=Aq (f:=BI) Q
  have hs:=And.intro U hs
  refine rg [2,3,6,7,11,54,55,56] hs ?_
  refine Ak (fun e st=>∃ (a:List (ByteArray × Vl)) (b:ByteArray × Vl) (i:VO) (p:List AV) (Xk24:List (List AV)) (Rk24:List RowA),e=[(2,true,.clo fa2 ca2),(3,true,.box B.length 0),(6,true,.box (B.length+2) 0),(7,true,.box (B.length+3) 0),(11,true,.box (B.length+4) 0),(54,true,.list (a1.fields.map BI) .none),(55,true,.val (.int .i64 (a1.fields.length:Int))),(56,true,.val (.int .i64 g))]∧st=⟨B++([a0.cs,a1.cs,[.val (.int .i64 0),.val (.int .i64 0),.val (.int .i64 0),.val (.string ((⟨#[]⟩:ByteArray))),.list ([]) .full,.list ([]) .full],[.val (.int .i64 a1.kind),.val (.int .i64 a1.int),.val (.int .i64 a1.scale),.val (.string a1.text),.list (a1.list.map A1) .none,LF i a.length],p]++Xk24),Rk24,L⟩∧Owns Rw Rk24 [] .none [(i,7,a.flatMap fun x=>(BI x).cells)]∧p.map AV.pubCell = .val (.string b.1)::(b.2.cs)∧Fh n (Dq n a0 a1 a2 ml15) g a b=some r) ?_ ?_
  ·intro K25 O
   obtain ⟨t,V,h⟩:=bind_some h
   refine rc 2 [2,3,6,7,11,12,13,54,55,56] hs ?_;intro K26 H
   refine Ab _ (FI w0 n _ _ _ a0 u.1 _ V) (hv hs) ?_
   refine ne hs H ?_
   clear H
   refine rg [2,3,6,7,11,12,54,55,56,67] hs ?_
   refine Av h hs (fun hs h=>?_) (fun hs h=>?_)
   ·obtain ⟨w,Y,h⟩:=bind_some h
    have hs:=And.intro (Vl.cs_eqs u.2) hs
    have hs:=And.intro (Vl.cs_eqs w) hs
    refine rk 2 [2,3,6,7,11,54,55,56] hs ?_
    refine FY _ (ha2 t.1.2.2.2.1 u.2 _ Y _ _ px k.pre) (hv hs) ?_
    refine ne hs O ?_
    exact ⟨d,((u.1,w)),c,([.val (.string u.1),.val (.int .i64 w.kind),.val (.int .i64 w.int),.val (.int .i64 w.scale),.val (.string w.text),.list (w.list.map A1) .none,.list (w.fields.map BI) .none]),([.val (.int .i64 t.1.1)::(.val (.string t.1.2.1)::(.val (.int .i64 t.1.2.2.1)::((t.1.2.2.2.1.cs)++([.list (t.1.2.2.2.2.map A1) .none]))))]),Rl15,ef (cm hs),ef (cm hs),Owns.eqV (k) fn_,ef (cm hs),h⟩
   refine sk [2,3,6,7,11,54,55,56] hs O ?_
   exact ⟨d,u,c,(.val (.string u.1)::(u.2.cs)),([.val (.int .i64 t.1.1)::(.val (.string t.1.2.1)::(.val (.int .i64 t.1.2.2.1)::((t.1.2.2.2.1.cs)++([.list (t.1.2.2.2.2.map A1) .none]))))]),Rl15,ef (cm hs),ef (cm hs),Owns.eqV (k) fn_,ef (cm hs),h⟩
  ·clear h;rintro e st ⟨a,b,i,p,Xk24,Rk24,rfl,rfl,k,aa,h⟩
   rw [Fh] at h
   refine LN (B.length+4) (by first | rfl | (simp only [HL,Gs,HG,Gx];rfl)) aa ?_;simp +decide only [go_sem,Nat.reduceAdd]
   show Gq _ _ _ _ _ _ _ _ [(2,true,.clo fa2 ca2),(3,true,.box B.length 0),(6,true,.box (B.length+2) 0),(7,true,.box (B.length+3) 0),(11,true,.box (B.length+4) 0),(54,true,.list (a1.fields.map BI) .none),(55,true,.val (.int .i64 (a1.fields.length:Int))),(56,true,.val (.int .i64 g))] ⟨B++([a0.cs,a1.cs,[.val (.int .i64 0),.val (.int .i64 0),.val (.int .i64 0),.val (.string ((⟨#[]⟩:ByteArray))),.list ([]) .full,.list ([]) .full],[.val (.int .i64 a1.kind),.val (.int .i64 a1.int),.val (.int .i64 a1.scale),.val (.string a1.text),.list (a1.list.map A1) .none,LF i a.length],.val (.string b.1)::(b.2.cs)]++Xk24),Rk24,L⟩
   have y:=k.underV
   simp only [List.mem_cons,List.not_mem_nil,or_false,forall_eq_or_imp,forall_eq] at y
   refine AH hN G F rfl q k (Jm o k) (Jm o k) ?_ (vu @PH)
   obtain ⟨J,h⟩:=Ac h
   obtain ⟨ab,E,k,C⟩:=k.appendV (P:=Tryz.prog) (n:=a.length) (m:=1) LV (by rw [HF];rfl) (by decide) ((Jv (f:=BI) (sz:=7) (fun _=>by simp +decide only [go_sem]) _)) (by decide) J.1 J.2 [BI b] rfl ((a++[b]).flatMap fun x=>(BI x).cells) (by simp only [List.flatMap_append,List.flatMap_cons,List.flatMap_nil,List.append_nil,List.nil_append,YI])
   simp only [List.mem_singleton,forall_eq,Fp,FA,FH,FB,FC,E1,D6,DY,Fj,CO,CH,D7,D3,D5] at C
   have hs:=And.intro C hs
   refine rl [2,3,6,7,54,55,56] hs K ?_
   clear K
   obtain ⟨ah,h⟩:=Ac h
   refine rl [2,3,6,7,54,55,56] hs (fun e s=>Vl15 ml15 e s (Nat.lt_succ_self _)) ?_
   exact ⟨(g+1),(a++[b]),ab,([.val (.string b.1)::(b.2.cs)]),E,ef hs,ef hs,Owns.eqV (k) fn_,h⟩
 ·clear h;rintro e st ⟨j,l,Xk7,Rk7,rfl,rfl,k,h⟩
  rw [LQ] at h
  have y:=k.underV
  simp only [List.mem_cons,List.not_mem_nil,or_false,forall_eq_or_imp,forall_eq] at y
  refine AH hN G F rfl q k (Jm o k) (Jm o k) ?_ (vu @PH)
  refine rg [6] hs ?_
  apply AW;simp +decide only [go_sem,Nat.reduceAdd,z,D]
  have hgt:=Option.some.inj h;subst hgt
  have y:=k.underV
  simp only [List.mem_cons,List.not_mem_nil,or_false,forall_eq_or_imp,forall_eq] at y
  refine ZhK k q rfl (by (simp +decide only [go_sem,Nat.reduceAdd,z,D])<;>(try (repeat' apply And.intro))<;>first | omega | assumption) (vu @PH) ⟨_,_,?_,rfl,k.sub (List.nil_sublist _)⟩
  first | rfl | (simp +decide only [go_sem,Nat.reduceAdd,z,D];done) | (simp +decide only [go_sem,Nat.reduceAdd,Vl.cs,Ty.cs,z,D];done)
end Go.Proofs.YtgpmlelfkjfbiaaGreatDoor
