/-
  Part 7 of the proof: rules and walks that the claim's last text uses.
-/
import Derived.Test.YtgpmlelfkjfbiaaGreatDoorSl6
set_option linter.unusedSimpArgs false
set_option linter.unusedVariables false
set_option maxRecDepth 100000
set_option maxHeartbeats 4000000
namespace Go.Proofs.YtgpmlelfkjfbiaaGreatDoor
open Go Go.RowKit Go.Ev
theorem Qo (n:Nat) (t:Ty) (w:ByteArray) (hn:t.size+1450000≤n) (ht:t.small) (hk:t.kind=9∨t.kind=10):Jc n t w=some ((A5 t w).getD Ns,(A5 t w).isSome):=by
 have c:Jc n t w=(JE n t (fun x=>some (DR x.2.1 w))).bind fun b=>some (b.1,b.2):=rfl
 have a:A5 t w=Ci t.fields (O0 (fun x:TF=>DR x.2.1 w) t.fields 0):=Zd _ _
 rw [c]
 rcases Zf3 n t (fun x=>DR x.2.1 w) hn ht with ⟨k1,k2,_⟩ | ⟨_,⟨q1,q2⟩ | ⟨j,hj,q1,q2⟩⟩
 ·omega
 ·rw [q2,a,q1];rfl
 ·rw [q2,a,q1,AD hj];rfl
theorem Y5 (rec:Ty→Vl→Option Bool) (d n:Nat) (t:Ty) (v:Vl) (hn:t.size+1450000≤n) (hn2:v.size<n) (hs:v.size≤1000000000) (ht:t.small) (tk:t.kind=9) (vk:v.kind=9)
  (hr:∀ p∈t.fields,∀ q∈v.fields,rec p.2.2.2.1 q.2=some (Ls d p.2.2.2.1 q.2)):∀ (k m i:Nat),i+k=v.fields.length→k<m→It rec n t v m i=some ((v.fields.drop i).all (ZkT d t) && !(t.fields.any (ZbI v)))
 | k,0,i,_,h=>absurd h (Nat.not_lt_zero _)
 | 0,m+1,i,hi,_=>by
  have j:=t.lens.2
  have b:=ht.1
  have e:=Ks n t.fields (fun x=>KI n x v) (ZbI v) (fun x _=>by
   obtain ⟨u,f⟩:=ZbY n v x.2.1 vk hs hn2
   rw [KI,f];rfl) (by omega) (by omega)
  rw [It,Av,Ac (by omega),Af (by decide),Py,e,List.drop_eq_nil_of_le (by omega),List.all_nil,Bool.true_and];rfl
 | k+1,m+1,i,hi,hm=>by
  have a:i<v.fields.length:=by omega
  have g:=PL v
  have ih:=Y5 rec d n t v hn hn2 hs ht tk vk hr k m (i+1) (by omega) (by omega)
  rw [It,Av,Ad a,Ae rfl,AD a,Ab,Qo n t _ hn ht (.inl tk),Ab,List.drop_eq_getElem_cons a,List.all_cons,ZkT]
  cases c:A5 t v.fields[i].1 with
  | none=>rw [Ae (by rfl)];rfl
  | some p =>
   rw [Af (by simp),Option.getD_some,hr _ (Bg c).1 _ (List.getElem_mem a),Ab]
   simp only
   cases Ls d p.2.2.2.1 v.fields[i].2 with
   | false=>rfl
   | true =>
    rw [Af (by decide),Ae (AA (by omega)),Bool.true_and]
    exact ih
theorem T9:∀ (n d:Nat) (t:Ty) (v:Vl),t.size+1500000≤n→v.size+1500000≤n→v.size≤1000000000→t.small→t.Good→v.Good→t.depth≤d→Jr n t v=some (Ls d t v)
 | 0,d,t,v,h,_,_,_,_,_,_=>by omega
 | n+1,0,t,v,_,_,_,_,_,_,hd=>by have:=t.depth_eq;omega
 | n+1,d+1,t,v,h1,h2,h3,ht,gt,gv,hd=>by
  obtain ⟨F,E,K⟩:=RO (Vd gt)
  obtain ⟨_,C⟩:=KJ (Iz gv)
  have J:=t.lens
  have z:=ht.1
  have D:=Iw v
  have G:=(t.ok_eq.1 ht.2.2).1
  rw [Jr,TQ,Ls]
  by_cases hk:v.kind=t.kind
  rotate_left
  ·rw [Ac hk,Ae (fun q=>hk q.symm)];rfl
  rw [Ad hk,Af (show ¬ (t.kind≠v.kind) from fun q=>q hk.symm)]
  simp only [Bool.not_true,Bool.false_eq_true,if_false]
  have i:t.kind≠3→v.scale=t.scale:=fun q=>by rw [Ty.scale0 E q,Vl.scale0 C (by rw [hk];exact q)]
  rcases Fe F with tk | tk | tk | tk | tk | tk | tk | tk | tk | tk
  ·simp [tk,Do,Rt]
  ·have q:=i (by omega);simp [tk,Do,q]
  ·simp [tk,Do,Bool.and_comm]
  ·have o:=Q5 n t.words v.text (by omega) (by omega)
   have s:(t.words.any fun x=>DR v.text x)=t.words.any fun x=>DR x v.text:=by congr 1;funext x;exact ZbU _ _
   rw [Ac (show ¬ t.kind=2 by omega),Ac (show ¬ t.kind=6 by omega),Ac (show ¬ t.kind=7 by omega),Ac (show ¬ t.kind=3 by omega)]
   simp only [Bool.false_eq_true,if_false]
   rw [Do,Af (by decide),Ad tk,Ae rfl,Af (show ¬ (t.kind=2∨t.kind=6∨t.kind=7) by omega),Af (show ¬ t.kind=3 by omega),Ae tk]
   by_cases G:0<t.words.length
   ·rw [Ae (Ad (by omega)),o,s,Ac (show ¬ (t.words.length:Int)=0 by omega)]
    simp
   ·rw [Af (by rw [decide_eq_true_eq];omega),Ad (show (t.words.length:Int)=0 by omega)]
    have l:t.words=[]:=List.length_eq_zero_iff.1 (by omega)
    rw [l]
    rfl
  ·simp [tk,Do,WQ]
  ·have q:=i (by omega);simp [tk,Do,q]
  ·have q:=i (by omega);simp [tk,Do,q]
  ·obtain ⟨e,k⟩:=gt.own.elem tk
   have f:e∈t.elem:=by rw [k];simp
   have r:Ci t.elem 0=some e:=by rw [k];rfl
   have o:=XC n v.list (fun x=>KG (Jr n) x t) (fun x => !Ls d e x) (fun x j=>by
    have a:=t.elem_size _ f
    have b:=v.list_size x j
    have c:=Ty.depth_elem f
    rw [KG,r,Ab,T9 n d e x (by omega) (by omega) (by omega) (Ty.small_elem ht f) (Dh gt f) (Hf gv (by rw [Bv,Ae (.inl (by omega))];exact j)) (by omega)];rfl) (by omega) (by omega)
   have s:(v.list.all fun x=>t.elem.all fun e=>Ls d e x)=v.list.all fun x=>Ls d e x:=by
    congr 1;funext x;rw [k];simp
   rw [s]
   simp only [tk,Do]
   simp only [show decide ((8:Int)=2)=false from rfl,show decide ((8:Int)=6)=false from rfl,show decide ((8:Int)=7)=false from rfl,show decide ((8:Int)=3)=false from rfl,show decide ((8:Int)=4)=false from rfl,show decide ((8:Int)=5)=false from rfl,decide_true,Bool.false_eq_true,if_false,if_true]
   rw [o]
   unfold WQ
   cases hr:decide (t.min≤(v.list.length:Int))&&decide ((v.list.length:Int)≤t.max) with
   | false=>simp
   | true =>
    simp only [if_true,Ab,Bool.and_true]
    rw [List.not_any_eq_all_not]
    simp
  ·have w:=Y5 (Jr n) d n t v (by omega) (by omega) h3 ht tk (by omega) (fun p g q y=>by
     have a:=t.field_size p g
     have b:=v.field_size q y
     have c:=Ty.depth_field g
     exact T9 n d _ _ (by omega) (by omega) (by omega) (Ty.small_field ht g) (AN gt g) (Hf gv (by rw [Bv,Af (by omega),Ae (by omega)];exact List.mem_map_of_mem y)) (by omega)) v.fields.length n 0 (by omega) (by omega)
   rw [List.drop_zero] at w
   have m:It (Jr n) n t v n 0=_:=w
   simp only [tk,Do]
   simp only [show decide ((9:Int)=2)=false from rfl,show decide ((9:Int)=6)=false from rfl,show decide ((9:Int)=7)=false from rfl,show decide ((9:Int)=3)=false from rfl,show decide ((9:Int)=4)=false from rfl,show decide ((9:Int)=5)=false from rfl,show decide ((9:Int)=8)=false from rfl,show decide ((9:Int)=10)=false from rfl,decide_true,Bool.false_eq_true,if_false,if_true]
   exact m
  ·have u:v.kind=10:=by omega
   obtain ⟨x,j⟩:=W3 gv u
   have e:Do (Jr n) n t v false=some (match A5 t v.text with
    | some p=>v.list.all fun x=>Ls d p.2.2.2.1 x
    | none=>false):=by
    simp only [Do,tk,Qo n t _ (show t.size+1450000≤n by omega) ht (.inr tk),Ab]
    simp only [show decide ((10:Int)=4)=false from rfl,show decide ((10:Int)=5)=false from rfl,show decide ((10:Int)=8)=false from rfl,decide_true,Bool.false_eq_true,if_false,if_true]
    cases c:A5 t v.text with
    | none=>rfl
    | some p =>
     have g:=(Bg c).1
     have a:=t.field_size _ g
     have b:=v.list_size x (by rw [j];simp)
     have c:=Ty.depth_field g
     have H:=T9 n d p.2.2.2.1 x (by omega) (by omega) (by omega) (Ty.small_field ht g) (AN gt g) (Hf gv (by rw [Bv,Ae (.inr u),j];simp)) (by omega)
     rw [j,Ae (by rfl),show Ci [x] 0=some x from rfl,Ab]
     simp [H]
   simp only [tk]
   exact e
theorem ZgA (n:Nat) (t:Ty) (v:Vl) (h1:t.size+1500000≤n) (h2:v.size+1500000≤n) (h3:v.size<1048576) (ht:t.small) (hv:v.ok) (gt:t.Good):JQ n t v=some (decide (Oo v=0)&&Ls 12 t v):=by
 rw [JQ,Xb n v (by omega) h3 hv,Ab]
 by_cases h:Oo v=0
 ·rw [Ad h,Ae rfl,T9 n 12 t v h1 h2 (by omega) ht gt (JR h) ht.2.1];rfl
 ·rw [Ac h,Af (by decide)];rfl
def Zby (P:Prop) (left:Int) (o:Option (Int × Int)):Prop:=∃ e l,o=some (e,l)∧(e=0→0≤l∧l≤left∧P)
theorem Za4 (r:Ty→Int→Int→Option (Int × Int)) (n D:Nat) (t:Ty) (lv:Int) (hlv:0≤lv∧lv≤9) (hn:t.size+2600000≤n) (ht:t.small) (hk:t.kind=9∨t.kind=10) (hg:∀ x∈t.fields,UZ t.kind x)
  (hr:∀ p∈t.fields,∀ left,0≤left→left≤4096→Zby (p.2.2.2.1.Fine D) left (r p.2.2.2.1 (lv+1) left)):∀ (k m i:Nat) (left:Int),i+k=t.fields.length→k<m→0≤left→left≤4096 →
  Zby (∀ p∈t.fields.drop i,p.2.2.2.1.Fine D∧∀ v∈p.2.2.2.2,Oo v=0∧Ls 12 p.2.2.2.1 v=true) left (Dk r n t lv (t.fields.map fun p=>p.2.2.2.1) m i left)
 | k,0,i,_,_,h,_,_=>absurd h (Nat.not_lt_zero _)
 | 0,m+1,i,left,hi,_,h1,h2=>by
  rw [Dk,Av,Ac (show ¬ i<(t.fields.map fun p=>p.2.2.2.1).length by rw [List.length_map];omega)]
  refine ⟨0,left,rfl,fun _=>⟨h1,Int.le_refl _,?_⟩⟩
  rw [List.drop_eq_nil_of_le (by omega)];simp
 | k+1,m+1,i,left,hi,hm,h1,h2=>by
  have d:i<t.fields.length:=by omega
  have c:=List.getElem_mem d
  have s:=ht.1
  have Y:=t.lens
  have f:i<(t.fields.map fun p=>p.2.2.2.1).length:=by rw [List.length_map];exact d
  rw [Dk,Av,Ad f]
  simp only [if_true,AD f,AD d,Ab,List.getElem_map]
  rw [Ae (by unfold B2;omega)]
  obtain ⟨e,l,K,N⟩:=hr _ c left h1 h2
  rw [K,Ab]
  by_cases h0:e=0
  rotate_left
  ·rw [Ac h0]
   exact ⟨e,l,rfl,fun q=>absurd q h0⟩
  obtain ⟨u,w2,o⟩:=N h0
  rw [Ad h0]
  simp only [Bool.not_true,Bool.false_eq_true,if_false]
  rw [Ae (AA (by omega))]
  obtain ⟨G,H,O,F⟩:=Za4 r n D t lv hlv hn ht hk hg hr k m (i+1) l (by omega) (by omega) u (by omega)
  have fin:(∀ v∈t.fields[i].2.2.2.2,Oo v=0∧Ls 12 t.fields[i].2.2.2.1 v=true)→Zby (∀ p∈t.fields.drop i,p.2.2.2.1.Fine D∧∀ v∈p.2.2.2.2,Oo v=0∧Ls 12 p.2.2.2.1 v=true) left (Dk r n t lv (t.fields.map fun p=>p.2.2.2.1) m ((i:Int)+1) l):=fun hd=>by
   refine ⟨G,H,O,fun q=>?_⟩
   obtain ⟨J,Z,C⟩:=F q
   refine ⟨J,by omega,fun x hx=>?_⟩
   rw [List.drop_eq_getElem_cons d] at hx
   rcases List.mem_cons.1 hx with rfl | hx
   ·exact ⟨o,hd⟩
   ·exact C x hx
  obtain ⟨g1,g2,g3,g4⟩:=hg _ c
  by_cases n3:t.fields[i].2.2.1=3
  ·have E:t.kind=9:=by
    rcases hk with hk | hk
    ·exact hk
    ·have:=g2 hk;omega
   obtain ⟨v,hv⟩:=List.length_eq_one_iff.1 (g3 n3)
   have g:Ci t.fields[i].2.2.2.2 0=some v:=by rw [hv];rfl
   obtain ⟨_,o2,U,z⟩:=(t.ok_eq.1 ht.2.2).2.2.2 _ c
   obtain ⟨V,Q,y⟩:=z v (by rw [hv];simp)
   have a:=t.field_size _ c
   have j:=ZgA n t.fields[i].2.2.2.1 v (by omega) (by omega) (by omega) (Ty.small_field ht c) y o.good
   rw [Ad E,Ad n3]
   simp only [if_true,g,Ab,j]
   cases b:decide (Oo v=0)&&Ls 12 t.fields[i].2.2.2.1 v with
   | false=>exact ⟨18,l,rfl,fun q=>absurd q (by decide)⟩
   | true =>
    rw [Bool.and_eq_true,decide_eq_true_eq] at b
    exact fin fun w hw=>by rw [hv,List.mem_singleton] at hw;subst hw;exact b
  ·have hd:t.fields[i].2.2.2.2=[]:=List.length_eq_zero_iff.1 (g4 n3)
   rw [Ac n3]
   simp only [Bool.false_eq_true,if_false,ite_self]
   exact fin fun w hw=>by rw [hd] at hw;simp at hw
theorem N4:∀ (n D:Nat) (t:Ty) (lv left:Int),t.size+2600001≤n→t.small→lv=9-(D:Int)→0≤lv→0≤left→left≤4096→Zby (t.Fine D) left (I9 n t lv left)
 | 0,D,t,_,_,h,_,_,_,_,_=>by omega
 | n+1,D,t,lv,left,h,ht,hD,l1,h1,h2=>by
  have H:=t.lens
  have u:=ht.1
  have c:=Ty.fit_of ht (show t.size+2600000≤n by omega)
  rw [I9,Pv]
  by_cases c1:left=0
  ·rw [Ad c1]
   exact ⟨9,left,rfl,fun q=>absurd q (by decide)⟩
  rw [Ac c1]
  simp only [Bool.false_eq_true,if_false]
  have x:B2 (left-1):=by unfold B2;omega
  by_cases c2:8<lv
  ·rw [Ad c2]
   exact ⟨23,left,rfl,fun q=>absurd q (by decide)⟩
  obtain ⟨d,rfl⟩:∃ d,D=d+1:=⟨D-1,by omega⟩
  rw [Ac c2]
  simp only [Bool.false_eq_true,if_false,Ae x]
  rw [ZfX n t c,Ab]
  by_cases c3:Rh t=0
  rotate_left
  ·rw [Ac c3]
   exact ⟨Rh t,left-1,rfl,fun q=>absurd q c3⟩
  obtain ⟨J,z,E,o,K,v⟩:=U3 c3
  rw [Ad c3]
  simp only [Bool.not_true,Bool.false_eq_true,if_false]
  rw [Zcr n t (by omega) (by omega),Ab]
  by_cases k8:t.kind=8
  ·obtain ⟨F,_,_⟩:=E k8
   obtain ⟨e,he⟩:∃ e,t.elem=[e]:=List.length_eq_one_iff.1 F
   have r:e∈t.elem:=by rw [he];simp
   have G:=t.elem_size e r
   obtain ⟨n',rfl⟩:∃ k,n=k+2:=⟨n-2,by omega⟩
   obtain ⟨i,g,m,j⟩:=N4 (n'+2) d e (lv+1) (left-1) (by omega) (Ty.small_elem ht r) (by omega) (by omega) (by omega) (by omega)
   have hf0:t.fields=[]:=List.length_eq_zero_iff.1 (o (by omega) (by omega))
   have l:B2 (lv+1):=by unfold B2;omega
   rw [XH,Ae k8,he,Dk,Ae (by simp),show Ci [e] 0=some e from rfl,Ab,Ae l,m,Ab]
   by_cases c4:i=0
   ·obtain ⟨b,C,w4⟩:=j c4
    subst c4
    rw [Ac (show ¬ t.kind=9 by omega)]
    simp only [decide_true,Bool.not_true,Bool.false_eq_true,if_false]
    rw [Ae (by decide),Dk,Af (by simp)]
    refine ⟨0,g,rfl,fun _=>⟨b,by omega,?_⟩⟩
    exact .mk d t c3 (fun y hy=>by rw [he,List.mem_singleton] at hy;subst hy;exact w4) (fun y hy=>by rw [hf0] at hy;simp at hy) (fun y hy=>by rw [hf0] at hy;simp at hy)
   ·rw [Ac c4]
    exact ⟨i,g,rfl,fun q=>absurd q c4⟩
  ·rw [XH,Af k8]
   have f:t.elem=[]:=List.length_eq_zero_iff.1 (z k8)
   by_cases k9:t.kind=9∨t.kind=10
   ·rw [Ae k9]
    obtain ⟨i,g,m,j⟩:=Za4 (I9 n) n d t lv ⟨l1,by omega⟩ (by omega) ht k9 v (fun p s a w b=>by
     have:=t.field_size p s
     exact N4 n d p.2.2.2.1 (lv+1) a (by omega) (Ty.small_field ht s) (by omega) (by omega) w b) t.fields.length n 0 (left-1) (by omega) (by omega) (by omega) (by omega)
    refine ⟨i,g,m,fun q=>?_⟩
    obtain ⟨b,C,w4⟩:=j q
    rw [List.drop_zero] at w4
    exact ⟨b,by omega,.mk d t c3 (fun y hy=>by rw [f] at hy;simp at hy) (fun y hy=>(w4 y hy).1) (fun y hy=>(w4 y hy).2)⟩
   ·rw [Af k9]
    have hf0:t.fields=[]:=List.length_eq_zero_iff.1 (o (by omega) (by omega))
    obtain ⟨n',rfl⟩:∃ k,n=k+1:=⟨n-1,by omega⟩
    rw [Dk,Af (by simp)]
    exact ⟨0,left-1,rfl,fun _=>⟨by omega,by omega,.mk d t c3 (fun y hy=>by rw [f] at hy;simp at hy) (fun y hy=>by rw [hf0] at hy;simp at hy) (fun y hy=>by rw [hf0] at hy;simp at hy)⟩⟩
theorem ZdC {c:Int} (h:1≤c):1≤(if 4097<c then 4097 else c)∧(if 4097<c then 4097 else c)≤4097:=by split<;>omega
theorem TY:∀ (n:Nat) (t:Ty),t.size+10≤n→t.small→t.Good→∃ a,D6 n t=some a∧1≤a∧a≤4097
 | 0,t,h,_,_=>by omega
 | n+1,t,h,ht,gt=>by
  have U:=t.lens
  have z:=ht.1
  obtain ⟨Z,O,D,H,F,C⟩:=U3 (Vd gt)
  rw [D6,Jn]
  by_cases k8:t.kind=8
  ·obtain ⟨z1,z2,Y⟩:=D k8
   have u:Ci t.elem 0=some t.elem[0]:=AD (k:=0) (by omega)
   rw [Ad k8,Ae rfl]
   by_cases l:0<t.min
   ·have e:=List.getElem_mem (show 0<t.elem.length by omega)
    have:=t.elem_size _ e
    obtain ⟨a,j,w,x⟩:=TY n t.elem[0] (by omega) (Ty.small_elem ht e) (Dh gt e)
    have y:0≤t.min*a:=Int.mul_nonneg (by omega) (by omega)
    have r:0≤(256-t.min)*a:=Int.mul_nonneg (by omega) (by omega)
    rw [Int.sub_mul] at r
    rw [Ad l,Ae rfl,u,Ab,j,Ab,Ae (by unfold B2;omega),Ae (by unfold B2;omega)]
    exact ⟨_,rfl,ZdC (by omega)⟩
   ·rw [Ac l,Af (by decide)]
    exact ⟨_,rfl,ZdC (by omega)⟩
  rw [Ac k8,Af (by decide)]
  by_cases k10:t.kind=10
  ·have v:=F k10
   have f:=List.getElem_mem v
   have:=t.field_size _ f
   obtain ⟨a,j,w,x⟩:=TY n t.fields[0].2.2.2.1 (by omega) (Ty.small_field ht f) (AN gt f)
   rw [Ad k10,Ae rfl,show Ci t.fields 0=some t.fields[0] from AD (k:=0) v,Ab,j,Ab,Ae (by unfold B2;omega)]
   exact ⟨_,rfl,ZdC (by omega)⟩
  rw [Ac k10,Af (by decide)]
  by_cases k9:t.kind=9
  ·rw [Ad k9,Ae rfl]
   have g:∀ (k m i:Nat) (a:Int),i+k=t.fields.length→k<m→1≤a→a≤2000000*(i+1)→∃ a',BZ (D6 n) n t m a i=some a'∧1≤a'∧a'≤4097:=by
    intro k
    induction k with
    | zero =>
     intro m i a G l p _
     obtain ⟨m,rfl⟩:∃ q,m=q+1:=⟨m-1,by omega⟩
     rw [BZ,Av,Ac (show ¬ i<t.fields.length by omega)]
     exact ⟨_,rfl,ZdC p⟩
    | succ k ih =>
     intro m i a G l p V
     obtain ⟨m,rfl⟩:∃ q,m=q+1:=⟨m-1,by omega⟩
     have d:i<t.fields.length:=by omega
     have b:=List.getElem_mem d
     have a1:=t.field_size _ b
     have o:∀ c:Int,1≤c→c≤2000000*((i:Int)+1+1)→∃ a',Em (D6 n) n (BZ (D6 n) n t m) i c=some a'∧1≤a'∧a'≤4097:=fun c y r=>by
      rw [Em,Ae (AA (by omega))]
      exact ih m (i+1) c (by omega) (by omega) y (by push_cast;exact r)
     rw [BZ,Av,Ad d,Ae rfl,AD d,Ab]
     by_cases n1:t.fields[i].2.2.1=1
     ·obtain ⟨c,j,w,x⟩:=TY n t.fields[i].2.2.2.1 (by omega) (Ty.small_field ht b) (AN gt b)
      rw [Ad n1,Ae rfl,j,Ab,Ae (by unfold B2;omega)]
      exact o _ (by omega) (by omega)
     rw [Ac n1,Af (by decide)]
     by_cases n3:t.fields[i].2.2.1=3
     ·have hd:=(C _ b).2.2.1 n3
      have s:Ci t.fields[i].2.2.2.2 0=some t.fields[i].2.2.2.2[0]:=AD (k:=0) (by omega)
      obtain ⟨_,o2,K,E⟩:=(t.ok_eq.1 ht.2.2).2.2.2 _ b
      obtain ⟨Q,J,N⟩:=E _ (List.getElem_mem (show 0<t.fields[i].2.2.2.2.length by omega))
      have hp:=P3 _ t.fields[i].2.2.2.2[0] 1 (Nat.le_refl _)
      rw [Ad n3,Ae rfl,s,Ab,ZK _ (by omega),Ab,Ae (by unfold B2;omega)]
      exact o _ (by omega) (by omega)
     ·rw [Ac n3,Af (by decide)]
      exact o a p (by omega)
   exact g t.fields.length n 0 1 (by omega) (by omega) (by decide) (by decide)
  ·rw [Ac k9,Af (by decide)]
   exact ⟨_,rfl,ZdC (by omega)⟩
theorem Xt:∀ (n:Nat) (t:Ty),t.size+11≤n→t.small→t.Good→∃ a,Di n t=some a
 | 0,t,h,_,_=>by omega
 | n+1,t,h,ht,gt=>by
  have r:=t.lens
  have l:=ht.1
  obtain ⟨a,p,_,_⟩:=TY n t (by omega) ht gt
  have f:∀ (k m i:Nat) (a:Int),i+k=t.fields.length→k<m→∃ a',Df (Di n) n t m a i=some a':=by
   intro k
   induction k with
   | zero =>
    intro m i a j e
    obtain ⟨m,rfl⟩:∃ q,m=q+1:=⟨m-1,by omega⟩
    rw [Df,Av,Ac (show ¬ i<t.fields.length by omega)]
    exact ⟨_,rfl⟩
   | succ k ih =>
    intro m i a j e
    obtain ⟨m,rfl⟩:∃ q,m=q+1:=⟨m-1,by omega⟩
    have d:i<t.fields.length:=by omega
    have b:=List.getElem_mem d
    have a1:=t.field_size _ b
    obtain ⟨c,g⟩:=Xt n t.fields[i].2.2.2.1 (by omega) (Ty.small_field ht b) (AN gt b)
    rw [Df,Av,Ad d,Ae rfl,AD d,Ab,g,Ab,Ae (AA (by omega))]
    exact ih m (i+1) _ (by omega) (by omega)
  have o:∀ (k m i:Nat) (a:Int),i+k=t.elem.length→k<m→∃ a',Du (Di n) n t m a i=some a':=by
   intro k
   induction k with
   | zero =>
    intro m i a j e
    obtain ⟨m,rfl⟩:∃ q,m=q+1:=⟨m-1,by omega⟩
    rw [Du,Av,Ac (show ¬ i<t.elem.length by omega)]
    exact f t.fields.length n 0 a (by omega) (by omega)
   | succ k ih =>
    intro m i a j e
    obtain ⟨m,rfl⟩:∃ q,m=q+1:=⟨m-1,by omega⟩
    have d:i<t.elem.length:=by omega
    have b:=List.getElem_mem d
    have a1:=t.elem_size _ b
    obtain ⟨c,g⟩:=Xt n t.elem[i] (by omega) (Ty.small_elem ht b) (Dh gt b)
    rw [Du,Av,Ad d,Ae rfl,AD d,Ab,g,Ab,Ae (AA (by omega))]
    exact ih m (i+1) _ (by omega) (by omega)
  rw [Di,Hq,p,Ab]
  exact o t.elem.length n 0 a (by omega) (by omega)
theorem Tu (n:Nat) (t:Ty) (hn:3000000≤n) (ht:t.small):∃ c,EZ n t=some c∧(c=0→t.Fine 8):=by
 have b:=ht.1
 obtain ⟨e,l,d,i⟩:=N4 n 8 t 1 4096 (by omega) ht (by decide) (by decide) (by decide) (by decide)
 rw [EZ,d,Ab]
 by_cases h:e=0
 ·obtain ⟨_,_,g⟩:=i h
  obtain ⟨a,f⟩:=Xt n t (by omega) ht g.good
  rw [Ad h,Af (by decide),f,Ab]
  by_cases c:4096<a
  ·rw [Ad c]
   exact ⟨9,rfl,fun q=>absurd q (by decide)⟩
  ·rw [Ac c]
   exact ⟨0,rfl,fun _=>g⟩
 ·rw [Ac h]
  exact ⟨e,rfl,fun q=>absurd q h⟩
theorem Zey:∀ (d:Nat) (a b:Ty) (v y:Vl),1≤b.kind→v.kind≠0→O9 d a b v=some y→y.kind≠0
 | 0,a,b,v,y,_,_,h=>by simp [O9] at h
 | d+1,a,b,v,y,hb,hv,h=>by
  rw [O9] at h
  split at h
  ·obtain ⟨m,_,h⟩:=Option.bind_eq_some_iff.1 h
   split at h
   ·cases h;show b.kind≠0;omega
   ·cases h
  split at h
  ·cases h
  split at h
  ·split at h
   ·cases h;exact hv
   ·cases h
  split at h
  ·split at h
   ·cases h;exact hv
   ·cases h
  split at h
  ·split at h
   ·cases h;exact hv
   ·cases h
  split at h
  ·split at h
   ·obtain ⟨m,_,h⟩:=Option.bind_eq_some_iff.1 h
    split at h
    ·cases h;simp [Vl.kind]
    ·cases h
   ·cases h
  split at h
  ·obtain ⟨m,_,h⟩:=Option.map_eq_some_iff.1 h
   cases h;simp [Vl.kind]
  split at h
  ·split at h
   ·split at h
    ·obtain ⟨m,_,h⟩:=Option.map_eq_some_iff.1 h
     cases h;simp [Vl.kind]
    ·cases h
   ·cases h
  ·cases h;exact hv
theorem JL:∀ {d:Nat} {t:Ty} {v:Vl},Dp d t v=true→v.kind=t.kind∧1≤t.kind∧t.kind≤10∧AB v=true
 | 0,t,v,h=>by simp [Dp] at h
 | d+1,t,v,h=>by
  rw [Dp] at h
  by_cases c:(t.kind<1∨10<t.kind)∨v.kind≠t.kind∨AB v=false
  ·rw [Ae c] at h;cases h
  ·have q:v.kind=t.kind:=by
    by_cases q:v.kind=t.kind
    ·exact q
    ·exact absurd (.inr (.inl q)) c
   have w:AB v=true:=by
    cases w:AB v with
    | true=>rfl
    | false=>exact absurd (.inr (.inr w)) c
   have z:¬ (t.kind<1∨10<t.kind):=fun z=>c (.inl z)
   exact ⟨q,by omega,by omega,w⟩
theorem PK {t:Ty} (h:0≤AL t):t.kind=2∨t.kind=3:=by
 rw [AL] at h
 by_cases a:t.kind=2
 ·exact .inl a
 rw [Ac a,Af (by decide)] at h
 by_cases b:t.kind=3
 ·exact .inr b
 rw [Ac b,Af (by decide)] at h
 omega
theorem QT {t:Ty} (o:t.Own) (h:t.kind=2∨t.kind=3):AL t=t.scale:=by
 rw [AL]
 by_cases a:t.kind=2
 ·rw [Ad a,Ae rfl,o.noscale (by omega)]
 ·rw [Ac a,Af (by decide),Ad (by omega),Ae rfl]
theorem Q8 {t:Ty} (o:t.Own) (h:t.kind=2∨t.kind=3) : -999999999999999≤t.min∧t.max≤999999999999999:=by
 obtain ⟨a,b,_⟩:=o.bounds (by omega) (by omega)
 have e:AE t.kind=(-999999999999999,999999999999999):=by rcases h with h | h<;>rw [h]<;>decide
 rw [e] at a b
 exact ⟨a,b⟩
theorem GW {n:Int} {t:Ty}:JX n t=true↔t.min≤n∧n≤t.max:=by rw [JX,Bool.and_eq_true,decide_eq_true_eq,decide_eq_true_eq]
theorem Zis (n D:Nat) (a b:Ty) (x:Int) (oa:a.Own) (ob:b.Own) (hD:1≤D) (hn:200<n) (ha:a.kind=2∨a.kind=3) (hb:b.kind=2∨b.kind=3) (hx:JX x a=true) :
  ∃ r1 r2,((Dl n x a.scale b.scale).bind fun y17=>some (Vl.mk b.kind y17.1 b.scale ⟨#[]⟩ [] [],y17.2&&Bo y17.1 b))=some r1∧((Fb n x (b.scale-a.scale)).bind fun y7=>some (Vl.mk b.kind y7.1 b.scale ⟨#[]⟩ [] [],y7.2&&A8 y7.1 b))=some r2 ∧
   Jz D ((JI x a.scale b.scale).bind fun m=>if JX m b=true then some (Vl.mk b.kind m b.scale ⟨#[]⟩ [] []) else none) r1∧Jz D ((JI x a.scale b.scale).bind fun m=>if JX m b=true then some (Vl.mk b.kind m b.scale ⟨#[]⟩ [] []) else none) r2:=by
 have d:=Q8 oa ha
 have i:=Q8 ob hb
 have f:=oa.scale
 have g:=ob.scale
 have hx:=GW.1 hx
 have z:(⟨#[]⟩:ByteArray).size≤1048576:=by decide
 obtain ⟨y,c,hsh⟩:=U1 n x a.scale b.scale (by omega) (by omega) (by omega) hn
 rw [P9 n x a.scale b.scale (by omega) (by omega) (by omega) hn,Ab,c,Ab]
 refine ⟨_,_,rfl,rfl,?_⟩
 cases q:JI x a.scale b.scale with
 | none =>
  rw [q] at hsh
  have e:(y.2&&A8 y.1 b)=false:=by
   rcases hsh with h | ⟨h,h2⟩
   ·rw [h];rfl
   ·rw [h,Bool.true_and,Bool.eq_false_iff]
    intro w
    have:JX y.1 b=true:=w
    rw [GW] at this
    omega
  exact ⟨⟨rfl,Oz _ _ _ _ z,by rw [Le];exact hD⟩,⟨e,Oz _ _ _ _ z,by rw [Le];exact hD⟩⟩
 | some m =>
  rw [q] at hsh
  have hsh:y=(m,true):=hsh
  subst hsh
  refine ⟨?_,?_⟩
  ·exact PS (Oz _ _ _ _ z) (by rw [Le];exact hD)
  ·exact PS (Oz _ _ _ _ z) (by rw [Le];exact hD)
theorem S9 (q:TF→Bool) (w:ByteArray):∀ l:List TF,(l.map fun p=>p.2.1).Nodup→l.find? (fun p=>DR p.2.1 w&&q p)=match l.find? (fun p=>DR p.2.1 w) with | none=>none | some p=>if q p=true then some p else none
 | [],_=>rfl
 | p::r,h=>by
  rw [List.map_cons,List.nodup_cons] at h
  rw [List.find?_cons,List.find?_cons]
  cases c:DR p.2.1 w with
  | false=>rw [Bool.false_and];exact S9 q w r h.2
  | true =>
   rw [Bool.true_and]
   cases z:q p with
   | true=>simp [z]
   | false =>
    simp only [z,Bool.false_eq_true,if_false]
    rw [List.find?_eq_none]
    intro x b a
    rw [Bool.and_eq_true,D5] at a
    exact h.1 (List.mem_map.2 ⟨x,b,by rw [a.1,(D5 _ _).1 c]⟩)
theorem ZbE (rec:Ty→Ty→Vl→Option (Vl × Bool)) (n:Nat) (a b:Ty) (v:Vl) (ha:a.fields.length≤1000000000) (hb:b.fields.length≤1000000000) (hn:b.fields.length<n):∀ (k m i:Nat),i+k=a.fields.length→k<m →
  MN rec n a b v m i=match (a.fields.drop i).find? (fun p=>DR p.2.1 v.text&&(D1 b.fields p.1).isSome) with
   | none=>some (nilV,false)
   | some p=>(Ci v.list 0).bind fun x=>(rec p.2.2.2.1 ((D1 b.fields p.1).getD Ns).2.2.2.1 x).bind fun y=>some (Vl.mk 10 0 0 ((D1 b.fields p.1).getD Ns).2.1 [y.1] [],y.2)
 | k,0,i,_,h=>absurd h (Nat.not_lt_zero _)
 | 0,m+1,i,hi,_=>by
  rw [MN,Av,Ac (by omega),Af (by decide),List.drop_eq_nil_of_le (by omega)];rfl
 | k+1,m+1,i,hi,hm=>by
  have d:i<a.fields.length:=by omega
  rw [MN,Av,Ad d,Ae rfl,AD d,Ab,JD n b _ hb hn,Ab,List.drop_eq_getElem_cons d,List.find?_cons]
  cases c:DR a.fields[i].2.1 v.text&&(D1 b.fields a.fields[i].1).isSome with
  | true =>
   rw [Af (by rw [←Bool.not_and,c];decide)]
  | false =>
   rw [Ae (by rw [←Bool.not_and,c];rfl),Ae (AA (by omega))]
   exact ZbE rec n a b v ha hb hn k m (i+1) (by omega) (by omega)
theorem ML {a b:Int} (h:a=b∨((a=2∨a=3)∧(b=2∨b=3))):Dt a b=true:=by
 simp only [Dt,DV,Bool.or_eq_true,Bool.and_eq_true,decide_eq_true_eq]
 exact h
theorem VK {a b:Int} (h:¬ a=b) (h2:¬ ((a=2∨a=3)∧(b=2∨b=3))):Dt a b=false:=by
 rw [Bool.eq_false_iff]
 intro q
 simp only [Dt,DV,Bool.or_eq_true,Bool.and_eq_true,decide_eq_true_eq] at q
 exact q.elim h h2
theorem KD {D:Nat} {o:Option Vl} {A B:Option (Vl × Bool)} {r1 r2:Vl × Bool} (h1:A=some r1) (h2:B=some r2) (h3:Jz D o r1) (h4:Jz D o r2):∃ r1 r2,A=some r1∧B=some r2∧Jz D o r1∧Jz D o r2:=⟨r1,r2,h1,h2,h3,h4⟩
theorem Y8:∀ (d n K e:Nat) (a b:Ty) (v:Vl),a.small→b.small→a.Good→b.Fine e→v.Nar→v.depth≤K→Dp d a v=true→K+3100000000+d<n →
  ∃ r1 r2,AM n a b v=some r1∧Jq n a b v=some r2∧Jz (K+1048576) (O9 d a b v) r1∧Jz (K+1048576) (O9 d a b v) r2
 | 0,n,K,e,a,b,v,_,_,_,_,_,_,h,_=>by simp [Dp] at h
 | d+1,0,K,e,a,b,v,_,_,_,_,_,_,_,h=>absurd h (by omega)
 | d+1,n+1,K,0,a,b,v,_,_,_,h,_,_,_,_=>by cases h
 | d+1,n+1,0,e+1,a,b,v,_,_,_,_,_,h,_,_=>by have:=v.depth_eq;omega
 | d+1,n+1,K+1,e+1,a,b,v,sa,sb,ga,fb,hv,hvd,i,hn=>by
  have U:=ga.own
  have w:=fb.good.own
  have la:=a.lens
  have lb:=b.lens
  have am:=sa.1
  have ak:=sb.1
  obtain ⟨v1,v2,v3,v4,v5⟩:=hv.inv
  obtain ⟨hk,_,_,ag⟩:=JL i
  have c0:¬ ((a.kind<1∨10<a.kind)∨v.kind≠a.kind∨AB v=false):=by
   rintro (q | q | q)
   ·omega
   ·exact q hk
   ·rw [ag] at q;cases q
  rw [Dp,Af c0] at i
  rw [AM,FP,Jq,Zbo,O9]
  by_cases num:(a.kind=2∨a.kind=3)∧(b.kind=2∨b.kind=3)
  ·have f:JX v.int a=true:=by
    rcases num.1 with q | q
    ·rwa [Ae (.inl q)] at i
    ·rw [Af (by omega),Ae q,Bool.and_eq_true] at i
     exact i.2
   have G:(if decide (b.kind=2)=true then BI (AM n) n a b v true else BI (AM n) n a b v (decide (b.kind=3)))=BI (AM n) n a b v true:=by
    rcases num.2 with q | q
    ·rw [Ad q,Ae rfl]
    ·rw [Ad q];exact ite_self _
   have s1:=U.scale
   have s2:=w.scale
   rw [Ae num,ML (.inr num),Af (by decide),G,BI,Ae rfl,QT U num.1,QT w num.2,Ad s1.1,Ad s2.1,Ae (by rfl),Ae (by unfold B2;omega)]
   exact Zis n _ a b v.int U w (by omega) (by omega) num.1 num.2 f
  have ai:(decide (0≤AL a)&&decide (0≤AL b))=false:=by
   rw [Bool.eq_false_iff]
   intro q
   rw [Bool.and_eq_true,decide_eq_true_eq,decide_eq_true_eq] at q
   exact num ⟨PK q.1,PK q.2⟩
  rw [Af num,ai,Af (show ¬ (false=true) by decide)]
  by_cases ne:a.kind=b.kind
  rotate_left
  ·rw [Ae ne,VK ne num,Ae (by rfl),Ac ne,Ae (by rfl)]
   exact KD rfl rfl (Jo (by omega) rfl) (Jo (by omega) rfl)
  have af:¬ b.kind=2:=fun q=>num ⟨by omega,.inl q⟩
  have ah:¬ b.kind=3:=fun q=>num ⟨by omega,.inr q⟩
  have t:v.depth≤K+1+1048576:=by omega
  rw [Af (show ¬ a.kind≠b.kind from fun q=>q ne),ML (.inl ne),Af (show ¬ ((!true)=true) by decide),Ac af,Af (show ¬ (false=true) by decide),Ac ah,BI,Af (show ¬ (false=true) by decide),Ad ne,Af (show ¬ ((!true)=true) by decide)]
  by_cases k67:b.kind=6∨b.kind=7
  ·have G:(if decide (b.kind=6)=true then BL (AM n) n a b v true else BL (AM n) n a b v (decide (b.kind=7)))=BL (AM n) n a b v true:=by
    rcases k67 with q | q
    ·rw [Ad q,Ae rfl]
    ·rw [Ad q];exact ite_self _
   have N:(if decide (b.kind=6)=true then HA (Jq n) n a b v true else HA (Jq n) n a b v (decide (b.kind=7)))=HA (Jq n) n a b v true:=by
    rcases k67 with q | q
    ·rw [Ad q,Ae rfl]
    ·rw [Ad q];exact ite_self _
   rw [Ae k67,G,BL,Ae rfl,Ac (by omega),Af (by decide),Ac (by omega),Af (by decide),Ac (by omega),Af (by decide),N,HA,Ae rfl]
   exact KD rfl rfl (PS hv t) (PS hv t)
  have n6:¬ b.kind=6:=fun q=>k67 (.inl q)
  have n7:¬ b.kind=7:=fun q=>k67 (.inr q)
  rw [Af k67,Ac n6,Af (show ¬ (false=true) by decide),Ac n7,BL,Af (show ¬ (false=true) by decide),Af (show ¬ (false=true) by decide)]
  by_cases k5:b.kind=5
  ·rw [Ae k5,Ad k5,Ae rfl,Ac (by omega),Af (by decide),Ac (by omega),Af (by decide),Ae rfl]
   exact KD rfl rfl (PS hv t) (PS hv t)
  rw [Af k5,Ac k5,Af (show ¬ (false=true) by decide),Af (show ¬ (false=true) by decide)]
  by_cases k4:b.kind=4
  ·have bw:=(b.ok_eq.1 sb.2.2).1
   rw [Ae k4,Ad k4,Ae rfl,Ac (show ¬ b.kind=1 by omega),Af (show ¬ (false=true) by decide),Ae rfl,XM n v.text b (by omega) (by omega),Ab]
   refine KD (r1:=(v,GA v.text b)) ?_ rfl (PS hv t) (PS hv t)
   rw [GA]
   by_cases q:b.words=[]
   ·rw [Ae q,q,Af (by decide)];rfl
   ·have q0:0<b.words.length:=List.length_pos_iff.2 q
    rw [Af q,Ae (by rw [decide_eq_true_eq];omega),Js n _ b (by omega) (by omega),Ab]
  rw [Af k4,Ac k4,Af (show ¬ (false=true) by decide),Af (show ¬ (false=true) by decide)]
  by_cases k8:b.kind=8
  ·obtain ⟨x,f⟩:=U.elem (by omega)
   obtain ⟨y,O⟩:=w.elem k8
   have j:x∈a.elem:=by rw [f];simp
   have ad:y∈b.elem:=by rw [O];simp
   rw [Af (by omega),Af (by omega),Af (by omega),Af (by omega),Ae (by omega),Bool.and_eq_true,List.all_eq_true] at i
   have Z:∀ u∈v.list,Dp d x u=true:=fun u s=>by have:=i.2 u s;rw [f] at this;exact this
   have ih:=fun u (s:u∈v.list)=>Y8 d n K e x y u (Ty.small_elem sa j) (Ty.small_elem sb ad) (Dh ga j) (fb.elem ad) (v4 u s) (by have:=Vl.depth_list s;omega) (Z u s) (by omega)
   obtain ⟨r1,G,u1⟩:=Zdt (AM n) n (K+1048576) a b x y v (O9 d x y) f O (by omega) (by omega) (fun u s=>by obtain ⟨r1,r2,D,H,m,C⟩:=ih u s;exact ⟨r1,D,m⟩) v.list.length n 0 [] (by omega) (by omega) rfl (by simp)
   obtain ⟨r2,N,Q⟩:=Zbt (Jq n) n (K+1048576) a b x y v (O9 d x y) f O (by omega) (by omega) (fun u s=>by obtain ⟨r1,r2,D,H,m,C⟩:=ih u s;exact ⟨r2,H,C⟩) v.list.length n 0 [] (by omega) (by omega) rfl (by simp)
   rw [Ae k8,Ad k8,Ae rfl,Ac (by omega),Af (by decide),HA,Af (by decide),Ad k8,Ae rfl,f,O]
   rw [List.drop_zero] at u1 Q
   exact KD G N (by rw [Nat.add_right_comm];exact u1) (by rw [Nat.add_right_comm];exact Q)
  rw [Af k8,Ac k8,Af (show ¬ (false=true) by decide)]
  by_cases k9:b.kind=9
  ·rw [Af (by omega),Af (by omega),Af (by omega),Af (by omega),Af (by omega),Ae (by omega),Bool.and_eq_true,List.all_eq_true] at i
   have fx:∀ p∈a.fields,∀ x,B9 v p.2.1=some x→Dp d p.2.2.2.1 x=true:=fun p F x f=>by have:=i.1 p F;rw [f] at this;exact this
   have ih:∀ g∈b.fields,∀ p,D1 a.fields g.1=some p→∀ x,B9 v p.2.1=some x→(∃ r1 r2,AM n p.2.2.2.1 g.2.2.2.1 x=some r1∧Jq n p.2.2.2.1 g.2.2.2.1 x=some r2∧Jz (K+1048576) (O9 d p.2.2.2.1 g.2.2.2.1 x) r1∧Jz (K+1048576) (O9 d p.2.2.2.1 g.2.2.2.1 x) r2)∧∀ y,O9 d p.2.2.2.1 g.2.2.2.1 x=some y→y.kind≠0:=fun g k p F x f=>by
    have l:p∈a.fields:=List.mem_of_find?_eq_some F
    have V:=fx p l x f
    obtain ⟨q,hq,_,rfl⟩:=H6 f
    have fk:=JL V
    have gk:=(AN fb.good k).own.kind
    exact ⟨Y8 d n K e _ _ _ (Ty.small_field sa l) (Ty.small_field sb k) (AN ga l) (fb.field k) (v5 q hq).2 (by have:=Vl.depth_fld hq;omega) V (by omega),fun y O=>Zey d _ _ _ y gk.1 (by omega) O⟩
   have hc:∀ q∈v.fields,BU n q.2=some q.2:=fun q hq=>Il n q.2 (v5 q hq).2 (by have:=Vl.depth_fld hq;omega)
   have Y:=(b.ok_eq.1 sb.2.2).2.2.2
   have ae:∀ g∈b.fields,g.2.2.1=3→∃ x,g.2.2.2.2=[x]∧x.Nar∧x.depth≤K+1048576∧x.kind≠0:=fun g k m=>by
    obtain ⟨x,f⟩:=List.length_eq_one_iff.1 ((w.each g k).2.2.2.2.1 m)
    have j:x∈g.2.2.2.2:=by rw [f];simp
    obtain ⟨z1,z2,z3⟩:=(Y g k).2.2.2 x j
    have:=ZaQ (JR (fb.dfl k x j).1)
    exact ⟨x,f,OT x.size x (Nat.le_refl _) (by omega) z3,by omega,by omega⟩
   have H1:RecH (AM n) n (K+1048576) a b v (O9 d):=⟨by omega,by omega,by omega,by omega,by omega,by omega,hc,fun g k=>(Y g k).1,fun g k p F x f=>by obtain ⟨⟨r1,r2,D,H,m,C⟩,h5⟩:=ih g k p F x f;exact ⟨r1,D,m,h5⟩,ae⟩
   have H2:RecH (Jq n) n (K+1048576) a b v (O9 d):=⟨by omega,by omega,by omega,by omega,by omega,by omega,hc,fun g k=>(Y g k).1,fun g k p F x f=>by obtain ⟨⟨r1,r2,D,H,m,C⟩,h5⟩:=ih g k p F x f;exact ⟨r2,H,C,h5⟩,ae⟩
   have A0:Acc (K+1048576) b 0 []:=⟨Nat.le_refl _,by simp,by rw [List.map_nil,List.nil_append,List.drop_zero];exact (FU _ _ _ w.apart).1⟩
   obtain ⟨r1,G,u1⟩:=ZgP H1 b.fields.length n 0 [] (by omega) (by omega) A0
   obtain ⟨r2,N,Q⟩:=ZbM H2 b.fields.length n 0 [] (by omega) (by omega) A0
   rw [show Bz []=[] from List.length_eq_zero_iff.1 (by rw [Gi];rfl)] at N
   have aj:Eu (AM n) n a b v=some r1:=G
   rw [Ae k9,Ad k9,Ae rfl,aj,Ab,Ac (by omega),Af (by decide),HA,Af (by decide),Ac (by omega),Af (by decide),Ac (by omega),Af (by decide),W6]
   rw [List.drop_zero] at u1 Q
   exact KD rfl N (by rw [Nat.add_right_comm];exact u1) (by rw [Nat.add_right_comm];exact Q)
  rw [Af k9,Ac k9,Af (show ¬ (false=true) by decide)]
  by_cases k10:b.kind=10
  ·rw [Af (by omega),Af (by omega),Af (by omega),Af (by omega),Af (by omega),Af (by omega),Ae (by omega)] at i
   rw [Ae k10,Ad k10,Ae rfl,Ac (by omega),Af (by decide),HA,Af (by decide),Ac k8,Af (by decide),Ad k10,Ae rfl,Qo n a v.text (by omega) sa (by omega),Ab]
   have E:=ZbE (Jq n) n a b v (by omega) (by omega) (by omega) a.fields.length n 0 (by omega) (by omega)
   rw [List.drop_zero,S9 (fun p=>(D1 b.fields p.1).isSome) v.text a.fields (FU _ _ _ U.apart).1] at E
   cases c:A5 a v.text with
   | none=>rw [c] at i;simp at i
   | some p =>
    have c':a.fields.find? (fun p=>DR p.2.1 v.text)=some p:=c
    cases hl:v.list with
    | nil=>rw [c,hl] at i;simp at i
    | cons x xs =>
     rw [c,hl] at i
     have i:Dp d p.2.2.2.1 x=true:=i
     have j:x∈v.list:=by rw [hl];simp
     have l:=(Bg c).1
     rw [c',hl] at E
     simp only [Option.getD_some]
     rw [Ru n b.fields _ (by omega) (by omega),Ab]
     cases g:D1 b.fields p.1 with
     | none =>
      simp only [g,Option.isSome_none,Bool.false_eq_true,if_false] at E
      rw [Ae (by rfl)]
      exact KD rfl E (Jo (by omega) rfl) (Jo (by omega) rfl)
     | some q =>
      have J:q∈b.fields:=List.mem_of_find?_eq_some g
      simp only [g,Option.isSome_some,if_true,Option.getD_some] at E
      obtain ⟨r1,r2,D,H,m,C⟩:=Y8 d n K e p.2.2.2.1 q.2.2.2.1 x (Ty.small_field sa l) (Ty.small_field sb J) (AN ga l) (fb.field J) (v4 x j) (by have:=Vl.depth_list j;omega) i (by omega)
      have Y:=((b.ok_eq.1 sb.2.2).2.2.2 q J).1
      have aa:∀ {o:Option Vl} {r:Vl × Bool},Jz (K+1048576) o r→(Vl.mk 10 0 0 q.2.1 [r.1] []).Nar∧(Vl.mk 10 0 0 q.2.1 [r.1] []).depth≤K+1+1048576:=fun {o r} u=>by
       refine ⟨.mk _ (by simp [Vl.list]) (by simp [Vl.fields]) Y (fun z hz=>?_) (by simp [Vl.fields]) (by simp [Vl.fields]),?_⟩
       ·have hz:z∈[r.1]:=hz
        rw [List.mem_singleton] at hz;subst hz;exact u.2.1
       ·have:=u.2.2
        simp only [Vl.depth,Ft,Fo];omega
      have fin:∀ {o:Option Vl} {r:Vl × Bool},Jz (K+1048576) o r→Jz (K+1+1048576) (o.map fun y=>Vl.mk 10 0 0 q.2.1 [y] []) (Vl.mk 10 0 0 q.2.1 [r.1] [],r.2):=fun {o r} u=>by
       obtain ⟨b1,b2⟩:=aa u
       refine ⟨?_,b1,b2⟩
       have u1:=u.1
       cases o with
       | none=>exact u1
       | some y =>
        have u1:r=(y,true):=u1
        subst u1;rfl
      rw [show Ci (x::xs) 0=some x from rfl,Ab,H,Ab] at E
      have ab:JA n q.2.1 r1.1=some (Vl.mk 10 0 0 q.2.1 [r1.1] []):=by
       obtain ⟨b1,b2⟩:=aa m
       rw [JA,Il n _ b1 (by omega)];rfl
      rw [Af (by simp),show Ci (x::xs) 0=some x from rfl,Ab,Option.getD_some,D,Ab,ab,Ab]
      simp only [g]
      exact KD rfl E (fin m) (fin C)
  ·have k1:b.kind=1:=by have:=w.kind;omega
   rw [Af k10,Ac k10,Af (show ¬ (false=true) by decide),GT,Ad k1,Ae rfl]
   exact KD rfl rfl ⟨rfl,hv,t⟩ ⟨rfl,hv,t⟩
theorem Uk:∀ (l:List ByteArray) (o:Option ByteArray),Nl o l=0→∀ w∈l,EU w=true
 | [],_,_,w,hw=>by simp at hw
 | x::r,o,h,w,hw=>by
  have a:EU x=true∧Nl (some x) r=0:=by
   by_cases h0:EU x=true
   ·refine ⟨h0,?_⟩
    cases o with
    | none=>rw [Nl,Ae h0] at h;exact h
    | some p =>
     rw [Nl,Ae h0] at h
     by_cases h1:DR x p=true
     ·rw [Ae h1] at h;exact absurd h (by decide)
     rw [Af h1] at h
     by_cases h2:WL x p=true
     ·rw [Ae h2] at h;exact absurd h (by decide)
     rw [Af h2] at h;exact h
   ·cases o with
    | none=>rw [Nl,Af h0] at h;exact absurd h (by decide)
    | some p=>rw [Nl,Af h0] at h;exact absurd h (by decide)
  rcases List.mem_cons.1 hw with rfl | hw
  ·exact a.1
  ·exact Uk r _ a.2 w hw
structure Vl.Own (v:Vl):Prop where
 kind:1≤v.kind∧v.kind≤10
 nolist:v.kind≠8→v.kind≠10→v.list=[]
 nofields:v.kind≠9→v.fields=[]
 text:v.text.size≤1024
 names:∀ p∈v.fields,p.1.size≤32
theorem Vl.own_of {v:Vl} (h:Ep v=0):v.Own:=by
 obtain ⟨n,b⟩:=KJ h
 have f:BJ v=false:=Zb2 (by omega)
 have k:v.kind≠8→v.kind≠10→v.list=[]:=fun q i=>by
  rcases Nat.eq_zero_or_pos v.list.length with e | e
  ·exact List.length_eq_zero_iff.1 e
  ·exfalso;apply b;rw [A1];simp [q,i];omega
 have d:v.kind≠9→v.fields=[]:=fun q=>by
  rcases Nat.eq_zero_or_pos v.fields.length with e | e
  ·exact List.length_eq_zero_iff.1 e
  ·exfalso;apply b;rw [A1];simp [q];omega
 have l:v.kind≠4→v.kind≠5→v.kind≠10→v.text.size=0:=fun m j g=>by
  cases hs:DR v.text ⟨#[]⟩ with
  | true=>exact Zb7 hs
  | false=>exfalso;apply b;rw [A1];simp [m,j,g,hs]
 rw [Ep,f,Af (by decide),Af n,Af b] at h
 have nm:v.kind=9→∀ p∈v.fields,p.1.size≤32:=fun c p a=>by
  rw [Af (by omega),Af (by omega),Af (by omega),Af (by omega),Af (by omega),Af (by omega),Af (by omega),Af (by omega),Ae c] at h
  by_cases q:64<v.fields.length
  ·rw [Ae q] at h;exact absurd h (by decide)
  rw [Af q] at h
  exact Zf (Uk _ _ h p.1 (List.mem_map_of_mem a))
 refine ⟨by omega,k,d,?_,fun p a=>?_⟩
 ·by_cases k4:v.kind=4
  ·rw [Af (by omega),Af (by omega),Af (by omega),Ae k4] at h
   by_cases q:1024<v.text.size
   ·rw [Ae q] at h;exact absurd h (by decide)
   ·omega
  by_cases k5:v.kind=5
  ·rw [Af (by omega),Af (by omega),Af (by omega),Af (by omega),Ae k5] at h
   by_cases q:1024<v.text.size
   ·rw [Ae q] at h;exact absurd h (by decide)
   ·omega
  by_cases k10:v.kind=10
  ·rw [Af (by omega),Af (by omega),Af (by omega),Af (by omega),Af (by omega),Af (by omega),Af (by omega),Af (by omega),Af (by omega)] at h
   by_cases q:EU v.text=true
   ·have:=Zf q;omega
   ·rw [Af q] at h;exact absurd h (by decide)
  ·have:=l k4 k5 k10;omega
 ·by_cases c:v.kind=9
  ·exact nm c p a
  ·rw [d c] at a;simp at a
theorem Vl.Good.own {v:Vl} (h:v.Good):v.Own:=Vl.own_of (Iz h)
theorem RP:∀ (k:Nat) (v:Vl) (lv:Nat),v.size≤k→v.Good→(Ff lv v).length=v.size
 | 0,v,lv,h,_=>absurd h (by have:=v.size_eq;omega)
 | k+1,v,lv,h,g=>by
  have own:=g.own
  rw [L9,List.length_cons,List.length_flatMap]
  have b:((Bv v).map fun x=>(Ff (lv+1) x).length)=(Bv v).map Vl.size:=List.map_congr_left fun x a=>RP k x (lv+1) (by have:=HW a;omega) (Hf g a)
  rw [b]
  have c:=v.size_eq
  by_cases k8:v.kind=8∨v.kind=10
  ·rw [Bv,Ae k8,←U5]
   rw [own.nofields (by omega)] at c
   simp only [Db] at c
   omega
  by_cases k9:v.kind=9
  ·rw [Bv,Af k8,Ae k9,List.map_map]
   have:=Ou v.fields
   have e:(v.fields.map (Vl.size∘fun x=>x.2)).sum=Db v.fields:=this.symm
   rw [own.nolist (by omega) (by omega)] at c
   simp only [Ea] at c
   omega
  ·rw [Bv,Af k8,Af k9]
   rw [own.nolist (by omega) (by omega),own.nofields k9] at c
   simp only [Ea,Db] at c
   simp;omega
theorem Vl.depth_part {v x:Vl} (h:x∈Bv v):x.depth<v.depth:=by
 have e:=v.depth_eq
 rcases Pm h with hx | ⟨p,hp,rfl⟩
 ·have:=(Ho v.list (Ft v.list)).1 (Nat.le_refl _) x hx;omega
 ·have:=(Ia v.fields (Fo v.fields)).1 (Nat.le_refl _) p hp;omega
theorem Zbm:∀ (k:Nat) (v:Vl) (lv:Nat),v.size≤k→v.Good→∀ p∈Ff lv v,Ep p.2=0∧p.1+1≤lv+v.depth
 | 0,v,lv,h,_=>absurd h (by have:=v.size_eq;omega)
 | k+1,v,lv,h,g=>by
  intro p hp
  rw [L9] at hp
  rcases List.mem_cons.1 hp with rfl | hp
  ·have:=v.depth_eq;exact ⟨Iz g,by simp only;omega⟩
  ·obtain ⟨x,a,hp⟩:=List.mem_flatMap.1 hp
   have:=Zbm k x (lv+1) (by have:=HW a;omega) (Hf g a) p hp
   have:=Vl.depth_part a
   exact ⟨by omega,by omega⟩
theorem W7:∀ (l:List (Nat × Vl)) (c:Int),(∀ p∈l,Ep p.2=0∧p.1≤8)→c+l.length≤4096→PZ l c=0
 | [],_,_,_=>rfl
 | p::r,c,h,hc=>by
  have b:=h p (List.mem_cons_self ..)
  rw [List.length_cons] at hc
  rw [PZ,Af (by omega),Af (by omega),Ae b.1]
  exact W7 r (c+1) (fun q a=>h q (List.mem_cons_of_mem _ a)) (by omega)
theorem Y2 {v:Vl} (g:v.Good) (hd:v.depth≤8) (hs:v.size≤4096):Oo v=0:=by
 refine W7 _ 0 (fun p a=>?_) ?_
 ·have:=Zbm v.size v 1 (Nat.le_refl _) g p a
  exact ⟨this.1,by omega⟩
 ·rw [RP v.size v 1 (Nat.le_refl _) g];omega
theorem ZaI (k i s:Int) (t:ByteArray) (L:List Vl) (F:List (ByteArray × Vl)) (B:Nat) (ht:t.size≤1048576) (hL:L.length≤100000000) (hF:F.length≤100000000) (h1:∀ x∈L,x.Nar∧x.depth≤B) (h2:∀ p∈F,p.1.size≤1048576∧p.2.Nar∧p.2.depth≤B):(Vl.mk k i s t L F).Nar∧(Vl.mk k i s t L F).depth≤B+1:=by
 refine ⟨.mk _ hL hF ht (fun x d=>(h1 x d).1) (fun p c=>(h2 p c).1) (fun p c=>(h2 p c).2.1),?_⟩
 have a:=(Ho L B).2 fun x d=>(h1 x d).2
 have b:=(Ia F B).2 fun p c=>(h2 p c).2.2
 simp only [Vl.depth];omega
theorem ZY:∀ (ps:List TF) (l:List (ByteArray × Vl)),(O2 ps l).length≤l.length+ps.length∧∀ q∈O2 ps l,q∈l∨∃ p∈ps,q.1=p.2.1∧q.2∈p.2.2.2.2
 | [],l=>⟨Nat.le_refl _,fun q e => .inl e⟩
 | p::ps,l=>by
  have d:∀ f,f.length≤l.length+1→(∀ q∈f,q∈l∨(q.1=p.2.1∧q.2∈p.2.2.2.2))→(O2 ps f).length≤l.length+(p::ps).length∧∀ q∈O2 ps f,q∈l∨∃ x∈p::ps,q.1=x.2.1∧q.2∈x.2.2.2.2:=fun f j i=>by
   obtain ⟨a,b⟩:=ZY ps f
   refine ⟨by rw [List.length_cons];omega,fun q e=>?_⟩
   rcases b q e with h | ⟨x,g,h⟩
   ·rcases i q h with h | h
    ·exact .inl h
    ·exact .inr ⟨p,List.mem_cons_self .., h⟩
   ·exact .inr ⟨x,List.mem_cons_of_mem _ g,h⟩
  rw [O2]
  cases c:Zdj p with
  | none=>exact d l (by omega) fun q e => .inl e
  | some x =>
   have g:x∈p.2.2.2.2:=by
    rw [Zdj] at c
    split at c
    ·exact List.mem_of_getElem? c
    ·cases c
   simp only
   split
   ·exact d l (by omega) fun q e => .inl e
   ·refine d _ (by rw [ZI];omega) fun q e=>?_
    rcases List.mem_cons.1 ((SG l p.2.1 x).mem_iff.1 e) with rfl | h
    ·exact .inr ⟨rfl,g⟩
    ·exact .inl h
theorem O1:∀ (d:Nat) (t:Ty) (v:Vl),t.small→v.ok→v.size≤1048576→(Cb d t v).Nar∧(Cb d t v).depth≤v.depth+1048576
 | 0,t,v,_,hv,hs=>⟨OT v.size v (Nat.le_refl _) hs hv,by rw [Cb];omega⟩
 | d+1,t,v,ht,hv,hs=>by
  have f:v.Nar∧v.depth≤v.depth+1048576:=⟨OT v.size v (Nat.le_refl _) hs hv,by omega⟩
  have N:=Iw v
  have U:=t.lens
  have J:=ht.1
  obtain ⟨o,w,l⟩:=v.ok_eq.1 hv
  obtain ⟨O,H,V,s⟩:=t.ok_eq.1 ht.2.2
  have G:=v.depth_eq
  have r:∀ u∈v.list,u.Nar∧u.depth≤v.depth-1+1048576:=fun u i=>⟨OT u.size u (Nat.le_refl _) (by have:=v.list_size u i;omega) (w u i),by have:=Vl.depth_list i;omega⟩
  have k:∀ q∈v.fields,q.1.size≤1048576∧q.2.Nar∧q.2.depth≤v.depth-1+1048576:=fun q g=>⟨(l q g).1,OT q.2.size q.2 (Nat.le_refl _) (by have:=v.field_size q g;omega) (l q g).2,by have:=Vl.depth_fld g;omega⟩
  have cl:∀ x,x.small→∀ u∈v.list,(Cb d x u).Nar∧(Cb d x u).depth≤v.depth-1+1048576:=fun x hx u i=>by
   obtain ⟨a,b⟩:=O1 d x u hx (w u i) (by have:=v.list_size u i;omega)
   exact ⟨a,by have:=Vl.depth_list i;omega⟩
  have D:∀ x,x.small→∀ q∈v.fields,(Cb d x q.2).Nar∧(Cb d x q.2).depth≤v.depth-1+1048576:=fun x hx q g=>by
   obtain ⟨a,b⟩:=O1 d x q.2 hx (l q g).2 (by have:=v.field_size q g;omega)
   exact ⟨a,by have:=Vl.depth_fld g;omega⟩
  have up:v.depth-1+1048576+1=v.depth+1048576:=by omega
  rw [Cb]
  split
  ·exact f
  split
  ·rename_i k9
   have m:DL (Cb d) t v=V9 v (v.fields.map fun q=>match A5 t q.1 with | some p=>(q.1,Cb d p.2.2.2.1 q.2) | none=>q):=by rw [DL,Af (by omega),Ae k9];rfl
   have F:∀ q∈(DL (Cb d) t v).fields,q.1.size≤1048576∧q.2.Nar∧q.2.depth≤v.depth-1+1048576:=fun q g=>by
    rw [m] at g
    obtain ⟨z,n,rfl⟩:=List.mem_map.1 (show q∈v.fields.map _ from g)
    cases c:A5 t z.1 with
    | none=>exact k z n
    | some p=>exact ⟨(l z n).1,D _ (Ty.small_field ht (Bg c).1) z n⟩
   have C:(DL (Cb d) t v).fields.length=v.fields.length:=by rw [m];exact List.length_map _
   obtain ⟨a1,a2⟩:=ZY t.fields (DL (Cb d) t v).fields
   have:=ZaI v.kind v.int v.scale v.text v.list (O2 t.fields (DL (Cb d) t v).fields) (v.depth-1+1048576) o (by omega) (by omega) r (fun q g=>by
    rcases a2 q g with h | ⟨p,hp,h1,h2⟩
    ·exact F q h
    ·obtain ⟨K,Q,E⟩:=(s p hp).2.2.2 q.2 h2
     exact ⟨by rw [h1];exact (s p hp).1,OT q.2.size q.2 (Nat.le_refl _) (by omega) E,by omega⟩)
   rw [up] at this
   have e:V9 (DL (Cb d) t v) (O2 t.fields (DL (Cb d) t v).fields)=Vl.mk v.kind v.int v.scale v.text v.list (O2 t.fields (DL (Cb d) t v).fields):=by rw [m];rfl
   rw [e]
   exact this
  ·rename_i k9
   rw [DL]
   split
   ·split
    ·rename_i x he
     have j:x∈t.elem:=by rw [he];simp
     have:=ZaI v.kind v.int v.scale v.text (v.list.map (Cb d x)) v.fields (v.depth-1+1048576) o (by rw [List.length_map];omega) (by omega) (fun y hy=>by
      obtain ⟨u,i,rfl⟩:=List.mem_map.1 hy
      exact cl x (Ty.small_elem ht j) u i) k
     rw [up] at this
     exact this
    ·exact f
   ·split
    ·split
     ·rename_i p x xs hp hx
      have j:x∈v.list:=by rw [hx];simp
      have:=ZaI v.kind v.int v.scale v.text [Cb d p.2.2.2.1 x] v.fields (v.depth-1+1048576) o (by simp) (by omega) (fun y hy=>by
       rw [List.mem_singleton] at hy;subst hy
       exact cl _ (Ty.small_field ht (Bg hp).1) x j) k
      rw [up] at this
      exact this
     ·exact f
    ·exact f
theorem Za9:∀ (k:Nat) (v:Vl) (lv:Nat),v.size≤k→v.Nar→∀ p∈Ff lv v,p.2.Nar
 | 0,v,lv,h,_,_,_=>absurd h (by have:=v.size_eq;omega)
 | k+1,v,lv,h,hv,p,hp=>by
  rw [L9] at hp
  rcases List.mem_cons.1 hp with rfl | hp
  ·exact hv
  ·obtain ⟨x,a,hp⟩:=List.mem_flatMap.1 hp
   have:=HW a
   exact Za9 k x (lv+1) (by omega) (by
    rcases Pm a with h | ⟨q,hq,rfl⟩
    ·exact hv.list h
    ·exact hv.field hq) p hp
theorem Zas (n:Nat) (v:Vl) (hn:1000000000≤n) (hs:v.depth<4611686018427387904) (hv:v.Nar):FH n v=some (Oo v):=by
 rw [FH,Ae ⟨hs,hv.wide⟩]
 exact RL n (by omega) _ 0 (fun p a=>by
  have h:=Za9 v.size v 1 (Nat.le_refl _) hv p a
  have b:=h.inv
  exact ⟨h.ok,by omega,by omega⟩) (by omega) (by omega)
theorem Y1:∀ (l:List (Nat × Vl)) (c:Int),c≤4096→PZ l c=0→c+l.length≤4096
 | [],c,hc,_=>by simpa using hc
 | p::r,c,hc,h=>by
  rw [PZ] at h
  split at h
  ·cases h
  split at h
  ·cases h
  split at h
  ·have:=Y1 r (c+1) (by omega) h
   rw [List.length_cons];omega
  ·rename_i h0;exact absurd h h0
theorem Zc1 {v:Vl} (h:Oo v=0):v.size≤4096:=by
 have a:=Y1 (Ff 1 v) 0 (by omega) h
 have b:=RP v.size v 1 (Nat.le_refl _) (JR h)
 omega
theorem S7 (n:Nat) (t:Ty) (v:Vl) (ht:t.small) (hv:v.ok) (hs:v.size≤1048576) (hn:2100000000≤n):FN n t v=some (if Dp 12 t (Cb 12 t v)=true then (Cb 12 t v,0) else (nilV,18)):=by
 obtain ⟨b,e⟩:=O1 12 t v ht hv hs
 have d:=v.depth_size
 have c:=ht.1
 have a:=ht.2.2
 rw [FN,LZ 12 n t v ht.2.1 c hs hv (by omega),Ab,ZfT n 12 t _ ht.2.1 (by omega) c a b (by omega) (by omega),Ab]
 cases Dp 12 t (Cb 12 t v) with
 | false=>rfl
 | true=>rw [Af (by decide),Il n _ b (by omega),Ab,Ae rfl]
def MF (n:Nat)  : Option Int :=
 some (0)
def E9 (n:Nat) (h:List Int):Nat→Int→Option Int
 | 0,_=>none
 | m+1,b =>
  if decide (b<(h.length:Int)) then
   (Ci h b).bind fun g =>
   if !(decide (g=0)) then
    some (g)
   else
    if B2 (b+1) then
     (E9 n h m) (b+1)
    else none
  else
   MF n 
def IL (n:Nat) (b:List Int):Option Int :=
 E9 n b n 0
theorem PT (w0:World) (n:Nat) (B:List (List AV)) (Rw:List RowA) (L:List LoopA) (a0:List Int) (r:Int) (h:IL n a0=some r) :
  ACalls Tryz.prog w0 142 [.list (a0.map YP) .none] ⟨B,Rw,L⟩ fun x st=>x = .val (.int .i64 r)∧st=⟨B,Rw,L⟩:=by
 rw [IL] at h
 refine hd [.tmp 2] Tryz.func142 Tryz.ntmps142 fun M0 W0 u o k b y c hs=>?_
 simp only [As]
 refine rg [0] hs ?_
 refine rg [0,3] hs ?_
 refine Au (fun e st=>Ck e st B Rw L [(3,true,.val (.int .i64 0))] [] [] (MF n  = some r)) ?_ ?_
 ·intro K5 t
  refine rg [3,6,7,8] hs ?_
  apply Ak
  refine Az (fun m e st=>∃ (a:Int),Ck e st B Rw L [(3,true,.val (.int .i64 0)),(6,true,.list (a0.map YP) .none),(7,true,.val (.int .i64 (a0.length:Int))),(8,true,.val (.int .i64 a))] [] [] (E9 n a0 m a=some r)) n ⟨0,([]),Rw,ef hs,ef hs,c,h⟩ ?_
  rintro ml7 e st ⟨a,Xl7,Rl7,rfl,rfl,c,h⟩ Ul7 Vl7
  cases ml7 with
  | zero=>cases h
  | succ ml7 =>
  rw [E9] at h
  refine td u o k b c ?_
  refine rg [3,6,7,8,9] hs ?_
  apply Ah;intro K9 l
  refine AK h hs (fun hs h=>?_) (fun hs h=>?_)
  rotate_left
  ·refine sx [3] hs t ?_
   exact ⟨([]),Rl7,ef hs,ef hs,c,h⟩
  refine sk [3,6,7,8] hs l ?_
  clear l
  apply Ah;intro K11 d
  apply Ak
  obtain ⟨w,j,h⟩:=bind_some h
  obtain ⟨q,p,i⟩:=Aw j
  have g:=Ax (f:=YP) i
  have hs:=Aa g hs
  refine rg [3,5,6,7,8] hs ?_
  refine rg [3,5,6,7,8,14] hs ?_
  refine AK h hs (fun hs h=>?_) (fun hs h=>?_)
  ·refine rg [2] hs ?_
   exact rt h hs b c
  refine sk [3,6,7,8] hs d ?_
  clear d
  obtain ⟨v,h⟩:=Aj h
  refine rl [3,6,7,8] hs (fun e s=>Vl7 ml7 e s (Nat.lt_succ_self _)) ?_
  exact ⟨(a+1),([]),Rl7,ef hs,ef hs,c,h⟩
 ·clear h;rintro e st ⟨Xk4,Rk4,rfl,rfl,c,h⟩
  rw [MF] at h
  refine td u o k b c ?_
  refine rg [2] hs ?_
  exact rt h hs b c
def GQ (n:Nat)  : Option Bool :=
 some (true)
def Es (n:Nat) (q:List Vl) (y:List Vl) (a2:Vl→Vl→Option Bool):Nat→Int→Option Bool
 | 0,_=>none
 | m+1,b =>
  if decide (b<(q.length:Int)) then
   (Ci q b).bind fun g =>
   (Ci y b).bind fun h =>
   (a2 g h).bind fun s =>
   if !s then
    some (false)
   else
    if B2 (b+1) then
     (Es n q y a2 m) (b+1)
    else none
  else
   GQ n 
def G2 (n:Nat) (g:List Vl) (b:List Vl) (h:Vl→Vl→Option Bool):Option Bool :=
 if !(decide ((g.length:Int)=(b.length:Int))) then
  some (false)
 else
  Es n g b h n 0
theorem Om (w0:World) (n:Nat) (B:List (List AV)) (Rw:List RowA) (L:List LoopA) (a0:List Vl) (a1:List Vl) (fa2:FuncId) (ca2:List AV) (a2:Vl→Vl→Option Bool) (ha2:∀ (x0:Vl) (x1:Vl) r,a2 x0 x1=some r→∀ B' rows,B <+: B'→Rw <+: rows→ACalls Tryz.prog w0 fa2 ([.agg (x0.cs),.agg (x1.cs)]++ca2) ⟨B',rows,L⟩ fun v s=>v = .val (.bool r)∧s=⟨B',rows,L⟩) (r:Bool) (h:G2 n a0 a1 a2=some r) :
  ACalls Tryz.prog w0 208 [.list (a0.map Bq) .none,.list (a1.map Bq) .none,.clo fa2 ca2] ⟨B,Rw,L⟩ fun x st=>x = .val (.bool r)∧st=⟨B,Rw,L⟩:=by
 rw [G2] at h
 refine hd [.tmp 6] Tryz.func208 Tryz.ntmps208 fun M0 W0 K D z b Q d hs=>?_
 simp only [As]
 have c:=Cm (Q (.clo fa2 ca2) (by simp))
 refine rg [0,1,2] hs ?_
 apply Ah;intro K2 y
 refine rg [0,1,2,14] hs ?_
 refine AK h hs (fun hs h=>?_) (fun hs h=>?_)
 ·refine rg [6] hs ?_
  exact rt h hs b d
 refine sk [0,1,2] hs y ?_
 clear y
 refine Au (fun e st=>Ck e st B Rw L [] [] [] (GQ n  = some r)) ?_ ?_
 ·intro K8 H
  refine rg [1,2,15,16,17] hs ?_
  apply Ak
  refine Az (fun m e st=>∃ (a:Int),Ck e st B Rw L [(1,true,.list (a1.map Bq) .none),(2,true,.clo fa2 ca2),(15,true,.list (a0.map Bq) .none),(16,true,.val (.int .i64 (a0.length:Int))),(17,true,.val (.int .i64 a))] [] [] (Es n a0 a1 a2 m a=some r)) n ⟨0,([]),Rw,ef hs,ef hs,d,h⟩ ?_
  rintro ml10 e st ⟨a,Xl10,Rl10,rfl,rfl,d,h⟩ Ul10 Vl10
  cases ml10 with
  | zero=>cases h
  | succ ml10 =>
  rw [Es] at h
  refine AX K D z rfl b d (Jp c d) (Jp c d) ?_
  refine rg [1,2,15,16,17,18] hs ?_
  apply Ah;intro K12 j
  refine AK h hs (fun hs h=>?_) (fun hs h=>?_)
  rotate_left
  ·refine sx [] hs H ?_
   exact ⟨([]),Rl10,ef hs,ef hs,d,h⟩
  refine sk [1,2,15,16,17] hs j ?_
  clear j
  apply Ah;intro K14 i
  apply Ak
  obtain ⟨C,u,h⟩:=bind_some h
  obtain ⟨F,G,l⟩:=Aw u
  have o:=Ax (f:=Bq) l
  have hs:=Aa o hs
  refine rg [1,2,7,8,15,16,17] hs ?_
  obtain ⟨q,w,h⟩:=bind_some h
  obtain ⟨E,J,k⟩:=Aw w
  have p:=Ax (f:=Bq) k
  have hs:=Aa p hs
  refine rg [1,2,8,9,15,16,17] hs ?_
  obtain ⟨O,t,h⟩:=bind_some h
  refine rc 2 [1,2,15,16,17,30] hs ?_;intro K19 g
  refine Gq _ (ha2 C q _ t _ _ px d.pre) (hv hs) ?_
  refine ne hs g ?_
  clear g
  refine AK h hs (fun hs h=>?_) (fun hs h=>?_)
  ·refine rg [6] hs ?_
   exact rt h hs b d
  refine sk [1,2,15,16,17] hs i ?_
  clear i
  obtain ⟨N,h⟩:=Aj h
  refine rl [1,2,15,16,17] hs (fun e s=>Vl10 ml10 e s (Nat.lt_succ_self _)) ?_
  exact ⟨(a+1),([C.cs,q.cs]),Rl10,ef hs,ef hs,d,h⟩
 ·clear h;rintro e st ⟨Xk7,Rk7,rfl,rfl,d,h⟩
  rw [GQ] at h
  refine AX K D z rfl b d (Jp c d) (Jp c d) ?_
  refine rg [6] hs ?_
  exact rt h hs b d
def Ef (n:Nat) (g:List (ByteArray × Vl)) (b:List (ByteArray × Vl)):Option Int :=
 if decide ((g.length:Int)<(b.length:Int)) then
  some ((-1))
 else
  some (0)
def BR (n:Nat) (q:List (ByteArray × Vl)) (h:List (ByteArray × Vl)) (a2:(ByteArray × Vl)→(ByteArray × Vl)→Option Int):Nat→Int→Option Int
 | 0,_=>none
 | m+1,b =>
  if decide (b<(q.length:Int)) then
   (Ci q b).bind fun s =>
   if decide ((h.length:Int)≤b) then
    some (1)
   else
    (Ci h b).bind fun y =>
    (a2 s y).bind fun g =>
    if !(decide (g=0)) then
     some (g)
    else
     if B2 (b+1) then
      (BR n q h a2 m) (b+1)
     else none
  else
   Ef n q h 
def Ew (n:Nat) (h:List (ByteArray × Vl)) (b:List (ByteArray × Vl)) (g:(ByteArray × Vl)→(ByteArray × Vl)→Option Int):Option Int :=
 BR n h b g n 0
theorem MP (w0:World) (n:Nat) (B:List (List AV)) (Rw:List RowA) (L:List LoopA) (a0:List (ByteArray × Vl)) (a1:List (ByteArray × Vl)) (fa2:FuncId) (ca2:List AV) (a2:(ByteArray × Vl)→(ByteArray × Vl)→Option Int) (ha2:∀ (x0:ByteArray × Vl) (x1:ByteArray × Vl) r,a2 x0 x1=some r→∀ B' rows,B <+: B'→Rw <+: rows→ACalls Tryz.prog w0 fa2 ([.agg (.val (.string x0.1)::(x0.2.cs)),.agg (.val (.string x1.1)::(x1.2.cs))]++ca2) ⟨B',rows,L⟩ fun v s=>v = .val (.int .i64 r)∧s=⟨B',rows,L⟩) (r:Int) (h:Ew n a0 a1 a2=some r) :
  ACalls Tryz.prog w0 145 [.list (a0.map Cf) .none,.list (a1.map Cf) .none,.clo fa2 ca2] ⟨B,Rw,L⟩ fun x st=>x = .val (.int .i64 r)∧st=⟨B,Rw,L⟩:=by
 rw [Ew] at h
 refine hd [.tmp 6] Tryz.func145 Tryz.ntmps145 fun M0 W0 O E z a U d hs=>?_
 simp only [As]
 have c:=Cm (U (.clo fa2 ca2) (by simp))
 refine rg [0,1,2] hs ?_
 refine Au (fun e st=>Ck e st B Rw L [(0,true,.list (a0.map Cf) .none),(1,true,.list (a1.map Cf) .none)] [] [] (Ef n a0 a1  = some r)) ?_ ?_
 ·intro K4 J
  refine rg [0,1,2,11,12,13] hs ?_
  apply Ak
  refine Az (fun m e st=>∃ (b:Int),Ck e st B Rw L [(0,true,.list (a0.map Cf) .none),(1,true,.list (a1.map Cf) .none),(2,true,.clo fa2 ca2),(11,true,.list (a0.map Cf) .none),(12,true,.val (.int .i64 (a0.length:Int))),(13,true,.val (.int .i64 b))] [] [] (BR n a0 a1 a2 m b=some r)) n ⟨0,([]),Rw,ef hs,ef hs,d,h⟩ ?_
  rintro ml6 e st ⟨b,Xl6,Rl6,rfl,rfl,d,h⟩ Ul6 Vl6
  cases ml6 with
  | zero=>cases h
  | succ ml6 =>
  rw [BR] at h
  refine AX O E z rfl a d (Jp c d) (Jp c d) ?_
  refine rg [0,1,2,11,12,13,14] hs ?_
  apply Ah;intro K8 C
  refine AK h hs (fun hs h=>?_) (fun hs h=>?_)
  rotate_left
  ·refine sx [0,1] hs J ?_
   exact ⟨([]),Rl6,ef hs,ef hs,d,h⟩
  refine sk [0,1,2,11,12,13] hs C ?_
  clear C
  apply Ah;intro K10 i
  apply Ak
  obtain ⟨l,D,h⟩:=bind_some h
  obtain ⟨F,H,q⟩:=Aw D
  have t:=Ax (f:=Cf) q
  have hs:=Aa t hs
  refine rg [0,1,2,7,8,11,12,13] hs ?_
  apply Ah;intro K13 g
  refine rg [0,1,2,7,8,11,12,13,21] hs ?_
  refine AK h hs (fun hs h=>?_) (fun hs h=>?_)
  ·refine rg [6] hs ?_
   exact rt h hs a d
  refine sk [0,1,2,7,8,11,12,13] hs g ?_
  clear g
  obtain ⟨o,y,h⟩:=bind_some h
  obtain ⟨G,K,p⟩:=Aw y
  have u:=Ax (f:=Cf) p
  have hs:=Aa u hs
  refine rg [0,1,2,8,9,11,12,13] hs ?_
  obtain ⟨Q,w,h⟩:=bind_some h
  refine rc 2 [0,1,2,10,11,12,13] hs ?_;intro K19 j
  refine Gq _ (ha2 l o _ w _ _ px d.pre) (hv hs) ?_
  refine ne hs j ?_
  clear j
  refine rg [0,1,2,10,11,12,13,31] hs ?_
  refine AK h hs (fun hs h=>?_) (fun hs h=>?_)
  ·refine rg [6] hs ?_
   exact rt h hs a d
  refine sk [0,1,2,11,12,13] hs i ?_
  clear i
  obtain ⟨N,h⟩:=Aj h
  refine rl [0,1,2,11,12,13] hs (fun e s=>Vl6 ml6 e s (Nat.lt_succ_self _)) ?_
  exact ⟨(b+1),([.val (.string l.1)::(l.2.cs),.val (.string o.1)::(o.2.cs)]),Rl6,ef hs,ef hs,d,h⟩
 ·clear h;rintro e st ⟨Xk3,Rk3,rfl,rfl,d,h⟩
  rw [Ef] at h
  refine AX O E z rfl a d (Jp c d) (Jp c d) ?_
  apply Ah;intro K25 k
  refine rg [38] hs ?_
  refine AK h hs (fun hs h=>?_) (fun hs h=>?_)
  ·refine rg [6] hs ?_
   exact rt h hs a d
  refine sk [] hs k ?_
  clear k
  refine rg [6] hs ?_
  exact rt h hs a d
def Ek (n:Nat) (g:List Vl) (b:List Vl):Option Int :=
 if decide ((g.length:Int)<(b.length:Int)) then
  some ((-1))
 else
  some (0)
def BQ (n:Nat) (q:List Vl) (h:List Vl) (a2:Vl→Vl→Option Int):Nat→Int→Option Int
 | 0,_=>none
 | m+1,b =>
  if decide (b<(q.length:Int)) then
   (Ci q b).bind fun s =>
   if decide ((h.length:Int)≤b) then
    some (1)
   else
    (Ci h b).bind fun y =>
    (a2 s y).bind fun g =>
    if !(decide (g=0)) then
     some (g)
    else
     if B2 (b+1) then
      (BQ n q h a2 m) (b+1)
     else none
  else
   Ek n q h 
def Et (n:Nat) (h:List Vl) (b:List Vl) (g:Vl→Vl→Option Int):Option Int :=
 BQ n h b g n 0
theorem M9 (w0:World) (n:Nat) (B:List (List AV)) (Rw:List RowA) (L:List LoopA) (a0:List Vl) (a1:List Vl) (fa2:FuncId) (ca2:List AV) (a2:Vl→Vl→Option Int) (ha2:∀ (x0:Vl) (x1:Vl) r,a2 x0 x1=some r→∀ B' rows,B <+: B'→Rw <+: rows→ACalls Tryz.prog w0 fa2 ([.agg (x0.cs),.agg (x1.cs)]++ca2) ⟨B',rows,L⟩ fun v s=>v = .val (.int .i64 r)∧s=⟨B',rows,L⟩) (r:Int) (h:Et n a0 a1 a2=some r) :
  ACalls Tryz.prog w0 144 [.list (a0.map Bq) .none,.list (a1.map Bq) .none,.clo fa2 ca2] ⟨B,Rw,L⟩ fun x st=>x = .val (.int .i64 r)∧st=⟨B,Rw,L⟩:=by
 rw [Et] at h
 refine hd [.tmp 6] Tryz.func144 Tryz.ntmps144 fun M0 W0 O E z a U d hs=>?_
 simp only [As]
 have c:=Cm (U (.clo fa2 ca2) (by simp))
 refine rg [0,1,2] hs ?_
 refine Au (fun e st=>Ck e st B Rw L [(0,true,.list (a0.map Bq) .none),(1,true,.list (a1.map Bq) .none)] [] [] (Ek n a0 a1  = some r)) ?_ ?_
 ·intro K4 J
  refine rg [0,1,2,11,12,13] hs ?_
  apply Ak
  refine Az (fun m e st=>∃ (b:Int),Ck e st B Rw L [(0,true,.list (a0.map Bq) .none),(1,true,.list (a1.map Bq) .none),(2,true,.clo fa2 ca2),(11,true,.list (a0.map Bq) .none),(12,true,.val (.int .i64 (a0.length:Int))),(13,true,.val (.int .i64 b))] [] [] (BQ n a0 a1 a2 m b=some r)) n ⟨0,([]),Rw,ef hs,ef hs,d,h⟩ ?_
  rintro ml6 e st ⟨b,Xl6,Rl6,rfl,rfl,d,h⟩ Ul6 Vl6
  cases ml6 with
  | zero=>cases h
  | succ ml6 =>
  rw [BQ] at h
  refine AX O E z rfl a d (Jp c d) (Jp c d) ?_
  refine rg [0,1,2,11,12,13,14] hs ?_
  apply Ah;intro K8 C
  refine AK h hs (fun hs h=>?_) (fun hs h=>?_)
  rotate_left
  ·refine sx [0,1] hs J ?_
   exact ⟨([]),Rl6,ef hs,ef hs,d,h⟩
  refine sk [0,1,2,11,12,13] hs C ?_
  clear C
  apply Ah;intro K10 i
  apply Ak
  obtain ⟨t,D,h⟩:=bind_some h
  obtain ⟨F,H,o⟩:=Aw D
  have p:=Ax (f:=Bq) o
  have hs:=Aa p hs
  refine rg [0,1,2,7,8,11,12,13] hs ?_
  apply Ah;intro K13 g
  refine rg [0,1,2,7,8,11,12,13,21] hs ?_
  refine AK h hs (fun hs h=>?_) (fun hs h=>?_)
  ·refine rg [6] hs ?_
   exact rt h hs a d
  refine sk [0,1,2,7,8,11,12,13] hs g ?_
  clear g
  obtain ⟨u,y,h⟩:=bind_some h
  obtain ⟨G,K,l⟩:=Aw y
  have q:=Ax (f:=Bq) l
  have hs:=Aa q hs
  refine rg [0,1,2,8,9,11,12,13] hs ?_
  obtain ⟨Q,w,h⟩:=bind_some h
  refine rc 2 [0,1,2,10,11,12,13] hs ?_;intro K19 j
  refine Gq _ (ha2 t u _ w _ _ px d.pre) (hv hs) ?_
  refine ne hs j ?_
  clear j
  refine rg [0,1,2,10,11,12,13,31] hs ?_
  refine AK h hs (fun hs h=>?_) (fun hs h=>?_)
  ·refine rg [6] hs ?_
   exact rt h hs a d
  refine sk [0,1,2,11,12,13] hs i ?_
  clear i
  obtain ⟨N,h⟩:=Aj h
  refine rl [0,1,2,11,12,13] hs (fun e s=>Vl6 ml6 e s (Nat.lt_succ_self _)) ?_
  exact ⟨(b+1),([t.cs,u.cs]),Rl6,ef hs,ef hs,d,h⟩
 ·clear h;rintro e st ⟨Xk3,Rk3,rfl,rfl,d,h⟩
  rw [Ek] at h
  refine AX O E z rfl a d (Jp c d) (Jp c d) ?_
  apply Ah;intro K25 k
  refine rg [38] hs ?_
  refine AK h hs (fun hs h=>?_) (fun hs h=>?_)
  ·refine rg [6] hs ?_
   exact rt h hs a d
  refine sk [] hs k ?_
  clear k
  refine rg [6] hs ?_
  exact rt h hs a d
def GI (rec:Vl→Vl→Option Int) (n:Nat) (g:ByteArray × Vl) (b:ByteArray × Vl):Option Int :=
 (rec g.2 b.2).bind fun q =>
 (IL n ([Eo g.1 b.1,q])).bind fun h =>
 some (h)
theorem Vr (w0:World) (rec:Vl→Vl→Option Int) (ih:∀ (B:List (List AV)) (Rw:List RowA) (L:List LoopA) (a0:Vl) (a1:Vl) (r:Int) (h:rec a0 a1=some r),ACalls Tryz.prog w0 83 [.agg (a0.cs),.agg (a1.cs)] ⟨B,Rw,L⟩ fun x st=>x = .val (.int .i64 r)∧st=⟨B,Rw,L⟩) (n:Nat) (B:List (List AV)) (Rw:List RowA) (L:List LoopA) (a0:ByteArray × Vl) (a1:ByteArray × Vl) (r:Int) (h:GI rec n a0 a1=some r) :
  ACalls Tryz.prog w0 146 [.agg (.val (.string a0.1)::(a0.2.cs)),.agg (.val (.string a1.1)::(a1.2.cs))] ⟨B,Rw,L⟩ fun x st=>x = .val (.int .i64 r)∧st=⟨B,Rw,L⟩:=by
 rw [GI] at h
 refine hd [.tmp 4] Tryz.func146 Tryz.ntmps146 fun M0 W0 l e i a j f hs=>?_
 simp only [As]
 refine rg [2,3] hs ?_
 obtain ⟨g,c,h⟩:=bind_some h
 obtain ⟨k,d,h⟩:=bind_some h
 apply Ah;intro K2 b
 refine dk 13 4 1 [4] hs HD ?_
 refine Ai _ (Nw w0 _ _ _ a0.1 a1.1) (hv hs) ?_
 refine nc hs ?_
 refine Ai _ (ih _ _ _ a0.2 a1.2 _ c) (hv hs) ?_
 refine nc hs ?_
 refine Ai _ (PT w0 n _ _ _ ([Eo a0.1 a1.1,g]) _ d) (hv hs) ?_
 refine dn hs b ?_
 clear b
 exact rt h hs a f
def L1 (rec:Vl→Vl→Option Int) (n:Nat) (g:Vl) (b:Vl):Option Int :=
 (Et n g.list b.list (fun (h:Vl) (q:Vl)=>rec h q)).bind fun y3 =>
 (Ew n g.fields b.fields (fun (h:ByteArray × Vl) (q:ByteArray × Vl)=>GI rec n h q)).bind fun y =>
 (IL n ([if g.kind<b.kind then -1 else if g.kind=b.kind then 0 else 1,if g.int<b.int then -1 else if g.int=b.int then 0 else 1,if g.scale<b.scale then -1 else if g.scale=b.scale then 0 else 1,Eo g.text b.text,y3,y])).bind fun s =>
 some (s)
def F4:Nat→Vl→Vl→Option Int
 | 0,_,_=>none
 | n+1,g,b=>L1 (F4 n) n g b
def OZ (w0:World) (F:Vl→Vl→Option Int):Prop:=∀ (B:List (List AV)) (Rw:List RowA) (L:List LoopA) (g:Vl) (b:Vl) (r:Int),F g b=some r→ACalls Tryz.prog w0 83 [.agg (g.cs),.agg (b.cs)] ⟨B,Rw,L⟩ fun x st=>x = .val (.int .i64 r)∧st=⟨B,Rw,L⟩
theorem VJ (w0:World) (rec:Vl→Vl→Option Int) (ih:OZ w0 rec) (n:Nat):OZ w0 (L1 rec n):=by
 intro B Rw L a0 a1 r h
 rw [L1] at h
 refine hd [.tmp 4] Tryz.func83 Tryz.ntmps83 fun M0 W0 w s p d v q hs=>?_
 simp only [As]
 refine rg [2,3] hs ?_
 obtain ⟨o,j,h⟩:=bind_some h
 obtain ⟨m,g,h⟩:=bind_some h
 obtain ⟨u,i,h⟩:=bind_some h
 apply Ah;intro K2 e
 refine dk 33 8 1 [4] (al hs) HD ?_
 refine Ai _ (P6 w0 _ _ _ a0.kind a1.kind) (hv (al hs)) ?_
 refine nc (al hs) ?_
 refine Ai _ (P6 w0 _ _ _ a0.int a1.int) (hv (al hs)) ?_
 refine nc (al hs) ?_
 refine Ai _ (P6 w0 _ _ _ a0.scale a1.scale) (hv (al hs)) ?_
 refine nc (al hs) ?_
 refine Ai _ (Nw w0 _ _ _ a0.text a1.text) (hv (al hs)) ?_
 refine nc (al hs) ?_
 refine Ai _ (M9 w0 n _ _ _ a0.list a1.list 83 [] (fun (c:Vl) (b:Vl)=>rec c b) (fun c b r k t a f l=>by exact ih _ _ _ c b _ k) _ j) (hv (al hs)) ?_
 refine nc (al hs) ?_
 refine Ai _ (MP w0 n _ _ _ a0.fields a1.fields 146 [] (fun (c:ByteArray × Vl) (b:ByteArray × Vl)=>GI rec n c b) (fun c b r k t a f l=>by exact Vr w0 rec ih n _ _ _ c b _ k) _ g) (hv (al hs)) ?_
 refine nc (al hs) ?_
 refine Ai _ (PT w0 n _ _ _ ([if a0.kind<a1.kind then -1 else if a0.kind=a1.kind then 0 else 1,if a0.int<a1.int then -1 else if a0.int=a1.int then 0 else 1,if a0.scale<a1.scale then -1 else if a0.scale=a1.scale then 0 else 1,Eo a0.text a1.text,o,m]) _ i) (hv (al hs)) ?_
 refine dn (al hs) e ?_
 clear e
 exact rt h hs d q
theorem QU (w0:World):∀ n:Nat,OZ w0 (F4 n)
 | 0=>fun _ _ _ _ _ _ h=>(nomatch h)
 | n+1=>VJ w0 (F4 n) (QU w0 n) n
def Iy (n:Nat) (g:Vl) (b:Vl):Option Bool :=
 (F4 n g b).bind fun h =>
 some (decide (h=0))
theorem UM (w0:World) (n:Nat) (B:List (List AV)) (Rw:List RowA) (L:List LoopA) (a0:Vl) (a1:Vl) (r:Bool) (h:Iy n a0 a1=some r) :
  ACalls Tryz.prog w0 32 [.agg (a0.cs),.agg (a1.cs)] ⟨B,Rw,L⟩ fun x st=>x = .val (.bool r)∧st=⟨B,Rw,L⟩:=by
 rw [Iy] at h
 refine hd [.tmp 4] Tryz.func32 Tryz.ntmps32 fun M0 W0 i d f a g e hs=>?_
 simp only [As]
 refine rg [2,3] hs ?_
 obtain ⟨j,c,h⟩:=bind_some h
 refine rc 2 [4] hs ?_;intro K2 b
 refine Ai _ (QU w0 n _ _ _ a0 a1 _ c) (hv hs) ?_
 refine ne hs b ?_
 clear b
 exact rt h hs a e
def LE (rec:Ty→Ty→Option Bool) (n:Nat) (g:Int × ByteArray × Int × Ty × List Vl) (b:Int × ByteArray × Int × Ty × List Vl):Option Bool :=
 if ((decide (g.1=b.1))&&(DR g.2.1 b.2.1))&&(decide (g.2.2.1=b.2.2.1)) then
  (rec g.2.2.2.1 b.2.2.2.1).bind fun s =>
  if s then
   (G2 n g.2.2.2.2 b.2.2.2.2 (fun (q:Vl) (y:Vl)=>Iy n q y)).bind fun h =>
   some (h)
  else
   some (false)
 else
  some (false)
theorem Xr (w0:World) (rec:Ty→Ty→Option Bool) (ih:∀ (B:List (List AV)) (Rw:List RowA) (L:List LoopA) (a0:Ty) (a1:Ty) (r:Bool) (h:rec a0 a1=some r),ACalls Tryz.prog w0 163 [.agg (a0.cs),.agg (a1.cs)] ⟨B,Rw,L⟩ fun x st=>x = .val (.bool r)∧st=⟨B,Rw,L⟩) (n:Nat) (B:List (List AV)) (Rw:List RowA) (L:List LoopA) (a0:Int × ByteArray × Int × Ty × List Vl) (a1:Int × ByteArray × Int × Ty × List Vl) (r:Bool) (h:LE rec n a0 a1=some r) :
  ACalls Tryz.prog w0 207 [.agg (.val (.int .i64 a0.1)::(.val (.string a0.2.1)::(.val (.int .i64 a0.2.2.1)::((a0.2.2.2.1.cs)++([.list (a0.2.2.2.2.map Bq) .none]))))),.agg (.val (.int .i64 a1.1)::(.val (.string a1.2.1)::(.val (.int .i64 a1.2.2.1)::((a1.2.2.2.1.cs)++([.list (a1.2.2.2.2.map Bq) .none])))))] ⟨B,Rw,L⟩ fun x st=>x = .val (.bool r)∧st=⟨B,Rw,L⟩:=by
 rw [LE] at h
 refine hd [.tmp 4] Tryz.func207 Tryz.ntmps207 fun M0 W0 t j m a s f hs=>?_
 simp only [As]
 refine rg [2,3] hs ?_
 apply Ah;intro K2 b
 rcases Bool.eq_false_or_eq_true (((decide (a0.1=a1.1))&&(DR a0.2.1 a1.2.1))&&(decide (a0.2.2.1=a1.2.2.1))) with hf3 | hf3
 ·replace h:=AY h hf3
  obtain ⟨k,c,h⟩:=bind_some h
  rcases Bool.eq_false_or_eq_true (k) with hf5 | hf5
  ·replace h:=AY h hf5
   obtain ⟨q,g,h⟩:=bind_some h
   have hs:=Aa hf3 hs
   have hs:=Aa hf5 hs
   refine rk 3 [4] (al hs) ?_
   refine Ai _ (ih _ _ _ a0.2.2.2.1 a1.2.2.2.1 _ c) (hv (al hs)) ?_
   refine nc (al hs) ?_
   refine Ai _ (Om w0 n _ _ _ a0.2.2.2.2 a1.2.2.2.2 32 [] (fun (d:Vl) (i:Vl)=>Iy n d i) (fun d i r l u e o p=>by exact UM w0 n _ _ _ d i _ l) _ g) (hv (al hs)) ?_
   refine ne (al hs) b ?_
   clear b
   exact rt h hs a f
  ·replace h:=AZ h hf5
   have hs:=Aa hf3 hs
   have hs:=Aa hf5 hs
   refine rk 3 [4] (al hs) ?_
   refine Ai _ (ih _ _ _ a0.2.2.2.1 a1.2.2.2.1 _ c) (hv (al hs)) ?_
   refine nc (al hs) ?_
   refine AC ?_
   refine ne (al hs) b ?_
   clear b
   exact rt h hs a f
 ·replace h:=AZ h hf3
  have hs:=Aa hf3 hs
  refine rk 3 [4] (al hs) ?_
  refine AC ?_
  refine nc (al hs) ?_
  refine AC ?_
  refine ne (al hs) b ?_
  clear b
  exact rt h hs a f
def He (n:Nat)  : Option Bool :=
 some (true)
def EO (n:Nat) (q:List Ty) (y:List Ty) (a2:Ty→Ty→Option Bool):Nat→Int→Option Bool
 | 0,_=>none
 | m+1,b =>
  if decide (b<(q.length:Int)) then
   (Ci q b).bind fun g =>
   (Ci y b).bind fun h =>
   (a2 g h).bind fun s =>
   if !s then
    some (false)
   else
    if B2 (b+1) then
     (EO n q y a2 m) (b+1)
    else none
  else
   He n 
def HJ (n:Nat) (g:List Ty) (b:List Ty) (h:Ty→Ty→Option Bool):Option Bool :=
 if !(decide ((g.length:Int)=(b.length:Int))) then
  some (false)
 else
  EO n g b h n 0
theorem JK (w0:World) (n:Nat) (B:List (List AV)) (Rw:List RowA) (L:List LoopA) (a0:List Ty) (a1:List Ty) (fa2:FuncId) (ca2:List AV) (a2:Ty→Ty→Option Bool) (ha2:∀ (x0:Ty) (x1:Ty) r,a2 x0 x1=some r→∀ B' rows,B <+: B'→Rw <+: rows→ACalls Tryz.prog w0 fa2 ([.agg (x0.cs),.agg (x1.cs)]++ca2) ⟨B',rows,L⟩ fun v s=>v = .val (.bool r)∧s=⟨B',rows,L⟩) (r:Bool) (h:HJ n a0 a1 a2=some r) :
  ACalls Tryz.prog w0 205 [.list (a0.map HE) .none,.list (a1.map HE) .none,.clo fa2 ca2] ⟨B,Rw,L⟩ fun x st=>x = .val (.bool r)∧st=⟨B,Rw,L⟩:=by
 rw [HJ] at h
 refine hd [.tmp 6] Tryz.func205 Tryz.ntmps205 fun M0 W0 K D z b Q d hs=>?_
 simp only [As]
 have c:=Cm (Q (.clo fa2 ca2) (by simp))
 refine rg [0,1,2] hs ?_
 apply Ah;intro K2 y
 refine rg [0,1,2,14] hs ?_
 refine AK h hs (fun hs h=>?_) (fun hs h=>?_)
 ·refine rg [6] hs ?_
  exact rt h hs b d
 refine sk [0,1,2] hs y ?_
 clear y
 refine Au (fun e st=>Ck e st B Rw L [] [] [] (He n  = some r)) ?_ ?_
 ·intro K8 H
  refine rg [1,2,15,16,17] hs ?_
  apply Ak
  refine Az (fun m e st=>∃ (a:Int),Ck e st B Rw L [(1,true,.list (a1.map HE) .none),(2,true,.clo fa2 ca2),(15,true,.list (a0.map HE) .none),(16,true,.val (.int .i64 (a0.length:Int))),(17,true,.val (.int .i64 a))] [] [] (EO n a0 a1 a2 m a=some r)) n ⟨0,([]),Rw,ef hs,ef hs,d,h⟩ ?_
  rintro ml10 e st ⟨a,Xl10,Rl10,rfl,rfl,d,h⟩ Ul10 Vl10
  cases ml10 with
  | zero=>cases h
  | succ ml10 =>
  rw [EO] at h
  refine AX K D z rfl b d (Jp c d) (Jp c d) ?_
  refine rg [1,2,15,16,17,18] hs ?_
  apply Ah;intro K12 j
  refine AK h hs (fun hs h=>?_) (fun hs h=>?_)
  rotate_left
  ·refine sx [] hs H ?_
   exact ⟨([]),Rl10,ef hs,ef hs,d,h⟩
  refine sk [1,2,15,16,17] hs j ?_
  clear j
  apply Ah;intro K14 i
  apply Ak
  obtain ⟨C,u,h⟩:=bind_some h
  obtain ⟨F,G,l⟩:=Aw u
  have o:=Ax (f:=HE) l
  have hs:=Aa o hs
  refine rg [1,2,7,8,15,16,17] hs ?_
  obtain ⟨q,w,h⟩:=bind_some h
  obtain ⟨E,J,k⟩:=Aw w
  have p:=Ax (f:=HE) k
  have hs:=Aa p hs
  refine rg [1,2,8,9,15,16,17] hs ?_
  obtain ⟨O,t,h⟩:=bind_some h
  refine rc 2 [1,2,15,16,17,30] hs ?_;intro K19 g
  refine Gq _ (ha2 C q _ t _ _ px d.pre) (hv hs) ?_
  refine ne hs g ?_
  clear g
  refine AK h hs (fun hs h=>?_) (fun hs h=>?_)
  ·refine rg [6] hs ?_
   exact rt h hs b d
  refine sk [1,2,15,16,17] hs i ?_
  clear i
  obtain ⟨N,h⟩:=Aj h
  refine rl [1,2,15,16,17] hs (fun e s=>Vl10 ml10 e s (Nat.lt_succ_self _)) ?_
  exact ⟨(a+1),([C.cs,q.cs]),Rl10,ef hs,ef hs,d,h⟩
 ·clear h;rintro e st ⟨Xk7,Rk7,rfl,rfl,d,h⟩
  rw [He] at h
  refine AX K D z rfl b d (Jp c d) (Jp c d) ?_
  refine rg [6] hs ?_
  exact rt h hs b d
def EX (n:Nat)  : Option Bool :=
 some (true)
def Dx (n:Nat) (q:List (Int × ByteArray × Int × Ty × List Vl)) (y:List (Int × ByteArray × Int × Ty × List Vl)) (a2:(Int × ByteArray × Int × Ty × List Vl)→(Int × ByteArray × Int × Ty × List Vl)→Option Bool):Nat→Int→Option Bool
 | 0,_=>none
 | m+1,b =>
  if decide (b<(q.length:Int)) then
   (Ci q b).bind fun g =>
   (Ci y b).bind fun h =>
   (a2 g h).bind fun s =>
   if !s then
    some (false)
   else
    if B2 (b+1) then
     (Dx n q y a2 m) (b+1)
    else none
  else
   EX n 
def Fa (n:Nat) (g:List (Int × ByteArray × Int × Ty × List Vl)) (b:List (Int × ByteArray × Int × Ty × List Vl)) (h:(Int × ByteArray × Int × Ty × List Vl)→(Int × ByteArray × Int × Ty × List Vl)→Option Bool):Option Bool :=
 if !(decide ((g.length:Int)=(b.length:Int))) then
  some (false)
 else
  Dx n g b h n 0
theorem Ly (w0:World) (n:Nat) (B:List (List AV)) (Rw:List RowA) (L:List LoopA) (a0:List (Int × ByteArray × Int × Ty × List Vl)) (a1:List (Int × ByteArray × Int × Ty × List Vl)) (fa2:FuncId) (ca2:List AV) (a2:(Int × ByteArray × Int × Ty × List Vl)→(Int × ByteArray × Int × Ty × List Vl)→Option Bool) (ha2:∀ (x0:Int × ByteArray × Int × Ty × List Vl) (x1:Int × ByteArray × Int × Ty × List Vl) r,a2 x0 x1=some r→∀ B' rows,B <+: B'→Rw <+: rows→ACalls Tryz.prog w0 fa2 ([.agg (.val (.int .i64 x0.1)::(.val (.string x0.2.1)::(.val (.int .i64 x0.2.2.1)::((x0.2.2.2.1.cs)++([.list (x0.2.2.2.2.map Bq) .none]))))),.agg (.val (.int .i64 x1.1)::(.val (.string x1.2.1)::(.val (.int .i64 x1.2.2.1)::((x1.2.2.2.1.cs)++([.list (x1.2.2.2.2.map Bq) .none])))))]++ca2) ⟨B',rows,L⟩ fun v s=>v = .val (.bool r)∧s=⟨B',rows,L⟩) (r:Bool) (h:Fa n a0 a1 a2=some r) :
  ACalls Tryz.prog w0 206 [.list (a0.map CJ) .none,.list (a1.map CJ) .none,.clo fa2 ca2] ⟨B,Rw,L⟩ fun x st=>x = .val (.bool r)∧st=⟨B,Rw,L⟩:=by
 rw [Fa] at h
 refine hd [.tmp 6] Tryz.func206 Tryz.ntmps206 fun M0 W0 K D C b Q d hs=>?_
 simp only [As]
 have c:=Cm (Q (.clo fa2 ca2) (by simp))
 refine rg [0,1,2] hs ?_
 apply Ah;intro K2 z
 refine rg [0,1,2,14] hs ?_
 refine AK h hs (fun hs h=>?_) (fun hs h=>?_)
 ·refine rg [6] hs ?_
  exact rt h hs b d
 refine sk [0,1,2] hs z ?_
 clear z
 refine Au (fun e st=>Ck e st B Rw L [] [] [] (EX n  = some r)) ?_ ?_
 ·intro K8 H
  refine rg [1,2,15,16,17] hs ?_
  apply Ak
  refine Az (fun m e st=>∃ (a:Int),Ck e st B Rw L [(1,true,.list (a1.map CJ) .none),(2,true,.clo fa2 ca2),(15,true,.list (a0.map CJ) .none),(16,true,.val (.int .i64 (a0.length:Int))),(17,true,.val (.int .i64 a))] [] [] (Dx n a0 a1 a2 m a=some r)) n ⟨0,([]),Rw,ef hs,ef hs,d,h⟩ ?_
  rintro ml10 e st ⟨a,Xl10,Rl10,rfl,rfl,d,h⟩ Ul10 Vl10
  cases ml10 with
  | zero=>cases h
  | succ ml10 =>
  rw [Dx] at h
  refine AX K D C rfl b d (Jp c d) (Jp c d) ?_
  refine rg [1,2,15,16,17,18] hs ?_
  apply Ah;intro K12 l
  refine AK h hs (fun hs h=>?_) (fun hs h=>?_)
  rotate_left
  ·refine sx [] hs H ?_
   exact ⟨([]),Rl10,ef hs,ef hs,d,h⟩
  refine sk [1,2,15,16,17] hs l ?_
  clear l
  apply Ah;intro K14 k
  apply Ak
  obtain ⟨i,w,h⟩:=bind_some h
  obtain ⟨F,G,p⟩:=Aw w
  have q:=Ax (f:=CJ) p
  have hs:=Aa q hs
  refine rg [1,2,7,8,15,16,17] hs ?_
  obtain ⟨g,y,h⟩:=bind_some h
  obtain ⟨E,J,o⟩:=Aw y
  have t:=Ax (f:=CJ) o
  have hs:=Aa t hs
  refine rg [1,2,8,9,15,16,17] hs ?_
  obtain ⟨O,u,h⟩:=bind_some h
  refine rc 2 [1,2,15,16,17,30] hs ?_;intro K19 j
  refine Gq _ (ha2 i g _ u _ _ px d.pre) (hv hs) ?_
  refine ne hs j ?_
  clear j
  refine AK h hs (fun hs h=>?_) (fun hs h=>?_)
  ·refine rg [6] hs ?_
   exact rt h hs b d
  refine sk [1,2,15,16,17] hs k ?_
  clear k
  obtain ⟨N,h⟩:=Aj h
  refine rl [1,2,15,16,17] hs (fun e s=>Vl10 ml10 e s (Nat.lt_succ_self _)) ?_
  exact ⟨(a+1),([.val (.int .i64 i.1)::(.val (.string i.2.1)::(.val (.int .i64 i.2.2.1)::((i.2.2.2.1.cs)++([.list (i.2.2.2.2.map Bq) .none])))),.val (.int .i64 g.1)::(.val (.string g.2.1)::(.val (.int .i64 g.2.2.1)::((g.2.2.2.1.cs)++([.list (g.2.2.2.2.map Bq) .none]))))]),Rl10,ef hs,ef hs,d,h⟩
 ·clear h;rintro e st ⟨Xk7,Rk7,rfl,rfl,d,h⟩
  rw [EX] at h
  refine AX K D C rfl b d (Jp c d) (Jp c d) ?_
  refine rg [6] hs ?_
  exact rt h hs b d
def HZ (n:Nat)  : Option Bool :=
 some (true)
def Fq (n:Nat) (h:List ByteArray) (s:List ByteArray):Nat→Int→Option Bool
 | 0,_=>none
 | m+1,b =>
  if decide (b<(h.length:Int)) then
   (Ci h b).bind fun q =>
   (Ci s b).bind fun g =>
   if !(DR q g) then
    some (false)
   else
    if B2 (b+1) then
     (Fq n h s m) (b+1)
    else none
  else
   HZ n 
def IW (n:Nat) (g:List ByteArray) (b:List ByteArray):Option Bool :=
 if !(decide ((g.length:Int)=(b.length:Int))) then
  some (false)
 else
  Fq n g b n 0
theorem Ic (w0:World) (n:Nat) (B:List (List AV)) (Rw:List RowA) (L:List LoopA) (a0:List ByteArray) (a1:List ByteArray) (r:Bool) (h:IW n a0 a1=some r) :
  ACalls Tryz.prog w0 204 [.list (a0.map NJ) .none,.list (a1.map NJ) .none] ⟨B,Rw,L⟩ fun x st=>x = .val (.bool r)∧st=⟨B,Rw,L⟩:=by
 rw [IW] at h
 refine hd [.tmp 4] Tryz.func204 Tryz.ntmps204 fun M0 W0 E u q b H c hs=>?_
 simp only [As]
 refine rg [0,1] hs ?_
 apply Ah;intro K2 p
 refine rg [0,1,10] hs ?_
 refine AK h hs (fun hs h=>?_) (fun hs h=>?_)
 ·refine rg [4] hs ?_
  exact rt h hs b c
 refine sk [0,1] hs p ?_
 clear p
 refine Au (fun e st=>Ck e st B Rw L [] [] [] (HZ n  = some r)) ?_ ?_
 ·intro K8 z
  refine rg [0,1,12,13] hs ?_
  apply Ak
  refine Az (fun m e st=>∃ (a:Int),Ck e st B Rw L [(0,true,.list (a0.map NJ) .none),(1,true,.list (a1.map NJ) .none),(12,true,.val (.int .i64 (a0.length:Int))),(13,true,.val (.int .i64 a))] [] [] (Fq n a0 a1 m a=some r)) n ⟨0,([]),Rw,ef hs,ef hs,c,h⟩ ?_
  rintro ml10 e st ⟨a,Xl10,Rl10,rfl,rfl,c,h⟩ Ul10 Vl10
  cases ml10 with
  | zero=>cases h
  | succ ml10 =>
  rw [Fq] at h
  refine td E u q b c ?_
  refine rg [0,1,12,13,14] hs ?_
  apply Ah;intro K12 g
  refine AK h hs (fun hs h=>?_) (fun hs h=>?_)
  rotate_left
  ·refine sx [] hs z ?_
   exact ⟨([]),Rl10,ef hs,ef hs,c,h⟩
  refine sk [0,1,12,13] hs g ?_
  clear g
  apply Ah;intro K14 d
  apply Ak
  refine rg [0,1,5,12,13] hs ?_
  obtain ⟨G,t,h⟩:=bind_some h
  obtain ⟨w,y,k⟩:=Aw t
  have j:=Ax (f:=NJ) k
  obtain ⟨F,o,h⟩:=bind_some h
  obtain ⟨v,C,i⟩:=Aw o
  have l:=Ax (f:=NJ) i
  have hs:=Aa j hs
  have hs:=Aa l hs
  refine dg 9 1 1 [0,1,12,13,24] hs HD ?_
  refine AK h hs (fun hs h=>?_) (fun hs h=>?_)
  ·refine rg [4] hs ?_
   exact rt h hs b c
  refine sk [0,1,12,13] hs d ?_
  clear d
  obtain ⟨D,h⟩:=Aj h
  refine rl [0,1,12,13] hs (fun e s=>Vl10 ml10 e s (Nat.lt_succ_self _)) ?_
  exact ⟨(a+1),([]),Rl10,ef hs,ef hs,c,h⟩
 ·clear h;rintro e st ⟨Xk7,Rk7,rfl,rfl,c,h⟩
  rw [HZ] at h
  refine td E u q b c ?_
  refine rg [4] hs ?_
  exact rt h hs b c
def RA (rec:Ty→Ty→Option Bool) (n:Nat) (g:Ty) (b:Ty):Option Bool :=
 if (((decide (g.kind=b.kind))&&(decide (g.min=b.min)))&&(decide (g.max=b.max)))&&(decide (g.scale=b.scale)) then
  (IW n g.words b.words).bind fun y4 =>
  if y4 then
   (HJ n g.elem b.elem (fun (h:Ty) (q:Ty)=>rec h q)).bind fun s =>
   if s then
    (Fa n g.fields b.fields (fun (h:Int × ByteArray × Int × Ty × List Vl) (q:Int × ByteArray × Int × Ty × List Vl)=>LE rec n h q)).bind fun y =>
    some (y)
   else
    some (false)
  else
   some (false)
 else
  some (false)
def Pz:Nat→Ty→Ty→Option Bool
 | 0,_,_=>none
 | n+1,g,b=>RA (Pz n) n g b
def SA (w0:World) (F:Ty→Ty→Option Bool):Prop:=∀ (B:List (List AV)) (Rw:List RowA) (L:List LoopA) (g:Ty) (b:Ty) (r:Bool),F g b=some r→ACalls Tryz.prog w0 163 [.agg (g.cs),.agg (b.cs)] ⟨B,Rw,L⟩ fun x st=>x = .val (.bool r)∧st=⟨B,Rw,L⟩
theorem XQ (w0:World) (rec:Ty→Ty→Option Bool) (ih:SA w0 rec) (n:Nat):SA w0 (RA rec n):=by
 intro B Rw L a0 a1 r h
 rw [RA] at h
 refine hd [.tmp 4] Tryz.func163 Tryz.ntmps163 fun M0 W0 w t s a v l hs=>?_
 simp only [As]
 refine rg [2,3] hs ?_
 apply Ah;intro K2 b
 rcases Bool.eq_false_or_eq_true ((((decide (a0.kind=a1.kind))&&(decide (a0.min=a1.min)))&&(decide (a0.max=a1.max)))&&(decide (a0.scale=a1.scale))) with hf3 | hf3
 ·replace h:=AY h hf3
  obtain ⟨q,f,h⟩:=bind_some h
  rcases Bool.eq_false_or_eq_true (q) with hf5 | hf5
  ·replace h:=AY h hf5
   obtain ⟨p,j,h⟩:=bind_some h
   rcases Bool.eq_false_or_eq_true (p) with hf7 | hf7
   ·replace h:=AY h hf7
    obtain ⟨u,m,h⟩:=bind_some h
    have hs:=Aa hf3 hs
    have hs:=Aa hf5 hs
    have hs:=Aa hf7 hs
    refine rk 4 [4] (al hs) ?_
    refine Ai _ (Ic w0 n _ _ _ a0.words a1.words _ f) (hv (al hs)) ?_
    refine nc (al hs) ?_
    refine Ai _ (JK w0 n _ _ _ a0.elem a1.elem 163 [] (fun (e:Ty) (d:Ty)=>rec e d) (fun e d r i o c g k=>by exact ih _ _ _ e d _ i) _ j) (hv (al hs)) ?_
    refine nc (al hs) ?_
    refine Ai _ (Ly w0 n _ _ _ a0.fields a1.fields 207 [] (fun (e:Int × ByteArray × Int × Ty × List Vl) (d:Int × ByteArray × Int × Ty × List Vl)=>LE rec n e d) (fun e d r i o c g k=>by exact Xr w0 rec ih n _ _ _ e d _ i) _ m) (hv (al hs)) ?_
    refine ne (al hs) b ?_
    clear b
    exact rt h hs a l
   ·replace h:=AZ h hf7
    have hs:=Aa hf3 hs
    have hs:=Aa hf5 hs
    have hs:=Aa hf7 hs
    refine rk 4 [4] (al hs) ?_
    refine Ai _ (Ic w0 n _ _ _ a0.words a1.words _ f) (hv (al hs)) ?_
    refine nc (al hs) ?_
    refine Ai _ (JK w0 n _ _ _ a0.elem a1.elem 163 [] (fun (e:Ty) (d:Ty)=>rec e d) (fun e d r i o c g k=>by exact ih _ _ _ e d _ i) _ j) (hv (al hs)) ?_
    refine nc (al hs) ?_
    refine AC ?_
    refine ne (al hs) b ?_
    clear b
    exact rt h hs a l
  ·replace h:=AZ h hf5
   have hs:=Aa hf3 hs
   have hs:=Aa hf5 hs
   refine rk 4 [4] (al hs) ?_
   refine Ai _ (Ic w0 n _ _ _ a0.words a1.words _ f) (hv (al hs)) ?_
   refine nc (al hs) ?_
   refine AC ?_
   refine nc (al hs) ?_
   refine AC ?_
   refine ne (al hs) b ?_
   clear b
   exact rt h hs a l
 ·replace h:=AZ h hf3
  have hs:=Aa hf3 hs
  refine rk 4 [4] (al hs) ?_
  refine AC ?_
  refine nc (al hs) ?_
  refine AC ?_
  refine nc (al hs) ?_
  refine AC ?_
  refine ne (al hs) b ?_
  clear b
  exact rt h hs a l
theorem Vj (w0:World):∀ n:Nat,SA w0 (Pz n)
 | 0=>fun _ _ _ _ _ _ h=>(nomatch h)
 | n+1=>XQ w0 (Pz n) (Vj w0 n) n
theorem Zdv {a b:Nat}:decide ((a:Int)≤(b:Int))=decide (a≤b):=decide_eq_decide.2 ⟨fun h=>by omega,fun h=>by omega⟩
theorem U6 (n:Nat) (a b:List (Vl)) (f:Vl→Vl→Option Int) (hl:a.length≤1000000000)
  (hr:∀ p∈a,∀ q∈b,∃ c,f p q=some c∧(c=0↔p=q)):∀ (k m i:Nat),i+k=a.length→k<m→∃ c,BQ n a b f m i=some c∧(c=0↔a.drop i=b.drop i)
 | k,0,i,_,h=>absurd h (Nat.not_lt_zero _)
 | 0,m+1,i,hi,_=>by
  rw [BQ,Av,Ac (by omega)]
  simp only [Bool.false_eq_true,if_false]
  rw [Ek,Av,List.drop_eq_nil_of_le (show a.length≤i by omega)]
  by_cases h:a.length<b.length
  ·rw [Ad h]
   simp only [if_true]
   exact ⟨-1,rfl,⟨fun h=>absurd h (by decide),fun e=>by have:=List.drop_eq_nil_iff.1 e.symm;omega⟩⟩
  ·rw [Ac h]
   simp only [Bool.false_eq_true,if_false]
   exact ⟨0,rfl,⟨fun _=>(List.drop_eq_nil_of_le (by omega)).symm,fun _=>rfl⟩⟩
 | k+1,m+1,i,hi,hm=>by
  have g:i<a.length:=by omega
  rw [BQ,Av,Ad g]
  simp only [if_true,AD g,Ab,Zdv]
  by_cases d:i<b.length
  ·rw [Ac (show ¬ b.length≤i by omega)]
   simp only [Bool.false_eq_true,if_false,AD d,Ab]
   obtain ⟨c,e,j⟩:=hr _ (List.getElem_mem g) _ (List.getElem_mem d)
   rw [e,S3 _ _ i g d]
   simp only [Ab]
   by_cases h0:c=0
   ·rw [Ad h0]
    simp only [Bool.not_true,Bool.false_eq_true,if_false]
    rw [Ae (AA (by omega))]
    obtain ⟨l,o,d⟩:=U6 n a b f hl hr k m (i+1) (by omega) (by omega)
    exact ⟨l,o,d.trans ⟨fun h=>⟨j.1 h0,h⟩,fun h=>h.2⟩⟩
   ·rw [Ac h0]
    simp only [Bool.not_false,if_true]
    exact ⟨c,rfl,⟨fun h=>absurd h h0,fun h=>absurd (j.2 h.1) h0⟩⟩
  ·rw [Ad (show b.length≤i by omega)]
   simp only [if_true]
   refine ⟨1,rfl,⟨fun h=>absurd h (by decide),fun e=>?_⟩⟩
   rw [List.drop_eq_nil_of_le (show b.length≤i by omega)] at e
   have:=List.drop_eq_nil_iff.1 e
   omega
theorem ZaD (n:Nat) (a b:List (Vl)) (f:Vl→Vl→Option Int) (hl:a.length≤1000000000) (hn:a.length<n)
  (hr:∀ p∈a,∀ q∈b,∃ c,f p q=some c∧(c=0↔p=q)):∃ c,Et n a b f=some c∧(c=0↔a=b) :=
 U6 n a b f hl hr a.length n 0 (by omega) hn
theorem Vq (n:Nat) (a b:List (ByteArray × Vl)) (f:ByteArray × Vl→ByteArray × Vl→Option Int) (hl:a.length≤1000000000)
  (hr:∀ p∈a,∀ q∈b,∃ c,f p q=some c∧(c=0↔p=q)):∀ (k m i:Nat),i+k=a.length→k<m→∃ c,BR n a b f m i=some c∧(c=0↔a.drop i=b.drop i)
 | k,0,i,_,h=>absurd h (Nat.not_lt_zero _)
 | 0,m+1,i,hi,_=>by
  rw [BR,Av,Ac (by omega)]
  simp only [Bool.false_eq_true,if_false]
  rw [Ef,Av,List.drop_eq_nil_of_le (show a.length≤i by omega)]
  by_cases h:a.length<b.length
  ·rw [Ad h]
   simp only [if_true]
   exact ⟨-1,rfl,⟨fun h=>absurd h (by decide),fun e=>by have:=List.drop_eq_nil_iff.1 e.symm;omega⟩⟩
  ·rw [Ac h]
   simp only [Bool.false_eq_true,if_false]
   exact ⟨0,rfl,⟨fun _=>(List.drop_eq_nil_of_le (by omega)).symm,fun _=>rfl⟩⟩
 | k+1,m+1,i,hi,hm=>by
  have g:i<a.length:=by omega
  rw [BR,Av,Ad g]
  simp only [if_true,AD g,Ab,Zdv]
  by_cases d:i<b.length
  ·rw [Ac (show ¬ b.length≤i by omega)]
   simp only [Bool.false_eq_true,if_false,AD d,Ab]
   obtain ⟨c,e,j⟩:=hr _ (List.getElem_mem g) _ (List.getElem_mem d)
   rw [e,S3 _ _ i g d]
   simp only [Ab]
   by_cases h0:c=0
   ·rw [Ad h0]
    simp only [Bool.not_true,Bool.false_eq_true,if_false]
    rw [Ae (AA (by omega))]
    obtain ⟨l,o,d⟩:=Vq n a b f hl hr k m (i+1) (by omega) (by omega)
    exact ⟨l,o,d.trans ⟨fun h=>⟨j.1 h0,h⟩,fun h=>h.2⟩⟩
   ·rw [Ac h0]
    simp only [Bool.not_false,if_true]
    exact ⟨c,rfl,⟨fun h=>absurd h h0,fun h=>absurd (j.2 h.1) h0⟩⟩
  ·rw [Ad (show b.length≤i by omega)]
   simp only [if_true]
   refine ⟨1,rfl,⟨fun h=>absurd h (by decide),fun e=>?_⟩⟩
   rw [List.drop_eq_nil_of_le (show b.length≤i by omega)] at e
   have:=List.drop_eq_nil_iff.1 e
   omega
theorem Zaj (n:Nat) (a b:List (ByteArray × Vl)) (f:ByteArray × Vl→ByteArray × Vl→Option Int) (hl:a.length≤1000000000) (hn:a.length<n)
  (hr:∀ p∈a,∀ q∈b,∃ c,f p q=some c∧(c=0↔p=q)):∃ c,Ew n a b f=some c∧(c=0↔a=b) :=
 Vq n a b f hl hr a.length n 0 (by omega) hn
theorem Zg9 (n:Nat) (l:List Int) (hl:l.length≤1000000000):∀ (k m i:Nat),i+k=l.length→k<m→∃ c,E9 n l m i=some c∧(c=0↔∀ x∈l.drop i,x=0)
 | k,0,i,_,h=>absurd h (Nat.not_lt_zero _)
 | 0,m+1,i,hi,_=>by
  rw [E9,Av,Ac (by omega)]
  simp only [Bool.false_eq_true,if_false]
  exact ⟨0,rfl,by rw [List.drop_eq_nil_of_le (by omega)];simp⟩
 | k+1,m+1,i,hi,hm=>by
  have a:i<l.length:=by omega
  rw [E9,Av,Ad a]
  simp only [if_true,AD a,Ab]
  rw [List.drop_eq_getElem_cons a]
  by_cases h0:l[i]=0
  ·rw [Ad h0]
   simp only [Bool.not_true,Bool.false_eq_true,if_false]
   rw [Ae (AA (by omega))]
   obtain ⟨b,d,e⟩:=Zg9 n l hl k m (i+1) (by omega) (by omega)
   exact ⟨b,d,e.trans ⟨fun h x hx=>by rcases List.mem_cons.1 hx with rfl | hx;exact h0;exact h x hx,fun h x hx=>h x (List.mem_cons_of_mem _ hx)⟩⟩
  ·rw [Ac h0]
   simp only [Bool.not_false,if_true]
   exact ⟨_,rfl,⟨fun h=>absurd h h0,fun h=>absurd (h _ (List.mem_cons_self ..)) h0⟩⟩
theorem ZgX (n:Nat) (l:List Int) (hl:l.length<n) (h2:l.length≤1000000000):∃ c,IL n l=some c∧(c=0↔∀ x∈l,x=0):=Zg9 n l h2 l.length n 0 (by omega) hl
theorem Zb8 (a b:Int):(if a<b then (-1:Int) else if a=b then 0 else 1)=0↔a=b:=by
 by_cases h1:a<b
 ·rw [Ae h1];omega
 ·rw [Af h1]
  by_cases h2:a=b
  ·simp [h2]
  ·simp [h2]
theorem Vl.lens' (v:Vl):v.list.length<v.size∧v.fields.length<v.size:=by have:=NH v.list;have:=N9 v.fields;have:=v.size_eq;omega
theorem OC:∀ (n:Nat) (a b:Vl),a.size+10≤n→a.size≤1000000000→∃ c,F4 n a b=some c∧(c=0↔a=b)
 | 0,a,b,h,_=>by omega
 | n+1,a,b,h,hs=>by
  have w:=a.lens'
  rw [F4,L1]
  obtain ⟨o,r,s⟩:=ZaD n a.list b.list (fun x y=>F4 n x y) (by omega) (by omega) (fun p d q _=>OC n p q (by have:=a.list_size p d;omega) (by have:=a.list_size p d;omega))
  obtain ⟨g,i,j⟩:=Zaj n a.fields b.fields (fun x y=>GI (F4 n) n x y) (by omega) (by omega) (fun p d q _=>by
   obtain ⟨c,e,f⟩:=OC n p.2 q.2 (by have:=a.field_size p d;omega) (by have:=a.field_size p d;omega)
   obtain ⟨g,i,j⟩:=ZgX n [Eo p.1 q.1,c] (by simp;omega) (by simp)
   refine ⟨g,by rw [GI,e,Ab,i];rfl,j.trans ?_⟩
   simp only [List.mem_cons,List.not_mem_nil,or_false,forall_eq_or_imp,forall_eq,Jd,f]
   exact ⟨fun h=>Prod.ext h.1 h.2,fun h=>by rw [h];exact ⟨rfl,rfl⟩⟩)
  rw [r,Ab,i,Ab]
  obtain ⟨c,e,f⟩:=ZgX n [if a.kind<b.kind then -1 else if a.kind=b.kind then 0 else 1,if a.int<b.int then -1 else if a.int=b.int then 0 else 1,if a.scale<b.scale then -1 else if a.scale=b.scale then 0 else 1,Eo a.text b.text,o,g] (by simp;omega) (by simp)
  refine ⟨c,by rw [e];rfl,f.trans ?_⟩
  simp only [List.mem_cons,List.not_mem_nil,or_false,forall_eq_or_imp,forall_eq,Jd,Zb8,s,j]
  exact ⟨fun ⟨u,v,k,l,t,m⟩=>Vl.ext' u v k l t m,fun h=>by rw [h];exact ⟨rfl,rfl,rfl,rfl,rfl,rfl⟩⟩
theorem ZcE (n:Nat) (a b:Vl) (h:a.size+10≤n) (hs:a.size≤1000000000):∃ c,Iy n a b=some c∧(c=true↔a=b):=by
 obtain ⟨c,e,d⟩:=OC n a b h hs
 exact ⟨decide (c=0),by rw [Iy,e];rfl,by rw [decide_eq_true_eq];exact d⟩
theorem Zii {v:Vl} (h:¬ A1 v=true):(¬ ((1≤v.kind∧v.kind≤3)∨v.kind=6∨v.kind=7)→v.int=0)∧(v.kind≠3→v.scale=0)∧(¬ (v.kind=4∨v.kind=5∨v.kind=10)→DR v.text ⟨#[]⟩=true)∧(v.kind≠8→v.kind≠10→v.list.length=0)∧(v.kind≠9→v.fields.length=0):=by
 simp only [A1,Bool.or_eq_true,Bool.and_eq_true,Bool.not_eq_true',Bool.or_eq_false_iff,Bool.and_eq_false_iff,decide_eq_false_iff_not,decide_eq_true_eq,not_or,not_and] at h
 obtain ⟨⟨⟨⟨c,b⟩,e⟩,d⟩,f⟩:=h
 refine ⟨fun q=>?_,fun q=>?_,fun q=>?_,fun q a=>?_,fun q=>?_⟩
 ·by_cases z:v.int=0
  ·exact z
  ·exact absurd z (c (by omega))
 ·by_cases z:v.scale=0
  ·exact z
  ·exact absurd z (b q)
 ·cases z:DR v.text ⟨#[]⟩ with
  | true=>rfl
  | false=>exact absurd z (e (by omega))
 ·have:=d ⟨q,a⟩;omega
 ·have:=f q;omega
theorem Zbb:∀ (l:List (ByteArray × Vl)) (o:Option ByteArray),Nl o (l.map Prod.fst)=0→SS l∧∀ w,o=some w→∀ p∈l,Eo w p.1<0
 | [],o,_=>⟨.nil,by simp⟩
 | p::r,o,h=>by
  rw [List.map_cons] at h
  have a:Nl (some p.1) (r.map Prod.fst)=0∧∀ w,o=some w→Eo w p.1<0:=by
   cases o with
   | none =>
    rw [Nl] at h
    split at h
    ·exact ⟨h,fun w q=>by cases q⟩
    ·cases h
   | some w =>
    rw [Nl] at h
    split at h
    ·split at h
     ·cases h
     ·split at h
      ·cases h
      ·rename_i e1 e2
       refine ⟨h,fun u q=>?_⟩
       cases q
       rw [T8,decide_eq_true_eq] at e2
       have e:=M6 w p.1
       have:Eo p.1 w≠0:=fun z=>e1 ((D5 _ _).2 ((Jd _ _).1 z))
       omega
    ·cases h
  obtain ⟨d,c⟩:=Zbb r (some p.1) a.1
  refine ⟨List.pairwise_cons.2 ⟨fun q hq=>c p.1 rfl q hq,d⟩,fun w b q hq=>?_⟩
  rcases List.mem_cons.1 hq with rfl | hq
  ·exact a.2 w b
  ·exact Po (a.2 w b) (c p.1 rfl q hq)
theorem Zal {v:Vl} (h:Ep v=0):AB v=true:=by
 obtain ⟨b,a⟩:=KJ h
 obtain ⟨u1,u2,u3,u4,u5⟩:=Zii a
 have c:¬ BJ v=true:=fun q=>by rw [Ep,Ae q] at h;exact absurd h (by decide)
 rw [Ep,Af c,Af b,Af a] at h
 rcases Fe b with tk | tk | tk | tk | tk | tk | tk | tk | tk | tk
 ·rw [Ae tk] at h
  split at h
  ·cases h
  ·rename_i q
   rw [A6] at q
   simp only [Bool.or_eq_true,decide_eq_true_eq,not_or] at q
   have:v.int=0∨v.int=1:=by omega
   rcases this with z | z<;>simp [AB,bare,tk,u2,u3,u4,u5,z]
 ·simp [AB,bare,tk,u2,u3,u4,u5]
 ·simp [AB,bare,tk,u2,u3,u4,u5]
 ·rw [Af (by omega),Af (by omega),Af (by omega),Ae tk] at h
  split at h
  ·cases h
  ·split at h
   ·rename_i q;simp [AB,bare,tk,u1,u2,u3,u4,u5,q]
   ·cases h
 ·simp [AB,bare,tk,u1,u2,u3,u4,u5]
 ·simp [AB,bare,tk,u1,u2,u3,u4,u5]
 ·simp [AB,bare,tk,u1,u2,u3,u4,u5]
 ·simp [AB,bare,tk,u1,u2,u3,u4,u5]
 ·rw [Af (by omega),Af (by omega),Af (by omega),Af (by omega),Af (by omega),Af (by omega),Af (by omega),Af (by omega),Ae tk] at h
  split at h
  ·cases h
  ·have:=(X5 v.fields).2 (Zbb v.fields none h).1
   simp [AB,bare,tk,u1,u2,u3,u4,u5,this]
 ·rw [Af (by omega),Af (by omega),Af (by omega),Af (by omega),Af (by omega),Af (by omega),Af (by omega),Af (by omega),Af (by omega)] at h
  split at h
  ·split at h
   ·cases h
   ·split at h
    ·cases h
    ·have:v.list.length=1:=by omega
     simp [AB,bare,tk,u1,u2,u3,u4,u5,this]
  ·cases h
def XK (e:Nat) (t:Ty) (v:Vl):Prop:=Dp e t v=true∧Cb e t v=v
theorem J3 {t:Ty} {v:Vl} (k:1≤t.kind∧t.kind≤10) (hk:v.kind=t.kind) (hf:AB v=true):¬ ((t.kind<1∨10<t.kind)∨v.kind≠t.kind∨AB v=false):=by
 rintro (q | q | q)
 ·omega
 ·exact q hk
 ·rw [hf] at q;cases q
theorem Z2 {t:Ty} {v:Vl} (hk:v.kind=t.kind) (hf:AB v=true):¬ (v.kind≠t.kind∨AB v=false):=by
 rintro (q | q)
 ·exact q hk
 ·rw [hf] at q;cases q
theorem ZaR {f:Ty→Vl→Vl} {t:Ty} {v:Vl} (h8:t.kind≠8) (h9:t.kind≠9) (h10:t.kind≠10):DL f t v=v:=by rw [DL,Af h8,Af h9,Af h10]
theorem GG {e:Nat} {t:Ty} {v:Vl} (h8:t.kind≠8) (h9:t.kind≠9) (h10:t.kind≠10) (h:Dp (e+1) t v=true):XK (e+1) t v:=by
 refine ⟨h,?_⟩
 rw [Cb]
 split
 ·rfl
 ·exact ZaR h8 h9 h10
theorem Zh {α:Type} {l:List α} {f:α→α} (h:∀ x∈l,f x=x):l.map f=l:=by
 conv=>rhs;rw [←List.map_id l]
 exact List.map_congr_left fun x a=>h x a
theorem WP {e:Nat} {t x:Ty} {v:Vl} (tk:t.kind=8) (vk:v.kind=8) (hf:AB v=true) (hx:t.elem=[x]) (hb:JX v.list.length t=true) (h:∀ u∈v.list,XK e x u):XK (e+1) t v:=by
 constructor
 ·rw [Dp,Af (J3 (by omega) (by omega) hf),Af (by omega),Af (by omega),Af (by omega),Af (by omega),Ae tk,hb,Bool.true_and,List.all_eq_true]
  intro u a
  rw [hx];exact (h u a).1
 ·rw [Cb,Af (Z2 (by omega) hf),Af (by omega),DL,Ae tk,hx]
  simp only
  rw [Zh fun u a=>(h u a).2,Vl.eta]
theorem WB {e:Nat} {t:Ty} {v x:Vl} {p:TF} (tk:t.kind=10) (vk:v.kind=10) (hf:AB v=true) (hp:A5 t v.text=some p) (hx:v.list=[x]) (h:XK e p.2.2.2.1 x):XK (e+1) t v:=by
 constructor
 ·rw [Dp,Af (J3 (by omega) (by omega) hf),Af (by omega),Af (by omega),Af (by omega),Af (by omega),Af (by omega),Af (by omega),Ae tk,hp,hx]
  exact h.1
 ·rw [Cb,Af (Z2 (by omega) hf),Af (by omega),DL,Af (by omega),Af (by omega),Ae tk,hp,hx]
  simp only
  rw [h.2,←hx,Vl.eta]
theorem Zbn:∀ (ps:List TF) (l:List (ByteArray × Vl)),(∀ p∈ps,p.2.2.1=3→YM l p.2.1=true)→O2 ps l=l
 | [],l,_=>rfl
 | p::ps,l,h=>by
  rw [O2,Zdj]
  have ih:=Zbn ps l fun q a=>h q (List.mem_cons_of_mem _ a)
  by_cases c:p.2.2.1=3∧p.2.2.2.2.length=1
  ·rw [Ae c,List.getElem?_eq_getElem (by omega)]
   simp only
   rw [Ae (h p (List.mem_cons_self ..) c.1)]
   exact ih
  ·rw [Af c];exact ih
theorem H4 {v:Vl} (hs:SS v.fields) {q:ByteArray × Vl} (hq:q∈v.fields):B9 v q.1=some q.2:=by
 rw [B9]
 cases c:v.fields.find? (fun x=>DR x.1 q.1) with
 | none =>
  rw [List.find?_eq_none] at c
  exact absurd (Eb q.1) (c q hq)
 | some z =>
  have e:=List.mem_of_find?_eq_some c
  have d:z.1=q.1:=(D5 _ _).1 (List.find?_some (p:=fun x:ByteArray × Vl=>DR x.1 q.1) c)
  have:z=q:=by
   obtain ⟨i,b,rfl⟩:=List.mem_iff_getElem.1 e
   obtain ⟨j,a,rfl⟩:=List.mem_iff_getElem.1 hq
   rcases Nat.lt_trichotomy i j with w | w | w
   ·have:=List.pairwise_iff_getElem.1 hs i j b a w
    rw [d,I7] at this;omega
   ·subst w;rfl
   ·have:=List.pairwise_iff_getElem.1 hs j i a b w
    rw [d,I7] at this;omega
  rw [this];rfl
theorem Zaz {v y:Vl} {w:ByteArray} (h:B9 v w=some y):YM v.fields w=true:=by
 obtain ⟨q,a,e,_⟩:=H6 h
 exact NT.2 ⟨q,a,e⟩
theorem Zb {e:Nat} {t:Ty} {v:Vl} (tk:t.kind=9) (vk:v.kind=9) (hf:AB v=true) (h1:∀ p∈t.fields,(∃ y,B9 v p.2.1=some y∧XK e p.2.2.2.1 y)∨(B9 v p.2.1=none∧p.2.2.1=2)) (h2:∀ q∈v.fields,(A5 t q.1).isSome=true):XK (e+1) t v:=by
 have hs:=KF hf vk
 constructor
 ·rw [Dp,Af (J3 (by omega) (by omega) hf),Af (by omega),Af (by omega),Af (by omega),Af (by omega),Af (by omega),Ae tk,Bool.and_eq_true,List.all_eq_true,List.all_eq_true]
  refine ⟨fun p a=>?_,h2⟩
  rcases h1 p a with ⟨y,hy,hd⟩ | ⟨hy,hd⟩
  ·rw [hy];exact hd.1
  ·rw [hy];exact Ad hd
 ·have f:DL (Cb e) t v=v:=by
   rw [DL,Af (by omega),Ae tk]
   refine (congrArg (V9 v) (Zh (l:=v.fields) fun q d=>?_)).trans (Vl.eta v)
   split
   ·rename_i p c
    obtain ⟨a,b⟩:=Bg c
    have hv:=H4 hs d
    rcases h1 p a with ⟨y,hy,hd⟩ | ⟨hy,_⟩
    ·rw [b,hv] at hy
     cases hy
     rw [hd.2]
    ·rw [b,hv] at hy;cases hy
   ·rfl
  rw [Cb,Af (Z2 (by omega) hf),Ae tk,f,Zbn t.fields v.fields fun p a g=>?_]
  ·exact Vl.eta v
  ·rcases h1 p a with ⟨y,hy,_⟩ | ⟨_,h⟩
   ·exact Zaz hy
   ·omega
def Jl (rec:Ty→Ty→Option Bool) (n:Nat) (q:Ty) (b:Int × ByteArray × Int × Ty × List Vl):Option Bool :=
 (CY n q.fields b.1).bind fun g =>
 if !g.2 then
  some (!(decide (b.2.2.1=1)))
 else
  (rec g.1.2.2.2.1 b.2.2.2.1).bind fun h =>
  some (h&&(!((decide (b.2.2.1=1))&&(decide (g.1.2.2.1=2)))))
theorem UU (w0:World) (rec:Ty→Ty→Option Bool) (ih:∀ (B:List (List AV)) (Rw:List RowA) (L:List LoopA) (a0:Ty) (a1:Ty) (r:Bool) (h:rec a0 a1=some r),ACalls Tryz.prog w0 90 [.agg (a0.cs),.agg (a1.cs)] ⟨B,Rw,L⟩ fun x st=>x = .val (.bool r)∧st=⟨B,Rw,L⟩) (n:Nat) (B:List (List AV)) (Rw:List RowA) (L:List LoopA) (a0:Ty) (a1:Int × ByteArray × Int × Ty × List Vl) (r:Bool) (h:Jl rec n a0 a1=some r) :
  ACalls Tryz.prog w0 152 [.agg (a0.cs),.agg (.val (.int .i64 a1.1)::(.val (.string a1.2.1)::(.val (.int .i64 a1.2.2.1)::((a1.2.2.2.1.cs)++([.list (a1.2.2.2.2.map Bq) .none])))))] ⟨B,Rw,L⟩ fun x st=>x = .val (.bool r)∧st=⟨B,Rw,L⟩:=by
 rw [Jl] at h
 refine hd [.tmp 4] Tryz.func152 Tryz.ntmps152 fun M0 W0 m i k a l g hs=>?_
 simp only [As]
 refine rg [2,3] hs ?_
 obtain ⟨j,f,h⟩:=bind_some h
 refine rc 2 [3,5,6] hs ?_;intro K2 b
 refine Ai _ (EH w0 n _ _ _ a0.fields a1.1 _ f) (hv hs) ?_
 refine ne hs b ?_
 clear b
 apply Ah;intro K4 d
 refine rg [3,5,16] hs ?_
 refine AK h hs (fun hs h=>?_) (fun hs h=>?_)
 ·refine rg [4] hs ?_
  exact rt h hs a g
 refine sk [3,5] hs d ?_
 clear d
 obtain ⟨o,e,h⟩:=bind_some h
 refine rc 2 [4] hs ?_;intro K8 c
 refine Ai _ (ih _ _ _ j.1.2.2.2.1 a1.2.2.2.1 _ e) (hv hs) ?_
 refine ne hs c ?_
 clear c
 exact rt h hs a g
def CU (rec:Ty→Ty→Option Bool) (n:Nat) (g:Int × ByteArray × Int × Ty × List Vl) (b:Ty):Option Bool :=
 (Jl rec n b g).bind fun h =>
 some (!h)
theorem Ob (w0:World) (rec:Ty→Ty→Option Bool) (ih:∀ (B:List (List AV)) (Rw:List RowA) (L:List LoopA) (a0:Ty) (a1:Ty) (r:Bool) (h:rec a0 a1=some r),ACalls Tryz.prog w0 90 [.agg (a0.cs),.agg (a1.cs)] ⟨B,Rw,L⟩ fun x st=>x = .val (.bool r)∧st=⟨B,Rw,L⟩) (n:Nat) (B:List (List AV)) (Rw:List RowA) (L:List LoopA) (a0:Int × ByteArray × Int × Ty × List Vl) (la1:Nat) (a1:Ty) (hla1:B[la1]? = some (a1.cs)) (r:Bool) (h:CU rec n a0 a1=some r) :
  ACalls Tryz.prog w0 151 [.agg (.val (.int .i64 a0.1)::(.val (.string a0.2.1)::(.val (.int .i64 a0.2.2.1)::((a0.2.2.2.1.cs)++([.list (a0.2.2.2.2.map Bq) .none]))))),.box la1 0] ⟨B,Rw,L⟩ fun x st=>x = .val (.bool r)∧st=⟨B,Rw,L⟩:=by
 rw [CU] at h
 refine hd [.tmp 3] Tryz.func151 Tryz.ntmps151 fun M0 W0 j e g a i f hs=>?_
 simp only [As]
 have c:=(Ag.1 hla1).1
 have hs:=Aa (An hla1) hs
 refine rg [1,2] hs ?_
 obtain ⟨k,d,h⟩:=bind_some h
 refine rc 2 [3] hs ?_;intro K2 b
 refine Ai _ (UU w0 rec ih n _ _ _ a1 a0 _ d) (hv hs) ?_
 refine ne hs b ?_
 clear b
 exact rt h hs a f
def IE (rec:Ty→Ty→Option Bool) (n:Nat) (b:Int × ByteArray × Int × Ty × List Vl) (h:Ty):Option Bool :=
 (CY n h.fields b.1).bind fun g =>
 if g.2 then
  (rec b.2.2.2.1 g.1.2.2.2.1).bind fun q =>
  some (q)
 else
  some (false)
theorem TJ (w0:World) (rec:Ty→Ty→Option Bool) (ih:∀ (B:List (List AV)) (Rw:List RowA) (L:List LoopA) (a0:Ty) (a1:Ty) (r:Bool) (h:rec a0 a1=some r),ACalls Tryz.prog w0 90 [.agg (a0.cs),.agg (a1.cs)] ⟨B,Rw,L⟩ fun x st=>x = .val (.bool r)∧st=⟨B,Rw,L⟩) (n:Nat) (B:List (List AV)) (Rw:List RowA) (L:List LoopA) (a0:Int × ByteArray × Int × Ty × List Vl) (a1:Ty) (r:Bool) (h:IE rec n a0 a1=some r) :
  ACalls Tryz.prog w0 154 [.agg (.val (.int .i64 a0.1)::(.val (.string a0.2.1)::(.val (.int .i64 a0.2.2.1)::((a0.2.2.2.1.cs)++([.list (a0.2.2.2.2.map Bq) .none]))))),.agg (a1.cs)] ⟨B,Rw,L⟩ fun x st=>x = .val (.bool r)∧st=⟨B,Rw,L⟩:=by
 rw [IE] at h
 refine hd [.tmp 4] Tryz.func154 Tryz.ntmps154 fun M0 W0 m i j a l f hs=>?_
 simp only [As]
 refine rg [2,3] hs ?_
 obtain ⟨g,d,h⟩:=bind_some h
 refine rc 2 [2,5,6] hs ?_;intro K2 c
 refine Ai _ (EH w0 n _ _ _ a1.fields a0.1 _ d) (hv hs) ?_
 refine ne hs c ?_
 clear c
 apply Ah;intro K4 b
 rcases Bool.eq_false_or_eq_true (g.2) with hf5 | hf5
 ·replace h:=AY h hf5
  obtain ⟨k,e,h⟩:=bind_some h
  have hs:=Aa hf5 hs
  refine rk 2 [4] hs ?_
  refine Ai _ (ih _ _ _ a0.2.2.2.1 g.1.2.2.2.1 _ e) (hv hs) ?_
  refine ne hs b ?_
  clear b
  exact rt h hs a f
 ·replace h:=AZ h hf5
  have hs:=Aa hf5 hs
  refine rk 2 [4] hs ?_
  refine AC ?_
  refine ne hs b ?_
  clear b
  exact rt h hs a f
def CQ (rec:Ty→Ty→Option Bool) (n:Nat) (g:Int × ByteArray × Int × Ty × List Vl) (b:Ty):Option Bool :=
 (IE rec n g b).bind fun h =>
 some (!h)
theorem NX (w0:World) (rec:Ty→Ty→Option Bool) (ih:∀ (B:List (List AV)) (Rw:List RowA) (L:List LoopA) (a0:Ty) (a1:Ty) (r:Bool) (h:rec a0 a1=some r),ACalls Tryz.prog w0 90 [.agg (a0.cs),.agg (a1.cs)] ⟨B,Rw,L⟩ fun x st=>x = .val (.bool r)∧st=⟨B,Rw,L⟩) (n:Nat) (B:List (List AV)) (Rw:List RowA) (L:List LoopA) (a0:Int × ByteArray × Int × Ty × List Vl) (la1:Nat) (a1:Ty) (hla1:B[la1]? = some (a1.cs)) (r:Bool) (h:CQ rec n a0 a1=some r) :
  ACalls Tryz.prog w0 153 [.agg (.val (.int .i64 a0.1)::(.val (.string a0.2.1)::(.val (.int .i64 a0.2.2.1)::((a0.2.2.2.1.cs)++([.list (a0.2.2.2.2.map Bq) .none]))))),.box la1 0] ⟨B,Rw,L⟩ fun x st=>x = .val (.bool r)∧st=⟨B,Rw,L⟩:=by
 rw [CQ] at h
 refine hd [.tmp 3] Tryz.func153 Tryz.ntmps153 fun M0 W0 j e g a i f hs=>?_
 simp only [As]
 have c:=(Ag.1 hla1).1
 have hs:=Aa (An hla1) hs
 refine rg [1,2] hs ?_
 obtain ⟨k,d,h⟩:=bind_some h
 refine rc 2 [3] hs ?_;intro K2 b
 refine Ai _ (TJ w0 rec ih n _ _ _ a0 a1 _ d) (hv hs) ?_
 refine ne hs b ?_
 clear b
 exact rt h hs a f
def FM (n:Nat) (b:Ty) (g:Ty):Option Bool :=
 (Dl n b.min b.scale g.scale).bind fun q =>
 (Dl n b.max b.scale g.scale).bind fun h =>
 some ((((q.2&&h.2)&&(Bo q.1 g))&&(Bo h.1 g))&&((decide (b.scale≤g.scale))||(decide (b.min=b.max))))
theorem QZ (w0:World) (n:Nat) (B:List (List AV)) (Rw:List RowA) (L:List LoopA) (a0:Ty) (a1:Ty) (r:Bool) (h:FM n a0 a1=some r) :
  ACalls Tryz.prog w0 147 [.agg (a0.cs),.agg (a1.cs)] ⟨B,Rw,L⟩ fun x st=>x = .val (.bool r)∧st=⟨B,Rw,L⟩:=by
 rw [FM] at h
 refine hd [.tmp 4] Tryz.func147 Tryz.ntmps147 fun M0 W0 o i l a m j hs=>?_
 simp only [As]
 refine rg [2,3] hs ?_
 obtain ⟨k,f,h⟩:=bind_some h
 refine rc 2 [2,3,5,6] hs ?_;intro K2 c
 refine Ai _ (IC w0 n _ _ _ a0.min a0.scale a1.scale _ f) (hv hs) ?_
 refine ne hs c ?_
 clear c
 obtain ⟨g,e,h⟩:=bind_some h
 refine rc 2 [2,3,5,6,7,8] hs ?_;intro K4 d
 refine Ai _ (IC w0 n _ _ _ a0.max a0.scale a1.scale _ e) (hv hs) ?_
 refine ne hs d ?_
 clear d
 refine rc 3 [4] hs ?_;intro K6 b
 refine EL _ (fun _=>C7 w0 _ _ _ k.1 a1) (hv hs) ?_
 refine nc hs ?_
 refine EL _ (fun _=>C7 w0 _ _ _ g.1 a1) (hv hs) ?_
 refine ne hs b ?_
 clear b
 exact rt h hs a j
def EC (n:Nat) (h:ByteArray) (b:Ty) (g:Ty):Option Bool :=
 (AM n b g (GE h)).bind fun q =>
 some (!q.2)
theorem Rm (w0:World) (n:Nat) (B:List (List AV)) (Rw:List RowA) (L:List LoopA) (a0:ByteArray) (la1:Nat) (a1:Ty) (hla1:B[la1]? = some (a1.cs)) (la2:Nat) (a2:Ty) (hla2:B[la2]? = some (a2.cs)) (r:Bool) (h:EC n a0 a1 a2=some r) :
  ACalls Tryz.prog w0 200 [.val (.string a0),.box la1 0,.box la2 0] ⟨B,Rw,L⟩ fun x st=>x = .val (.bool r)∧st=⟨B,Rw,L⟩:=by
 rw [EC] at h
 refine hd [.tmp 4] Tryz.func200 Tryz.ntmps200 fun M0 W0 l f j a k g hs=>?_
 simp only [As]
 have c:=(Ag.1 hla1).1
 have d:=(Ag.1 hla2).1
 have hs:=Aa (An hla1) hs
 have hs:=Aa (An hla2) hs
 refine rg [0,1,2] hs ?_
 apply Ah;intro K2 b
 obtain ⟨m,e,h⟩:=bind_some h
 apply Ju HD [8,9] [6] kr (fun s=>∃ (X:List (List AV)) (rows:List RowA),s=⟨B++([]++X),rows,L⟩) 3 (B.length+0)
 ·simp +decide only [go_sem,Nat.reduceAdd]
 ·rintro s ⟨X,rows,rfl⟩
  refine ⟨3,?_⟩
  rw [Am];simp +decide only [go_sem,Nat.reduceAdd,EM,An hla1,An hla2]
  (repeat' apply Aa)<;>first | refine Ai _ (VM w0 _ _ _ a0) (hv hs) ?_ | exact cl
  rw [Am];simp +decide only [go_sem,Nat.reduceAdd,An hla1,An hla2]
  (repeat' apply Aa)<;>first | refine Ai _ (IH w0 n _ _ _ a1 a2 (GE a0) _ e) (hv hs) ?_ | exact cl
  rw [Am];simp +decide only [go_sem,Nat.reduceAdd,An hla1,An hla2]
  (repeat' apply Aa)<;>first | rfl | exact cl
 ·refine Good.mk [8] kr ⟨[],_,by first | rfl | (simp only [List.append_nil,List.nil_append];done) | (simp only [List.append_nil,List.nil_append];rfl)⟩ ?_ ?_
  ·intro h;exact absurd h (by decide)
  ·intro i hi;simp only [List.mem_cons,List.not_mem_nil,or_false] at hi
   subst hi
   ·apply DG rfl rfl ev
    ·simp +decide only [go_sem,Nat.reduceAdd,FT,An hla1,An hla2]
     (repeat' apply Aa)<;>first | rfl | exact cl
    ·simp +decide only [go_sem,Nat.reduceAdd,An hla1,An hla2]
     refine Good.mk [9] kr ⟨_,_,by first | rfl | (simp only [List.append_nil,List.nil_append];done) | (simp only [List.append_nil,List.nil_append];rfl)⟩ ?_ ?_
     ·intro h;exact absurd h (by decide)
     ·intro i hi;simp only [List.mem_cons,List.not_mem_nil,or_false] at hi
      subst hi
      ·apply DG rfl rfl ev
       ·simp +decide only [go_sem,Nat.reduceAdd,FT,An hla1,An hla2]
        (repeat' apply Aa)<;>first | rfl | exact cl
       ·simp +decide only [go_sem,Nat.reduceAdd,An hla1,An hla2]
        refine Good.mk [] kr ⟨_,_,by first | rfl | (simp only [List.append_nil,List.nil_append];done) | (simp only [List.append_nil,List.nil_append];rfl)⟩ ?_ ?_
        ·intro _;apply DF [6];first | (simp +decide only [go_sem,Nat.reduceAdd,An hla1,An hla2];done) | (simp +decide only [go_sem,Nat.reduceAdd,An hla1,An hla2];rfl)
        ·intro i hi;cases hi
 simp +decide only [go_sem,Nat.reduceAdd,An hla1,An hla2]
 (repeat' apply Aa)<;>first | refine b _ _ ?_ | exact cl
 clear b
 refine rg [4] hs ?_
 exact rt h hs a g
def C0 (g:Ty) (b:Ty):Bool :=
 (decide (b.min≤g.min))&&(decide (g.max≤b.max))
theorem Tz (w0:World) (B:List (List AV)) (Rw:List RowA) (L:List LoopA) (a0:Ty) (a1:Ty) (r:Bool) (h:C0 a0 a1=r) :
  ACalls Tryz.prog w0 149 [.agg (a0.cs),.agg (a1.cs)] ⟨B,Rw,L⟩ fun x st=>x = .val (.bool r)∧st=⟨B,Rw,L⟩:=by
 rw [C0] at h
 refine hd [.tmp 4] Tryz.func149 Tryz.ntmps149 fun M0 W0 f b d a e c hs=>?_
 simp only [As]
 refine rg [2,3] hs ?_
 refine rg [4] hs ?_
 exact rT h hs a c
theorem EF (w0:World) (B:List (List AV)) (Rw:List RowA) (L:List LoopA) (a0:Ty) (a1:Ty) :
  ACalls Tryz.prog w0 149 [.agg (a0.cs),.agg (a1.cs)] ⟨B,Rw,L⟩ fun x st=>x = .val (.bool (C0 a0 a1))∧st=⟨B,Rw,L⟩:=Tz w0 B Rw L a0 a1 _ rfl
def Gg (n:Nat)  : Option Int :=
 some ((-1))
def BV (n:Nat) (h:List ByteArray) (s:ByteArray→Option Bool):Nat→Int→Option Int
 | 0,_=>none
 | m+1,b =>
  if decide (b<(h.length:Int)) then
   (Ci h b).bind fun q =>
   (s q).bind fun g =>
   if g then
    some (b)
   else
    if B2 (b+1) then
     (BV n h s m) (b+1)
    else none
  else
   Gg n 
def ES (n:Nat) (g:List ByteArray) (b:ByteArray→Option Bool):Option Int :=
 BV n g b n 0
theorem Nv (w0:World) (n:Nat) (B:List (List AV)) (Rw:List RowA) (L:List LoopA) (a0:List ByteArray) (fa1:FuncId) (ca1:List AV) (a1:ByteArray→Option Bool) (ha1:∀ (x0:ByteArray) r,a1 x0=some r→∀ B' rows,B <+: B'→Rw <+: rows→ACalls Tryz.prog w0 fa1 ([.val (.string x0)]++ca1) ⟨B',rows,L⟩ fun v s=>v = .val (.bool r)∧s=⟨B',rows,L⟩) (r:Int) (h:ES n a0 a1=some r) :
  ACalls Tryz.prog w0 229 [.list (a0.map NJ) .none,.clo fa1 ca1] ⟨B,Rw,L⟩ fun x st=>x = .val (.int .i64 r)∧st=⟨B,Rw,L⟩:=by
 rw [ES] at h
 refine hd [.tmp 4] Tryz.func229 Tryz.ntmps229 fun M0 W0 C t o c F d hs=>?_
 simp only [As]
 have a:=Cm (F (.clo fa1 ca1) (by simp))
 refine rg [0,1] hs ?_
 refine Au (fun e st=>Ck e st B Rw L [] [] [] (Gg n  = some r)) ?_ ?_
 ·intro K4 z
  refine rg [0,1,7,8] hs ?_
  apply Ak
  refine Az (fun m e st=>∃ (b:Int),Ck e st B Rw L [(0,true,.list (a0.map NJ) .none),(1,true,.clo fa1 ca1),(7,true,.val (.int .i64 (a0.length:Int))),(8,true,.val (.int .i64 b))] [] [] (BV n a0 a1 m b=some r)) n ⟨0,([]),Rw,ef hs,ef hs,d,h⟩ ?_
  rintro ml6 e st ⟨b,Xl6,Rl6,rfl,rfl,d,h⟩ Ul6 Vl6
  cases ml6 with
  | zero=>cases h
  | succ ml6 =>
  rw [BV] at h
  refine AX C t o rfl c d (Jp a d) (Jp a d) ?_
  refine rg [0,1,7,8,9] hs ?_
  apply Ah;intro K8 q
  refine AK h hs (fun hs h=>?_) (fun hs h=>?_)
  rotate_left
  ·refine sx [] hs z ?_
   exact ⟨([]),Rl6,ef hs,ef hs,d,h⟩
  refine sk [0,1,7,8] hs q ?_
  clear q
  apply Ah;intro K10 g
  apply Ak
  refine rg [0,1,5,7,8] hs ?_
  obtain ⟨y,l,h⟩:=bind_some h
  obtain ⟨w,u,k⟩:=Aw l
  have j:=Ax (f:=NJ) k
  obtain ⟨E,p,h⟩:=bind_some h
  have hs:=Aa j hs
  refine rc 2 [0,1,5,7,8,16] hs ?_;intro K12 i
  refine Gq _ (ha1 y _ p _ _ px d.pre) (hv hs) ?_
  refine ne hs i ?_
  clear i
  refine AK h hs (fun hs h=>?_) (fun hs h=>?_)
  ·refine rg [4] hs ?_
   exact rt h hs c d
  refine sk [0,1,7,8] hs g ?_
  clear g
  obtain ⟨D,h⟩:=Aj h
  refine rl [0,1,7,8] hs (fun e s=>Vl6 ml6 e s (Nat.lt_succ_self _)) ?_
  exact ⟨(b+1),([]),Rl6,ef hs,ef hs,d,h⟩
 ·clear h;rintro e st ⟨Xk3,Rk3,rfl,rfl,d,h⟩
  rw [Gg] at h
  refine AX C t o rfl c d (Jp a d) (Jp a d) ?_
  refine rg [4] hs ?_
  exact rt h hs c d
def CV (n:Nat) (g:List ByteArray) (b:ByteArray→Option Bool):Option Bool :=
 (ES n g b).bind fun h =>
 some (decide (0≤h))
theorem Lu (w0:World) (n:Nat) (B:List (List AV)) (Rw:List RowA) (L:List LoopA) (a0:List ByteArray) (fa1:FuncId) (ca1:List AV) (a1:ByteArray→Option Bool) (ha1:∀ (x0:ByteArray) r,a1 x0=some r→∀ B' rows,B <+: B'→Rw <+: rows→ACalls Tryz.prog w0 fa1 ([.val (.string x0)]++ca1) ⟨B',rows,L⟩ fun v s=>v = .val (.bool r)∧s=⟨B',rows,L⟩) (r:Bool) (h:CV n a0 a1=some r) :
  ACalls Tryz.prog w0 199 [.list (a0.map NJ) .none,.clo fa1 ca1] ⟨B,Rw,L⟩ fun x st=>x = .val (.bool r)∧st=⟨B,Rw,L⟩:=by
 rw [CV] at h
 refine hd [.tmp 4] Tryz.func199 Tryz.ntmps199 fun M0 W0 p j l b i g hs=>?_
 simp only [As]
 have e:=Cm (i (.clo fa1 ca1) (by simp))
 refine rg [0,1] hs ?_
 obtain ⟨q,f,h⟩:=bind_some h
 refine rc 2 [4] hs ?_;intro K2 c
 refine Ai _ (Nv w0 n _ _ _ a0 fa1 ca1 a1 (fun x0 r k d a m o=>ha1 x0 r k d a (List.IsPrefix.trans px m) (g.pre.trans o)) _ f) (hv hs) ?_
 refine ne hs c ?_
 clear c
 exact rt h hs b g
def Hj (n:Nat) (b:Ty) (g:Ty):Option Bool :=
 if decide (0<(b.words.length:Int)) then
  (CV n b.words (fun (s:ByteArray)=>EC n s b g)).bind fun q =>
  some (!q)
 else
  if decide (0<(g.words.length:Int)) then
   if decide (b.max=0) then
    (BG n g.words ((⟨#[]⟩:ByteArray))).bind fun h =>
    some (h)
   else
    some (false)
  else
   some (C0 b g)
theorem TN (w0:World) (n:Nat) (B:List (List AV)) (Rw:List RowA) (L:List LoopA) (a0:Ty) (a1:Ty) (r:Bool) (h:Hj n a0 a1=some r) :
  ACalls Tryz.prog w0 148 [.agg (a0.cs),.agg (a1.cs)] ⟨B,Rw,L⟩ fun x st=>x = .val (.bool r)∧st=⟨B,Rw,L⟩:=by
 rw [Hj] at h
 refine hd [.tmp 4] Tryz.func148 Tryz.ntmps148 fun M0 W0 v q o a u i hs=>?_
 simp only [As]
 refine rg [2,3] hs ?_
 apply Ah;intro K2 e
 apply Ak
 refine rg [2,3,5] hs ?_
 refine AK h hs (fun hs h=>?_) (fun hs h=>?_)
 ·obtain ⟨t,l,h⟩:=bind_some h
  refine rc 2 [4] hs ?_;intro K5 g
  refine Ai _ (Lu w0 n _ _ _ a0.words 200 [.box B.length 0,.box (B.length+1) 0] (fun (k:ByteArray)=>EC n k a0 a1) (fun k r p w j d s=>by exact Rm w0 n _ _ _ k _ a0 (DW d (ef hs)) _ a1 (DW d (ef hs)) _ p) _ l) (hv hs) ?_
  refine ne hs g ?_
  clear g
  exact rt h hs a i
 refine rg [2,3,15] hs ?_
 refine AK h hs (fun hs h=>?_) (fun hs h=>?_)
 ·apply Ah;intro K9 b
  rcases Bool.eq_false_or_eq_true (decide (a0.max=0)) with hf10 | hf10
  ·replace h:=AY h hf10
   obtain ⟨m,f,h⟩:=bind_some h
   have hs:=Aa hf10 hs
   refine rk 2 [4] hs ?_
   refine Ai _ (ER w0 n _ _ _ a1.words ((⟨#[]⟩:ByteArray)) _ f) (hv hs) ?_
   refine ne hs b ?_
   clear b
   exact rt h hs a i
  ·replace h:=AZ h hf10
   have hs:=Aa hf10 hs
   refine rk 2 [4] hs ?_
   refine AC ?_
   refine ne hs b ?_
   clear b
   exact rt h hs a i
 refine sk [2,3] hs e ?_
 clear e
 refine rc 2 [4] hs ?_;intro K12 c
 refine Ai _ (EF w0 _ _ _ a0 a1) (hv hs) ?_
 refine ne hs c ?_
 clear c
 exact rt h hs a i
def BF (rec:Ty→Ty→Option Bool) (n:Nat) (h:Ty) (b:Ty) (g:Bool):Option Bool :=
 if g then
  (FM n h b).bind fun y15 =>
  some (y15)
 else
  if decide (b.kind=1) then
   some (true)
  else
   if decide (b.kind=4) then
    (Hj n h b).bind fun q =>
    some (q)
   else
    if decide (b.kind=8) then
     if C0 h b then
      if decide (h.max=0) then
       some (true)
      else
       (Ci h.elem 0).bind fun x28 =>
       (Ci b.elem 0).bind fun x29 =>
       (rec x28 x29).bind fun y30 =>
       some (y30)
     else
      some (false)
    else
     if decide (b.kind=9) then
      (AG n b.fields (fun (x0:Int × ByteArray × Int × Ty × List Vl)=>CU rec n x0 h)).bind fun s =>
      some (!s)
     else
      if decide (b.kind=10) then
       (AG n h.fields (fun (x0:Int × ByteArray × Int × Ty × List Vl)=>CQ rec n x0 b)).bind fun y =>
       some (!y)
      else
       some (C0 h b)
def FC (rec:Ty→Ty→Option Bool) (n:Nat) (g:Ty) (b:Ty):Option Bool :=
 if !(Dt g.kind b.kind) then
  some (false)
 else
  if decide (b.kind=2) then
   BF rec n g b true
  else
   BF rec n g b (decide (b.kind=3))
def AP:Nat→Ty→Ty→Option Bool
 | 0,_,_=>none
 | n+1,g,b=>FC (AP n) n g b
def HH (w0:World) (F:Ty→Ty→Option Bool):Prop:=∀ (B:List (List AV)) (Rw:List RowA) (L:List LoopA) (g:Ty) (b:Ty) (r:Bool),F g b=some r→ACalls Tryz.prog w0 90 [.agg (g.cs),.agg (b.cs)] ⟨B,Rw,L⟩ fun x st=>x = .val (.bool r)∧st=⟨B,Rw,L⟩
theorem NA (w0:World) (rec:Ty→Ty→Option Bool) (ih:HH w0 rec) (n:Nat):HH w0 (FC rec n):=by
 intro B Rw L a0 a1 r h
 rw [FC] at h
 refine hd [.tmp 4] Tryz.func90 Tryz.ntmps90 fun M0 W0 hN Q H a hu d hs=>?_
 simp only [As]
 refine rg [2,3] hs ?_
 apply Ah;intro K2 w
 refine rc 2 [2,3,10] hs ?_;intro K3 D
 refine Ai _ (J0 w0 _ _ _ a0.kind a1.kind) (hv hs) ?_
 refine ne hs D ?_
 clear D
 refine AK h hs (fun hs h=>?_) (fun hs h=>?_)
 ·refine rg [4] hs ?_
  exact rt h hs a d
 refine sk [2,3] hs w ?_
 clear w
 apply Ah;intro K6 x
 refine rg [2,3,12] hs ?_
 apply Ak
 refine Au (fun e st=>∃ (c:Bool),Ck e st B Rw L [(2,true,.box B.length 0),(3,true,.box (B.length+1) 0),(12,true,.val (.int .i64 a1.kind)),(13,true,.val (.bool c))] [a0.cs,a1.cs] [] (BF rec n a0 a1 c=some r)) ?_ ?_
 ·intro K10 k
  refine rg [2,3,12,13] hs ?_
  refine AK h hs (fun hs h=>?_) (fun hs h=>?_)
  ·refine sk [2,3,12,13] hs k ?_
   exact ⟨true,([]),Rw,ef hs,ef hs,d,h⟩
  refine rl [2,3,12,13] hs k ?_
  exact ⟨(decide (a1.kind=3)),([]),Rw,ef hs,ef hs,d,h⟩
 ·clear h;rintro e st ⟨c,Xk9,Rk9,rfl,rfl,d,h⟩
  rw [BF] at h
  refine td hN Q H a d ?_
  refine AK h hs (fun hs h=>?_) (fun hs h=>?_)
  ·obtain ⟨ad,E,h⟩:=bind_some h
   refine rc 2 [4] hs ?_;intro K14 m
   refine Ai _ (QZ w0 n _ _ _ a0 a1 _ E) (hv hs) ?_
   refine ne hs m ?_
   clear m
   exact rt h hs a d
  refine rg [2,3,12,19] hs ?_
  refine AK h hs (fun hs h=>?_) (fun hs h=>?_)
  ·refine rg [4] hs ?_
   exact rt h hs a d
  refine rg [2,3,12,21] hs ?_
  refine AK h hs (fun hs h=>?_) (fun hs h=>?_)
  ·obtain ⟨Y,v,h⟩:=bind_some h
   refine rc 2 [4] hs ?_;intro K21 j
   refine Ai _ (TN w0 n _ _ _ a0 a1 _ v) (hv hs) ?_
   refine ne hs j ?_
   clear j
   exact rt h hs a d
  refine rg [2,3,12,26] hs ?_
  refine AK h hs (fun hs h=>?_) (fun hs h=>?_)
  ·apply Ah;intro K25 b
   rcases Bool.eq_false_or_eq_true (C0 a0 a1) with hf26 | hf26
   ·replace h:=AY h hf26
    rcases Bool.eq_false_or_eq_true (decide (a0.max=0)) with hf27 | hf27
    ·replace h:=AY h hf27
     have hs:=Aa hf26 hs
     have hs:=Aa hf27 hs
     refine dk 20 3 1 [4] hs HD ?_
     refine Ai _ (EF w0 _ _ _ a0 a1) (hv hs) ?_
     refine nc hs ?_
     refine AC ?_
     refine dn hs b ?_
     clear b
     exact rt h hs a d
    ·replace h:=AZ h hf27
     obtain ⟨K,U,G,g,h⟩:=ix HE h
     have u:(a0.elem.map HE).getD 0 .junk=_:=g
     obtain ⟨J,F,N,f,h⟩:=ix HE h
     have p:(a1.elem.map HE).getD 0 .junk=_:=f
     obtain ⟨aa,z,h⟩:=bind_some h
     have hs:=Aa hf26 hs
     have hs:=Aa hf27 hs
     have hs:=Aa g hs
     have hs:=Aa u hs
     have hs:=Aa f hs
     have hs:=Aa p hs
     refine dk 20 3 1 [4] hs HD ?_
     refine Ai _ (EF w0 _ _ _ a0 a1) (hv hs) ?_
     refine nc hs ?_
     refine Ai _ (ih _ _ _ K J _ z) (hv hs) ?_
     refine dn hs b ?_
     clear b
     exact rt h hs a d
   ·replace h:=AZ h hf26
    have hs:=Aa hf26 hs
    refine dk 20 3 1 [4] hs HD ?_
    refine Ai _ (EF w0 _ _ _ a0 a1) (hv hs) ?_
    refine nc hs ?_
    refine AC ?_
    refine dn hs b ?_
    clear b
    exact rt h hs a d
  refine rg [2,3,12,47] hs ?_
  refine AK h hs (fun hs h=>?_) (fun hs h=>?_)
  ·obtain ⟨ab,y,h⟩:=bind_some h
   refine rc 2 [4] hs ?_;intro K33 l
   refine Ai _ (B1 w0 n _ _ _ a1.fields 151 [.box B.length 0] (fun (t:Int × ByteArray × Int × Ty × List Vl)=>CU rec n t a0) (fun t r O B' q s V=>by exact Ob w0 rec ih n _ _ _ t _ a0 (DW s (ef hs)) _ O) _ y) (hv hs) ?_
   refine ne hs l ?_
   clear l
   exact rt h hs a d
  refine rg [2,3,54] hs ?_
  refine AK h hs (fun hs h=>?_) (fun hs h=>?_)
  ·obtain ⟨Z,C,h⟩:=bind_some h
   refine rc 2 [4] hs ?_;intro K37 i
   refine Ai _ (B1 w0 n _ _ _ a0.fields 153 [.box (B.length+1) 0] (fun (t:Int × ByteArray × Int × Ty × List Vl)=>CQ rec n t a1) (fun t r O B' q s V=>by exact NX w0 rec ih n _ _ _ t _ a1 (DW s (ef hs)) _ O) _ C) (hv hs) ?_
   refine ne hs i ?_
   clear i
   exact rt h hs a d
  refine sk [2,3] hs x ?_
  clear x
  refine rc 2 [4] hs ?_;intro K39 o
  refine Ai _ (EF w0 _ _ _ a0 a1) (hv hs) ?_
  refine ne hs o ?_
  clear o
  exact rt h hs a d
theorem G7 (w0:World):∀ n:Nat,HH w0 (AP n)
 | 0=>fun _ _ _ _ _ _ h=>(nomatch h)
 | n+1=>NA w0 (AP n) (G7 w0 n) n
def F5 (g:Ty) (b:Ty):Bool :=
 (decide (b.min≤g.min))&&(decide (g.max≤b.max))
theorem X4 (w0:World) (B:List (List AV)) (Rw:List RowA) (L:List LoopA) (a0:Ty) (a1:Ty) (r:Bool) (h:F5 a0 a1=r) :
  ACalls Tryz.prog w0 91 [.agg (a0.cs),.agg (a1.cs)] ⟨B,Rw,L⟩ fun x st=>x = .val (.bool r)∧st=⟨B,Rw,L⟩:=by
 rw [F5] at h
 refine hd [.tmp 4] Tryz.func91 Tryz.ntmps91 fun M0 W0 f b d a e c hs=>?_
 simp only [As]
 refine rg [2,3] hs ?_
 refine rg [4] hs ?_
 exact rT h hs a c
theorem HS (w0:World) (B:List (List AV)) (Rw:List RowA) (L:List LoopA) (a0:Ty) (a1:Ty) :
  ACalls Tryz.prog w0 91 [.agg (a0.cs),.agg (a1.cs)] ⟨B,Rw,L⟩ fun x st=>x = .val (.bool (F5 a0 a1))∧st=⟨B,Rw,L⟩:=X4 w0 B Rw L a0 a1 _ rfl
def Ld (rec:Ty→Ty→Option Bool) (n:Nat) (g:Ty) (b:Ty):Option Bool :=
 if decide (0<(g.words.length:Int)) then
  some (true)
 else
  if decide (0<(b.words.length:Int)) then
   if decide (g.max=0) then
    (KL n ((⟨#[]⟩:ByteArray)) b).bind fun h =>
    some (h)
   else
    some (false)
  else
   some (F5 g b)
def Qx (rec:Ty→Ty→Option Bool) (n:Nat)  : Option Bool :=
 some (true)
def P7 (rec:Ty→Ty→Option Bool) (n:Nat)  : Option Bool :=
 some (true)
def Qh (rec:Ty→Ty→Option Bool) (n:Nat) (g:Ty) (b:Ty):Option Bool :=
 some (F5 g b)
def Gm (rec:Ty→Ty→Option Bool) (n:Nat) (g:Ty) (h:Ty):Nat→Int→Option Bool
 | 0,_=>none
 | m+1,b =>
  if decide (b<(g.words.length:Int)) then
   (Ci g.words b).bind fun s =>
   (KL n s h).bind fun q =>
   if !q then
    some (false)
   else
    if B2 (b+1) then
     (Gm rec n g h m) (b+1)
    else none
  else
   Ld rec n g h 
def Hl (rec:Ty→Ty→Option Bool) (n:Nat) (q:Ty) (y:Ty):Nat→Int→Option Bool
 | 0,_=>none
 | m+1,b =>
  if decide (b<(q.fields.length:Int)) then
   (Ci q.fields b).bind fun h =>
   (Ez n y h.1).bind fun g =>
   if !g.2 then
    some (false)
   else
    (rec h.2.2.2.1 g.1.2.2.2.1).bind fun s =>
    if !s then
     some (false)
    else
     if B2 (b+1) then
      (Hl rec n q y m) (b+1)
     else none
  else
   Qx rec n 
def E7 (rec:Ty→Ty→Option Bool) (n:Nat) (y:Ty) (s:Ty):Nat→Int→Option Bool
 | 0,_=>none
 | m+1,b =>
  if decide (b<(s.fields.length:Int)) then
   (Ci s.fields b).bind fun h =>
   (Ez n y h.1).bind fun g =>
   if (!g.2)&&(decide (h.2.2.1=1)) then
    some (false)
   else
    if g.2 then
     (rec g.1.2.2.2.1 h.2.2.2.1).bind fun q =>
     if (!q)||((decide (h.2.2.1=1))&&(decide (g.1.2.2.1=2))) then
      some (false)
     else
      if B2 (b+1) then
       (E7 rec n y s m) (b+1)
      else none
    else
     if B2 (b+1) then
      (E7 rec n y s m) (b+1)
     else none
  else
   P7 rec n 
def QC (rec:Ty→Ty→Option Bool) (n:Nat) (g:Ty) (b:Ty):Option Bool :=
 if (decide (0≤(AL g)))&&(decide (0≤(AL b))) then
  if B2 ((AL b)-(AL g)) then
   (Fb n g.min ((AL b)-(AL g))).bind fun y7 =>
   if B2 ((AL b)-(AL g)) then
    (Fb n g.max ((AL b)-(AL g))).bind fun h =>
    if (decide ((AL b)<(AL g)))&&(!(decide (g.min=g.max))) then
     some (false)
    else
     some (((y7.2&&h.2)&&(A8 y7.1 b))&&(A8 h.1 b))
   else none
  else none
 else
  if !(decide (g.kind=b.kind)) then
   some (false)
  else
   if decide (b.kind=1) then
    some (true)
   else
    if decide (b.kind=4) then
     Gm rec n g b n 0
    else
     if decide (b.kind=8) then
      if F5 g b then
       if decide (g.max=0) then
        some (true)
       else
        (Ci g.elem 0).bind fun y =>
        (Ci b.elem 0).bind fun q =>
        (rec y q).bind fun s =>
        some (s)
      else
       some (false)
     else
      if decide (b.kind=10) then
       Hl rec n g b n 0
      else
       if decide (b.kind=9) then
        E7 rec n g b n 0
       else
        Qh rec n g b 
def GB:Nat→Ty→Ty→Option Bool
 | 0,_,_=>none
 | n+1,g,b=>QC (GB n) n g b
def Ur (w0:World) (F:Ty→Ty→Option Bool):Prop:=∀ (B:List (List AV)) (Rw:List RowA) (L:List LoopA) (g:Ty) (b:Ty) (r:Bool),F g b=some r→ACalls Tryz.prog w0 38 [.agg (g.cs),.agg (b.cs)] ⟨B,Rw,L⟩ fun x st=>x = .val (.bool r)∧st=⟨B,Rw,L⟩
theorem Y7 (w0:World) (rec:Ty→Ty→Option Bool) (ih:Ur w0 rec) (n:Nat):Ur w0 (QC rec n):=by
 intro B Rw L a0 a1 r h
 rw [QC] at h
 refine hd [.tmp 4] Tryz.func38 Tryz.ntmps38 fun M0 W0 hN C z a hu c hs=>?_
 simp only [As]
 refine rg [2,3] hs ?_
 apply Ah;intro K2 a2
 have bf:=Aa and_self @imp_self
 have hs:=Aa bf hs
 refine rc 3 [2,3,24] hs ?_;intro K3 a6
 refine Ai _ (E3 w0 _ _ _ a0) (hv hs) ?_
 refine nc hs ?_
 refine EL _ (fun _=>E3 w0 _ _ _ a1) (hv hs) ?_
 refine ne hs a6 ?_
 clear a6
 refine AK h hs (fun hs h=>?_) (fun hs h=>?_)
 ·have x:=hs.1
  obtain ⟨b4,h⟩:=Aj h
  obtain ⟨y7,bn,h⟩:=bind_some h
  apply Ah;intro K5 a3
  refine dk 13 4 1 [2,3,5,6] hs HD ?_
  refine Ai _ (E3 w0 _ _ _ a1) (hv hs) ?_
  refine nc hs ?_
  refine Ai _ (E3 w0 _ _ _ a0) (hv hs) ?_
  refine nc hs ?_
  refine Ai _ (Tf w0 n _ _ _ a0.min ((AL a1)-(AL a0)) _ bn) (hv hs) ?_
  refine dn hs a3 ?_
  clear a3
  obtain ⟨b5,h⟩:=Aj h
  obtain ⟨bu,a7,h⟩:=bind_some h
  apply Ah;intro K8 a5
  refine dk 13 4 1 [2,3,5,6,7,8] hs HD ?_
  refine Ai _ (E3 w0 _ _ _ a1) (hv hs) ?_
  refine nc hs ?_
  refine Ai _ (E3 w0 _ _ _ a0) (hv hs) ?_
  refine nc hs ?_
  refine Ai _ (Tf w0 n _ _ _ a0.max ((AL a1)-(AL a0)) _ a7) (hv hs) ?_
  refine dn hs a5 ?_
  clear a5
  apply Ah;intro K11 Y
  apply Ah;intro K12 ai
  refine dk 12 3 1 [3,5,6,7,8,58] hs HD ?_
  refine Ai _ (E3 w0 _ _ _ a1) (hv hs) ?_
  refine nc hs ?_
  refine Ai _ (E3 w0 _ _ _ a0) (hv hs) ?_
  refine dn hs ai ?_
  clear ai
  refine AK h hs (fun hs h=>?_) (fun hs h=>?_)
  ·refine rg [4] hs ?_
   exact rt h hs a c
  refine sk [3,5,6,7,8] hs Y ?_
  clear Y
  have bf:=Aa and_self @imp_self
  refine rc 3 [4] hs ?_;intro K15 ae
  refine EL _ (fun _=>ME w0 _ _ _ y7.1 a1) (hv hs) ?_
  refine nc hs ?_
  refine EL _ (fun _=>ME w0 _ _ _ bu.1 a1) (hv hs) ?_
  refine ne hs ae ?_
  clear ae
  exact rt h hs a c
 have x:=hs.1
 refine sk [2,3] hs a2 ?_
 clear a2
 apply Ah;intro K16 af
 refine rg [2,3,77] hs ?_
 refine AK h hs (fun hs h=>?_) (fun hs h=>?_)
 ·have p:=hs.1
  refine rg [4] hs ?_
  exact rt h hs a c
 have p:=hs.1
 refine sk [2,3] hs af ?_
 clear af
 refine Au (fun e st=>Ck e st B Rw L [(2,true,.box B.length 0),(3,true,.box (B.length+1) 0)] [a0.cs,a1.cs] [] (Qh rec n a0 a1  = some r)) ?_ ?_
 ·intro K22 ay
  refine rg [2,3,79] hs ?_
  apply Ak
  refine rg [2,3,79,80] hs ?_
  refine AK h hs (fun hs h=>?_) (fun hs h=>?_)
  ·have l:=hs.1
   refine rg [4] hs ?_
   exact rt h hs a c
  have l:=hs.1
  refine rg [2,3,79,82] hs ?_
  refine AK h hs (fun hs h=>?_) (fun hs h=>?_)
  ·have k:=hs.1
   refine Au (fun e st=>Ck e st B Rw L [(2,true,.box B.length 0),(3,true,.box (B.length+1) 0)] [a0.cs,a1.cs] [] (Ld rec n a0 a1  = some r)) ?_ ?_
   ·intro K31 a9
    refine rg [2,3,9] hs ?_
    apply Ak
    refine Az (fun m e st=>∃ (w:Int),Ck e st B Rw L [(2,true,.box B.length 0),(3,true,.box (B.length+1) 0),(9,true,.val (.int .i64 w))] [a0.cs,a1.cs] [] (Gm rec n a0 a1 m w=some r)) n ⟨0,([]),Rw,ef hs,ef hs,c,h⟩ ?_
    rintro ml33 e st ⟨w,Xl33,Rl33,rfl,rfl,c,h⟩ Ul33 Vl33
    cases ml33 with
    | zero=>cases h
    | succ ml33 =>
    rw [Gm] at h
    refine td hN C z a c ?_
    apply Ah;intro K34 U
    refine rg [2,3,9,88] hs ?_
    refine AK h hs (fun hs h=>?_) (fun hs h=>?_)
    rotate_left
    ·refine sx [2,3] hs a9 ?_
     exact ⟨([]),Rl33,ef hs,ef hs,c,h⟩
    refine sk [2,3,9] hs U ?_
    clear U
    apply Ah;intro K37 V
    apply Ak
    obtain ⟨bg,be,h⟩:=bind_some h
    obtain ⟨bo,bk,aq⟩:=Aw be
    have am:=Ax (f:=NJ) aq
    obtain ⟨b2,bb,h⟩:=bind_some h
    have hs:=Aa am hs
    apply Ah;intro K38 N
    refine dk 8 2 1 [2,3,9,98] hs HD ?_
    refine Ai _ (Va w0 n _ _ _ bg a1 _ bb) (hv hs) ?_
    refine dn hs N ?_
    clear N
    refine AK h hs (fun hs h=>?_) (fun hs h=>?_)
    ·refine rg [4] hs ?_
     exact rt h hs a c
    refine sk [2,3,9] hs V ?_
    clear V
    obtain ⟨b0,h⟩:=Aj h
    refine rl [2,3,9] hs (fun e s=>Vl33 ml33 e s (Nat.lt_succ_self _)) ?_
    exact ⟨(w+1),([]),Rl33,ef hs,ef hs,c,h⟩
   ·clear h;rintro e st ⟨Xk30,Rk30,rfl,rfl,c,h⟩
    rw [Ld] at h
    refine td hN C z a c ?_
    apply Ah;intro K44 aa
    refine rg [2,3,102] hs ?_
    refine AK h hs (fun hs h=>?_) (fun hs h=>?_)
    ·refine rg [4] hs ?_
     exact rt h hs a c
    refine sk [2,3] hs aa ?_
    clear aa
    apply Ah;intro K48 Z
    refine rg [2,3,106] hs ?_
    refine AK h hs (fun hs h=>?_) (fun hs h=>?_)
    ·apply Ah;intro K51 G
     rcases Bool.eq_false_or_eq_true (decide (a0.max=0)) with hf52 | hf52
     ·replace h:=AY h hf52
      obtain ⟨b6,aw,h⟩:=bind_some h
      have hs:=Aa hf52 hs
      refine rk 2 [4] hs ?_
      refine Ai _ (Va w0 n _ _ _ ((⟨#[]⟩:ByteArray)) a1 _ aw) (hv hs) ?_
      refine ne hs G ?_
      clear G
      exact rt h hs a c
     ·replace h:=AZ h hf52
      have hs:=Aa hf52 hs
      refine rk 2 [4] hs ?_
      refine F2 ?_
      refine ne hs G ?_
      clear G
      exact rt h hs a c
    refine sk [2,3] hs Z ?_
    clear Z
    refine rc 2 [4] hs ?_;intro K54 O
    refine Ai _ (HS w0 _ _ _ a0 a1) (hv hs) ?_
    refine ne hs O ?_
    clear O
    exact rt h hs a c
  have k:=hs.1
  refine rg [2,3,79,117] hs ?_
  refine AK h hs (fun hs h=>?_) (fun hs h=>?_)
  ·have q:=hs.1
   apply Ah;intro K57 y
   rcases Bool.eq_false_or_eq_true (F5 a0 a1) with hf58 | hf58
   ·replace h:=AY h hf58
    rcases Bool.eq_false_or_eq_true (decide (a0.max=0)) with hf59 | hf59
    ·replace h:=AY h hf59
     have hs:=Aa hf58 hs
     have hs:=Aa hf59 hs
     refine dk 20 3 1 [4] hs HD ?_
     refine Ai _ (HS w0 _ _ _ a0 a1) (hv hs) ?_
     refine nc hs ?_
     refine F2 ?_
     refine dn hs y ?_
     clear y
     exact rt h hs a c
    ·replace h:=AZ h hf59
     obtain ⟨bs,bt,bh,H,h⟩:=ix HE h
     have ao:(a0.elem.map HE).getD 0 .junk=_:=H
     obtain ⟨bi,bw,bq,K,h⟩:=ix HE h
     have aj:(a1.elem.map HE).getD 0 .junk=_:=K
     obtain ⟨b1,az,h⟩:=bind_some h
     have hs:=Aa hf58 hs
     have hs:=Aa hf59 hs
     have hs:=Aa H hs
     have hs:=Aa ao hs
     have hs:=Aa K hs
     have hs:=Aa aj hs
     refine dk 20 3 1 [4] hs HD ?_
     refine Ai _ (HS w0 _ _ _ a0 a1) (hv hs) ?_
     refine nc hs ?_
     refine Ai _ (ih _ _ _ bs bi _ az) (hv hs) ?_
     refine dn hs y ?_
     clear y
     exact rt h hs a c
   ·replace h:=AZ h hf58
    have hs:=Aa hf58 hs
    refine dk 20 3 1 [4] hs HD ?_
    refine Ai _ (HS w0 _ _ _ a0 a1) (hv hs) ?_
    refine nc hs ?_
    refine F2 ?_
    refine dn hs y ?_
    clear y
    exact rt h hs a c
  have q:=hs.1
  refine rg [2,3,79,138] hs ?_
  refine AK h hs (fun hs h=>?_) (fun hs h=>?_)
  ·have j:=hs.1
   refine Au (fun e st=>Ck e st B Rw L [] [a0.cs,a1.cs] [] (Qx rec n  = some r)) ?_ ?_
   ·intro K67 ba
    refine rg [2,3,10] hs ?_
    apply Ak
    refine Az (fun m e st=>∃ (t:Int),Ck e st B Rw L [(2,true,.box B.length 0),(3,true,.box (B.length+1) 0),(10,true,.val (.int .i64 t))] [a0.cs,a1.cs] [] (Hl rec n a0 a1 m t=some r)) n ⟨0,([]),Rw,ef hs,ef hs,c,h⟩ ?_
    rintro ml69 e st ⟨t,Xl69,Rl69,rfl,rfl,c,h⟩ Ul69 Vl69
    cases ml69 with
    | zero=>cases h
    | succ ml69 =>
    rw [Hl] at h
    refine td hN C z a c ?_
    apply Ah;intro K70 ah
    refine rg [2,3,10,144] hs ?_
    refine AK h hs (fun hs h=>?_) (fun hs h=>?_)
    rotate_left
    ·have o:=hs.1
     refine sx [] hs ba ?_
     exact ⟨([]),Rl69,ef hs,ef hs,c,h⟩
    have o:=hs.1
    refine sk [2,3,10] hs ah ?_
    clear ah
    apply Ah;intro K73 ad
    apply Ak
    apply Ah;intro K74 ag
    obtain ⟨bc,br,bv,b,h⟩:=ix CJ h
    obtain ⟨D,bd,h⟩:=bind_some h
    apply Ju HD [11,12] [2,3,10,11,12] kr (fun s=>∃ (X:List (List AV)) (rows:List RowA),s=⟨B++([a0.cs,a1.cs]++X),rows,L⟩) 3 (B.length+2)
    ·simp +decide only [go_sem,Nat.reduceAdd]
    ·rintro s ⟨X,rows,rfl⟩
     refine ⟨2,?_⟩
     rw [Am];simp +decide only [go_sem,Nat.reduceAdd,EM,x,p,l,k,q,j,o,b]
     have hs:=Aa b hs
     (repeat' apply Aa)<;>first | refine Ai _ (Lm w0 n _ _ _ a1 bc.1 _ bd) (hv hs) ?_ | exact cl
     rw [Am];simp +decide only [go_sem,Nat.reduceAdd,x,p,l,k,q,j,o,b]
     (repeat' apply Aa)<;>first | rfl | exact cl
    ·refine Good.mk [11] kr ⟨[],_,by first | rfl | simp only [List.append_nil,List.nil_append]⟩ ?_ ?_
     ·intro h;exact absurd h (by decide)
     ·intro i hi;simp only [List.mem_cons,List.not_mem_nil,or_false] at hi
      subst hi
      ·apply DG rfl rfl ev
       ·simp +decide only [go_sem,Nat.reduceAdd,FT,x,p,l,k,q,j,o,b]
        (repeat' apply Aa)<;>first | rfl | exact cl
       ·simp +decide only [go_sem,Nat.reduceAdd,x,p,l,k,q,j,o,b]
        refine Good.mk [12] kr ⟨_,_,by first | rfl | simp only [List.append_nil,List.nil_append]⟩ ?_ ?_
        ·intro h;exact absurd h (by decide)
        ·intro i hi;simp only [List.mem_cons,List.not_mem_nil,or_false] at hi
         subst hi
         ·apply DG rfl rfl ev
          ·simp +decide only [go_sem,Nat.reduceAdd,FT,x,p,l,k,q,j,o,b]
           (repeat' apply Aa)<;>first | rfl | exact cl
          ·simp +decide only [go_sem,Nat.reduceAdd,x,p,l,k,q,j,o,b]
           refine Good.mk [] kr ⟨_,_,by first | rfl | simp only [List.append_nil,List.nil_append]⟩ ?_ ?_
           ·intro _;apply DF [2,3,10,11,12];first | (simp +decide only [go_sem,Nat.reduceAdd,x,p,l,k,q,j,o,b];done) | (simp +decide only [go_sem,Nat.reduceAdd,x,p,l,k,q,j,o,b];rfl)
           ·intro i hi;cases hi
    simp +decide only [go_sem,Nat.reduceAdd,x,p,l,k,q,j,o,b]
    (repeat' apply Aa)<;>first | refine ag _ _ ?_ | exact cl
    clear ag
    apply Ah;intro K77 F
    rcases Bool.eq_false_or_eq_true (!D.2) with hf78 | hf78
    ·replace h:=AY h hf78
     have hs:=Aa b hs
     have hs:=Aa hf78 hs
     refine dk 14 2 1 [2,3,10,171] hs HD ?_
     refine F2 ?_
     refine dn hs F ?_
     clear F
     refine A7 true ev (ef hs) (fun hb79=>?_) (fun hb79=>by cases hb79)
     refine rg [4] hs ?_
     exact rt h hs a c
    ·replace h:=AZ h hf78
     obtain ⟨b3,ax,h⟩:=bind_some h
     have hs:=Aa b hs
     have hs:=Aa hf78 hs
     refine dk 14 2 1 [2,3,10,171] hs HD ?_
     refine Ai _ (ih _ _ _ bc.2.2.2.1 D.1.2.2.2.1 _ ax) (hv hs) ?_
     refine dn hs F ?_
     clear F
     refine AK h hs (fun hs h=>?_) (fun hs h=>?_)
     ·refine rg [4] hs ?_
      exact rt h hs a c
     refine sk [2,3,10] hs ad ?_
     clear ad
     obtain ⟨bx,h⟩:=Aj h
     refine rl [2,3,10] hs (fun e s=>Vl69 ml69 e s (Nat.lt_succ_self _)) ?_
     exact ⟨(t+1),([.val (.int .i64 D.1.1)::(.val (.string D.1.2.1)::(.val (.int .i64 D.1.2.2.1)::((D.1.2.2.2.1.cs)++([.list (D.1.2.2.2.2.map Bq) .none]))))]),Rl69,ef hs,ef hs,c,h⟩
   ·clear h;rintro e st ⟨Xk66,Rk66,rfl,rfl,c,h⟩
    rw [Qx] at h
    refine td hN C z a c ?_
    refine rg [4] hs ?_
    exact rt h hs a c
  have j:=hs.1
  refine rg [2,3,172] hs ?_
  refine AK h hs (fun hs h=>?_) (fun hs h=>?_)
  ·refine Au (fun e st=>Ck e st B Rw L [] [a0.cs,a1.cs] [] (P7 rec n  = some r)) ?_ ?_
   ·intro K90 a8
    refine rg [2,3,13] hs ?_
    apply Ak
    refine Az (fun m e st=>∃ (g:Int),Ck e st B Rw L [(2,true,.box B.length 0),(3,true,.box (B.length+1) 0),(13,true,.val (.int .i64 g))] [a0.cs,a1.cs] [] (E7 rec n a0 a1 m g=some r)) n ⟨0,([]),Rw,ef hs,ef hs,c,h⟩ ?_
    rintro ml92 e st ⟨g,Xl92,Rl92,rfl,rfl,c,h⟩ Ul92 Vl92
    cases ml92 with
    | zero=>cases h
    | succ ml92 =>
    rw [E7] at h
    refine td hN C z a c ?_
    apply Ah;intro K93 Q
    refine rg [2,3,13,178] hs ?_
    refine AK h hs (fun hs h=>?_) (fun hs h=>?_)
    rotate_left
    ·refine sx [] hs a8 ?_
     exact ⟨([]),Rl92,ef hs,ef hs,c,h⟩
    refine sk [2,3,13] hs Q ?_
    clear Q
    apply Ah;intro K96 E
    apply Ak
    obtain ⟨u,a4,h⟩:=bind_some h
    obtain ⟨bl,bm,ap⟩:=Aw a4
    have ak:=Ax (f:=CJ) ap
    have hs:=Aa ak hs
    refine rg [2,3,13,14] hs ?_
    obtain ⟨d,av,h⟩:=bind_some h
    refine rc 2 [2,3,13,14,15,16] hs ?_;intro K99 ab
    refine Ai _ (Lm w0 n _ _ _ a0 u.1 _ av) (hv hs) ?_
    refine ne hs ab ?_
    clear ab
    apply Ah;intro K101 v
    rcases Bool.eq_false_or_eq_true ((!d.2)&&(decide (u.2.2.1=1))) with hf102 | hf102
    ·replace h:=AY h hf102
     have hs:=Aa hf102 hs
     refine rk 2 [2,3,13,220] hs ?_
     refine F2 ?_
     refine ne hs v ?_
     clear v
     refine A7 true ev (ef hs) (fun hb103=>?_) (fun hb103=>by cases hb103)
     refine rg [4] hs ?_
     exact rt h hs a c
    ·replace h:=AZ h hf102
     rcases Bool.eq_false_or_eq_true (d.2) with hf105 | hf105
     ·replace h:=AY h hf105
      obtain ⟨bz,au,h⟩:=bind_some h
      have hs:=Aa hf102 hs
      have hs:=Aa hf105 hs
      refine rk 2 [2,3,13,220] hs ?_
      refine Ai _ (ih _ _ _ d.1.2.2.2.1 u.2.2.2.1 _ au) (hv hs) ?_
      refine ne hs v ?_
      clear v
      refine AK h hs (fun hs h=>?_) (fun hs h=>?_)
      ·refine rg [4] hs ?_
       exact rt h hs a c
      refine sk [2,3,13] hs E ?_
      clear E
      obtain ⟨bp,h⟩:=Aj h
      refine rl [2,3,13] hs (fun e s=>Vl92 ml92 e s (Nat.lt_succ_self _)) ?_
      exact ⟨(g+1),([.val (.int .i64 u.1)::(.val (.string u.2.1)::(.val (.int .i64 u.2.2.1)::((u.2.2.2.1.cs)++([.list (u.2.2.2.2.map Bq) .none])))),.val (.int .i64 d.1.1)::(.val (.string d.1.2.1)::(.val (.int .i64 d.1.2.2.1)::((d.1.2.2.2.1.cs)++([.list (d.1.2.2.2.2.map Bq) .none]))))]),Rl92,ef hs,ef hs,c,h⟩
     ·replace h:=AZ h hf105
      have ar:(decide (u.2.2.1=1))=false:=by simpa [hf105] using hf102
      have hs:=Aa hf102 hs
      have hs:=Aa hf105 hs
      have hs:=Aa ar hs
      refine rk 2 [2,3,13,220] hs ?_
      refine F2 ?_
      refine ne hs v ?_
      clear v
      refine A7 false ev (ef hs) (fun hb111=>by cases hb111) (fun hb111=>?_)
      refine sk [2,3,13] hs E ?_
      clear E
      obtain ⟨bj,h⟩:=Aj h
      refine rl [2,3,13] hs (fun e s=>Vl92 ml92 e s (Nat.lt_succ_self _)) ?_
      exact ⟨(g+1),([.val (.int .i64 u.1)::(.val (.string u.2.1)::(.val (.int .i64 u.2.2.1)::((u.2.2.2.1.cs)++([.list (u.2.2.2.2.map Bq) .none])))),.val (.int .i64 d.1.1)::(.val (.string d.1.2.1)::(.val (.int .i64 d.1.2.2.1)::((d.1.2.2.2.1.cs)++([.list (d.1.2.2.2.2.map Bq) .none]))))]),Rl92,ef hs,ef hs,c,h⟩
   ·clear h;rintro e st ⟨Xk89,Rk89,rfl,rfl,c,h⟩
    rw [P7] at h
    refine td hN C z a c ?_
    refine rg [4] hs ?_
    exact rt h hs a c
  refine sk [2,3] hs ay ?_
  exact ⟨([]),Rw,ef hs,ef hs,c,h⟩
 ·clear h;rintro e st ⟨Xk21,Rk21,rfl,rfl,c,h⟩
  rw [Qh] at h
  refine td hN C z a c ?_
  refine rc 2 [4] hs ?_;intro K114 J
  refine Ai _ (HS w0 _ _ _ a0 a1) (hv hs) ?_
  refine ne hs J ?_
  clear J
  exact rt h hs a c
theorem Xj (w0:World):∀ n:Nat,Ur w0 (GB n)
 | 0=>fun _ _ _ _ _ _ h=>(nomatch h)
 | n+1=>Y7 w0 (GB n) (Xj w0 n) n
def Zax (a b:Ty):Bool:=match JI a.min a.scale b.scale,JI a.max a.scale b.scale with
 | some x,some y=>JX x b&&JX y b&&(decide (a.scale≤b.scale)||decide (a.min=a.max))
 | _,_=>false
def Y6 (a b:Ty):Bool:=decide (b.min≤a.min)&&decide (a.max≤b.max)
def ZaL (a b:Ty):Bool:=if a.words≠[] then a.words.all fun w=>GA w b else if b.words≠[] then decide (a.max=0)&&GA ⟨#[]⟩ b else Y6 a b
def MU:Nat→Ty→Ty→Bool
 | 0,_,_=>false
 | d+1,a,b =>
  if (a.kind=2∨a.kind=3)∧(b.kind=2∨b.kind=3) then Zax a b
  else if a.kind≠b.kind then false
  else if b.kind=1 then true
  else if b.kind=4 then ZaL a b
  else if b.kind=8 then Y6 a b&&(decide (a.max=0)||(match a.elem,b.elem with | [x],[y]=>MU d x y | _,_=>false))
  else if b.kind=9 then b.fields.all fun g=>match D1 a.fields g.1 with | none => !decide (g.2.2.1=1) | some p=>MU d p.2.2.2.1 g.2.2.2.1 && !(decide (g.2.2.1=1)&&decide (p.2.2.1=2))
  else if b.kind=10 then a.fields.all fun p=>match D1 b.fields p.1 with | none=>false | some g=>MU d p.2.2.2.1 g.2.2.2.1
  else Y6 a b
theorem Zdo {t:Ty} (o:t.Own) (h:t.kind=2∨t.kind=3):(-999999999999999≤t.min∧t.min≤999999999999999)∧(-999999999999999≤t.max∧t.max≤999999999999999):=by
 obtain ⟨_,_,c⟩:=o.bounds (by omega) (by omega)
 have:=Q8 o h
 omega
theorem ZhY (n:Nat) (a b:Ty) (oa:a.Own) (ob:b.Own) (ha:a.kind=2∨a.kind=3) (hb:b.kind=2∨b.kind=3) (hn:200<n):FM n a b=some (Zax a b):=by
 have f:=oa.scale
 have e:=ob.scale
 obtain ⟨c,d⟩:=Zdo oa ha
 rw [FM,P9 n _ _ _ c (by omega) (by omega) hn,Ab,P9 n _ _ _ d (by omega) (by omega) hn,Ab,Zax]
 cases JI a.min a.scale b.scale with
 | none=>simp
 | some x =>
  cases JI a.max a.scale b.scale with
  | none=>simp
  | some y=>simp [JX,Bo,Bool.and_assoc]
def okN (b:Ty):Option Int→Bool
 | some m=>JX m b
 | none=>false
theorem Zv {o:Option Int} {y:Int × Bool} {b:Ty} (ob:b.Own) (hb:b.kind=2∨b.kind=3) (h:ZiK o y):(y.2&&A8 y.1 b)=okN b o:=by
 have a:=Q8 ob hb
 cases o with
 | some m =>
  have h:y=(m,true):=h
  subst h;rfl
 | none =>
  rcases h with h | ⟨h,h2⟩
  ·rw [h];rfl
  ·rw [h,Bool.true_and]
   show A8 y.1 b=false
   rw [Bool.eq_false_iff]
   intro w
   have:JX y.1 b=true:=w
   rw [GW] at this
   omega
theorem ZfK (n:Nat) (a b:Ty) (oa:a.Own) (ob:b.Own) (ha:a.kind=2∨a.kind=3) (hb:b.kind=2∨b.kind=3) (hn:200<n) :
  ((Fb n a.min (b.scale-a.scale)).bind fun y7=>if B2 (b.scale-a.scale) then (Fb n a.max (b.scale-a.scale)).bind fun y10=>if (decide (b.scale<a.scale) && !decide (a.min=a.max))=true then some false else some (((y7.2&&y10.2)&&A8 y7.1 b)&&A8 y10.1 b) else none)=some (Zax a b):=by
 have t:=oa.scale
 have o:=ob.scale
 obtain ⟨g,m⟩:=Zdo oa ha
 obtain ⟨y,h,j⟩:=U1 n a.min a.scale b.scale g (by omega) (by omega) hn
 obtain ⟨z,f,k⟩:=U1 n a.max a.scale b.scale m (by omega) (by omega) hn
 have d:=Zv ob hb j
 have i:=Zv ob hb k
 rw [h,Ab,Ae (by unfold B2;omega),f,Ab,Zax]
 have l:(((y.2&&z.2)&&A8 y.1 b)&&A8 z.1 b)=((y.2&&A8 y.1 b)&&(z.2&&A8 z.1 b)):=by
  generalize y.2=p;generalize z.2=q;generalize A8 y.1 b=r;generalize A8 z.1 b=s
  revert p q r s;decide
 rw [l,d,i]
 by_cases c:b.scale<a.scale∧a.min≠a.max
 ·rw [Ae (by rw [Bool.and_eq_true,decide_eq_true_eq,Bool.not_eq_true',decide_eq_false_iff_not];exact c),Ac (show ¬ a.scale≤b.scale by omega),Ac c.2]
  cases JI a.min a.scale b.scale with
  | none=>rfl
  | some x=>cases JI a.max a.scale b.scale<;>simp [okN]
 ·rw [Af (by rw [Bool.and_eq_true,decide_eq_true_eq,Bool.not_eq_true',decide_eq_false_iff_not];exact c)]
  have e:(decide (a.scale≤b.scale)||decide (a.min=a.max))=true:=by
   rw [Bool.or_eq_true,decide_eq_true_eq,decide_eq_true_eq]
   by_cases q:a.min=a.max
   ·exact .inr q
   ·left
    have:¬ b.scale<a.scale:=fun z=>c ⟨z,q⟩
    omega
  rw [e]
  cases JI a.min a.scale b.scale with
  | none=>rfl
  | some x=>cases JI a.max a.scale b.scale<;>simp [okN]
theorem Zgv (n:Nat) (a b:Ty) (w:ByteArray) (ha:a.kind=4) (hb:b.kind=4) (hl:b.words.length≤1000000000) (hn:b.words.length+1<n):AM n a b (GE w)=some (GE w,GA w b):=by
 obtain ⟨n,rfl⟩:∃ m,n=m+1:=⟨n-1,by omega⟩
 have c:(GE w).text=w:=rfl
 rw [AM,FP,ML (.inl (by omega)),Af (by decide),Ac (show ¬ b.kind=2 by omega),Af (by decide),Ac (show ¬ b.kind=3 by omega),BI,Af (by decide),Ac (show ¬ b.kind=6 by omega),Af (by decide),Ac (show ¬ b.kind=7 by omega),BL,Af (by decide),Ac (show ¬ b.kind=5 by omega),Af (by decide),Ad hb,Ae rfl,GA]
 by_cases q:b.words=[]
 ·rw [Ae q,q,Af (by decide)];rfl
 ·have d:0<b.words.length:=List.length_pos_iff.2 q
  rw [Af q,Ae (by rw [decide_eq_true_eq];omega),Js n _ b hl (by omega),Ab,c]
theorem Uz (n:Nat) (l:List ByteArray) (f:ByteArray→Option Bool) (p:ByteArray→Bool) (hf:∀ x∈l,f x=some (p x)) (hl:l.length≤1000000000) (hn:l.length<n):CV n l f=some (l.any p):=by
 have b:∀ (k m i:Nat),i+k=l.length→k<m→BV n l f m i=some (O0 p l i):=by
  intro k
  induction k with
  | zero =>
   intro m i c d
   obtain ⟨m,rfl⟩:∃ q,m=q+1:=⟨m-1,by omega⟩
   rw [BV,Av,Ac (by omega),LV p l i (by omega)];rfl
  | succ k ih =>
   intro m i c d
   obtain ⟨m,rfl⟩:∃ q,m=q+1:=⟨m-1,by omega⟩
   have a:i<l.length:=by omega
   rw [BV,Av,Ad a,Ae rfl,AD a,Ab,hf _ (List.getElem_mem a),Ab,JV p l i a]
   cases p l[i] with
   | true=>rfl
   | false =>
    rw [Af (by decide),Ae (AA (by omega)),Af (show ¬ (false=true) by decide)]
    exact ih m (i+1) (by omega) (by omega)
 have e:ES n l f=some (O0 p l 0):=b l.length n 0 (by omega) hn
 rw [CV,e,Ab,N5]
theorem ZhH (n:Nat) (a b:Ty) (ha:a.kind=4) (hb:b.kind=4) (la:a.words.length≤1048576) (lb:b.words.length≤1048576) (hn:1048580<n):Hj n a b=some (ZaL a b):=by
 rw [Hj,ZaL]
 by_cases q:a.words=[]
 ·rw [q,Af (by decide),Af (show ¬ (([]:List ByteArray)≠[]) from fun h=>h rfl)]
  by_cases r:b.words=[]
  ·rw [r,Af (by decide),Af (show ¬ (([]:List ByteArray)≠[]) from fun h=>h rfl)];rfl
  ·have e:0<b.words.length:=List.length_pos_iff.2 r
   rw [Ae r,Ae (by rw [decide_eq_true_eq];omega)]
   by_cases z:a.max=0
   ·rw [Ad z,Ae rfl,Js n _ b (by omega) (by omega),GA,Af r,Bool.true_and];rfl
   ·rw [Ac z,Af (by decide),Bool.false_and]
 ·have d:0<a.words.length:=List.length_pos_iff.2 q
  rw [Ae q,Ae (by rw [decide_eq_true_eq];omega),Uz n a.words (fun c=>EC n c a b) (fun w => !GA w b) (fun x f=>by rw [EC,Zgv n a b x ha hb (by omega) (by omega)];rfl) (by omega) (by omega),Ab,List.not_any_eq_all_not]
  simp
theorem Zd6 (rec:Ty→Ty→Option Bool) (n:Nat) (a b:Ty) (la:a.words.length≤1048576) (lb:b.words.length≤1048576) (hn:1048580<n):∀ (k m i:Nat),i+k=a.words.length→k<m →
  Gm rec n a b m i=if ((a.words.drop i).all fun w=>GA w b)=true then Ld rec n a b else some false:=by
 intro k
 induction k with
 | zero =>
  intro m i d e
  obtain ⟨m,rfl⟩:∃ q,m=q+1:=⟨m-1,by omega⟩
  rw [Gm,Av,Ac (by omega),Af (show ¬ (false=true) by decide),List.drop_eq_nil_of_le (by omega),List.all_nil,Ae (show true=true from rfl)]
 | succ k ih =>
  intro m i d e
  obtain ⟨m,rfl⟩:∃ q,m=q+1:=⟨m-1,by omega⟩
  have c:i<a.words.length:=by omega
  rw [Gm,Av,Ad c,Ae rfl,AD c,Ab,XM n _ b (by omega) (by omega),Ab,List.drop_eq_getElem_cons c,List.all_cons]
  cases GA a.words[i] b with
  | false=>rw [Ae (show (!false)=true from rfl),Bool.false_and,Af (show ¬ (false=true) by decide)]
  | true =>
   rw [Af (show ¬ ((!true)=true) by decide),Ae (AA (by omega)),Bool.true_and]
   exact ih m (i+1) (by omega) (by omega)
theorem Zgn (rec:Ty→Ty→Option Bool) (n:Nat) (a b:Ty) (la:a.words.length≤1048576) (lb:b.words.length≤1048576) (hn:1048580<n):Gm rec n a b n 0=some (ZaL a b):=by
 have e:=Zd6 rec n a b la lb hn a.words.length n 0 (by omega) (by omega)
 have c:Gm rec n a b n 0=_:=e
 rw [c,List.drop_zero,ZaL,Ld]
 by_cases q:a.words=[]
 ·rw [q,List.all_nil,Ae rfl,Af (by decide),Af (show ¬ (([]:List ByteArray)≠[]) from fun h=>h rfl)]
  by_cases r:b.words=[]
  ·rw [r,Af (by decide),Af (show ¬ (([]:List ByteArray)≠[]) from fun h=>h rfl)];rfl
  ·have d:0<b.words.length:=List.length_pos_iff.2 r
   rw [Ae r,Ae (by rw [decide_eq_true_eq];omega)]
   by_cases z:a.max=0
   ·rw [Ad z,Ae rfl,XM n _ b (by omega) (by omega),Bool.true_and];rfl
   ·rw [Ac z,Af (by decide),Bool.false_and]
 ·have f:0<a.words.length:=List.length_pos_iff.2 q
  rw [Ae q]
  cases h:a.words.all fun w=>GA w b with
  | false=>rfl
  | true=>rw [Ae rfl,Ae (by rw [decide_eq_true_eq];omega)]
def ZfR (f:Ty→Ty→Bool) (a:Ty) (g:TF):Bool:=match D1 a.fields g.1 with | none => !decide (g.2.2.1=1) | some p=>f p.2.2.2.1 g.2.2.2.1 && !(decide (g.2.2.1=1)&&decide (p.2.2.1=2))
def Zgu (f:Ty→Ty→Bool) (b:Ty) (p:TF):Bool:=match D1 b.fields p.1 with | none=>false | some g=>f p.2.2.2.1 g.2.2.2.1
theorem YH (rec:Ty→Ty→Option Bool) (f:Ty→Ty→Bool) (n:Nat) (a b:Ty) (la:a.fields.length≤1000000) (lb:b.fields.length≤1000000) (hn:1048580<n) (hr:∀ g∈b.fields,∀ p,D1 a.fields g.1=some p→rec p.2.2.2.1 g.2.2.2.1=some (f p.2.2.2.1 g.2.2.2.1)):∀ (k m i:Nat),i+k=b.fields.length→k<m →
  E7 rec n a b m i=some ((b.fields.drop i).all (ZfR f a))
 | k,0,i,_,h=>absurd h (Nat.not_lt_zero _)
 | 0,m+1,i,hi,_=>by
  rw [E7,Av,Ac (by omega),Af (by decide),List.drop_eq_nil_of_le (by omega),List.all_nil];rfl
 | k+1,m+1,i,hi,hm=>by
  have d:i<b.fields.length:=by omega
  have j:=List.getElem_mem d
  have ih:=YH rec f n a b la lb hn hr k m (i+1) (by omega) (by omega)
  rw [E7,Av,Ad d,Ae rfl,AD d,Ab,JD n a _ (by omega) (by omega),Ab,List.drop_eq_getElem_cons d,List.all_cons,ZfR]
  cases q:D1 a.fields b.fields[i].1 with
  | none =>
   by_cases c:b.fields[i].2.2.1=1
   ·rw [Ad c,Ae (by rfl)];rfl
   ·rw [Ac c,Af (by simp),Af (by simp),Ae (AA (by omega))]
    simpa using ih
  | some p =>
   rw [Af (by simp),Ae Option.isSome_some,Option.getD_some,hr _ j p q,Ab]
   simp only
   cases hf:f p.2.2.2.1 b.fields[i].2.2.2.1 with
   | false=>rw [Ae (by rfl)];simp [hf]
   | true =>
    by_cases c:b.fields[i].2.2.1=1∧p.2.2.1=2
    ·rw [Ad c.1,Ad c.2,Ae (by rfl)];simp [hf]
    ·have e:(decide (b.fields[i].2.2.1=1)&&decide (p.2.2.1=2))=false:=by
      rw [Bool.eq_false_iff];intro z;rw [Bool.and_eq_true,decide_eq_true_eq,decide_eq_true_eq] at z;exact c z
     rw [e,Af (by decide),Ae (AA (by omega))]
     refine (show E7 rec n a b m ((i:Int)+1)=_ from ih).trans ?_
     simp [hf]
theorem Zt (rec:Ty→Ty→Option Bool) (f:Ty→Ty→Bool) (n:Nat) (a b:Ty) (la:a.fields.length≤1000000) (lb:b.fields.length≤1000000) (hn:1048580<n) (hr:∀ p∈a.fields,∀ g,D1 b.fields p.1=some g→rec p.2.2.2.1 g.2.2.2.1=some (f p.2.2.2.1 g.2.2.2.1)):∀ (k m i:Nat),i+k=a.fields.length→k<m →
  Hl rec n a b m i=some ((a.fields.drop i).all (Zgu f b))
 | k,0,i,_,h=>absurd h (Nat.not_lt_zero _)
 | 0,m+1,i,hi,_=>by
  rw [Hl,Av,Ac (by omega),Af (by decide),List.drop_eq_nil_of_le (by omega),List.all_nil];rfl
 | k+1,m+1,i,hi,hm=>by
  have c:i<a.fields.length:=by omega
  have d:=List.getElem_mem c
  have ih:=Zt rec f n a b la lb hn hr k m (i+1) (by omega) (by omega)
  rw [Hl,Av,Ad c,Ae rfl,AD c,Ab,JD n b _ (by omega) (by omega),Ab,List.drop_eq_getElem_cons c,List.all_cons,Zgu]
  cases q:D1 b.fields a.fields[i].1 with
  | none=>rw [Ae (by rfl)];rfl
  | some g =>
   rw [Af (by simp),Option.getD_some,hr _ d g q,Ab]
   simp only
   cases hf:f a.fields[i].2.2.2.1 g.2.2.2.1 with
   | false=>rfl
   | true =>
    rw [Af (by decide),Ae (AA (by omega)),Bool.true_and]
    exact ih
theorem Xq {α:Type} (l:List α) (p:α→Bool):(!l.any fun x => !p x)=l.all p:=by rw [List.not_any_eq_all_not];simp
theorem Xy:∀ (d n:Nat) (a b:Ty),a.small→b.small→a.Good→b.Good→a.depth≤d→d+2000000<n→AP n a b=some (MU d a b)∧GB n a b=some (MU d a b)
 | 0,n,a,b,_,_,_,_,h,_=>by have:=a.depth_eq;omega
 | d+1,0,a,b,_,_,_,_,_,h=>absurd h (by omega)
 | d+1,n+1,a,b,sa,sb,ga,gb,hd,hn=>by
  have m:=ga.own
  have l:=gb.own
  have U:=a.lens
  have Q:=b.lens
  have K:=sa.1
  have G:=sb.1
  have C:=(a.ok_eq.1 sa.2.2).1
  have D:=(b.ok_eq.1 sb.2.2).1
  rw [AP,FC,GB,QC,MU]
  by_cases num:(a.kind=2∨a.kind=3)∧(b.kind=2∨b.kind=3)
  ·have s:(if decide (b.kind=2)=true then BF (AP n) n a b true else BF (AP n) n a b (decide (b.kind=3)))=BF (AP n) n a b true:=by
    rcases num.2 with q | q
    ·rw [Ad q,Ae rfl]
    ·rw [Ad q];exact ite_self _
   have O:=m.scale
   have N:=l.scale
   have j:=ZfK n a b m l num.1 num.2 (by omega)
   rw [Ae num,ML (.inr num),Af (by decide),s,BF,Ae rfl,ZhY n a b m l num.1 num.2 (by omega),QT m num.1,QT l num.2,Ad O.1,Ad N.1,Ae (by rfl),Ae (by unfold B2;omega)]
   exact ⟨rfl,j⟩
  have v:(decide (0≤AL a)&&decide (0≤AL b))=false:=by
   rw [Bool.eq_false_iff]
   intro q
   rw [Bool.and_eq_true,decide_eq_true_eq,decide_eq_true_eq] at q
   exact num ⟨PK q.1,PK q.2⟩
  rw [Af num,v,Af (show ¬ (false=true) by decide)]
  by_cases ne:a.kind=b.kind
  rotate_left
  ·rw [Ae ne,VK ne num,Ae (by rfl),Ac ne,Ae (by rfl)]
   exact ⟨rfl,rfl⟩
  have t:¬ b.kind=2:=fun q=>num ⟨by omega,.inl q⟩
  have u:¬ b.kind=3:=fun q=>num ⟨by omega,.inr q⟩
  rw [Af (show ¬ a.kind≠b.kind from fun q=>q ne),ML (.inl ne),Af (show ¬ ((!true)=true) by decide),Ac t,Af (show ¬ (false=true) by decide),Ac u,BF,Af (show ¬ (false=true) by decide),Ad ne,Af (show ¬ ((!true)=true) by decide)]
  by_cases k1:b.kind=1
  ·rw [Ae k1,Ad k1,Ae rfl,Ae rfl]
   exact ⟨rfl,rfl⟩
  rw [Af k1,Ac k1,Af (show ¬ (false=true) by decide),Af (show ¬ (false=true) by decide)]
  by_cases k4:b.kind=4
  ·rw [Ae k4,Ad k4,Ae rfl,Ae rfl,ZhH n a b (by omega) k4 C D (by omega),Zgn _ n a b C D (by omega)]
   exact ⟨rfl,rfl⟩
  rw [Af k4,Ac k4,Af (show ¬ (false=true) by decide),Af (show ¬ (false=true) by decide)]
  by_cases k8:b.kind=8
  ·obtain ⟨x,E⟩:=m.elem (by omega)
   obtain ⟨y,F⟩:=l.elem k8
   have k:x∈a.elem:=by rw [E];simp
   have o:y∈b.elem:=by rw [F];simp
   obtain ⟨J,H⟩:=Xy d n x y (Ty.small_elem sa k) (Ty.small_elem sb o) (Dh ga k) (Dh gb o) (by have:=Ty.depth_elem k;omega) (by omega)
   rw [Ae k8,Ad k8,Ae rfl,Ae rfl,E,F,show Ci [x] 0=some x from rfl,show Ci [y] 0=some y from rfl,Ab,Ab,Ab,Ab,J,H,show C0 a b=Y6 a b from rfl,show F5 a b=Y6 a b from rfl]
   cases Y6 a b with
   | false=>exact ⟨rfl,rfl⟩
   | true =>
    by_cases z:a.max=0
    ·rw [Ad z];exact ⟨rfl,rfl⟩
    ·rw [Ac z];exact ⟨rfl,rfl⟩
  rw [Af k8,Ac k8,Af (show ¬ (false=true) by decide),Af (show ¬ (false=true) by decide)]
  by_cases k9:b.kind=9
  ·have ih:∀ g∈b.fields,∀ p,D1 a.fields g.1=some p→AP n p.2.2.2.1 g.2.2.2.1=some (MU d p.2.2.2.1 g.2.2.2.1)∧GB n p.2.2.2.1 g.2.2.2.1=some (MU d p.2.2.2.1 g.2.2.2.1):=fun g e p c=>by
    have i:p∈a.fields:=List.mem_of_find?_eq_some c
    exact Xy d n _ _ (Ty.small_field sa i) (Ty.small_field sb e) (AN ga i) (AN gb e) (by have:=Ty.depth_field i;omega) (by omega)
   have s:=Ks n b.fields (fun w=>CU (AP n) n w a) (fun g => !ZfR (MU d) a g) (fun g e=>by
    rw [CU,Jl,Ru n a.fields _ (by omega) (by omega),Ab,ZfR]
    cases q:D1 a.fields g.1 with
    | none=>rfl
    | some p=>rw [Af (by simp),Option.getD_some,(ih g e p q).1];rfl) (by omega) (by omega)
   have j:=YH (GB n) (MU d) n a b (by omega) (by omega) (by omega) (fun g e p c=>(ih g e p c).2) b.fields.length n 0 (by omega) (by omega)
   rw [List.drop_zero] at j
   have f:E7 (GB n) n a b n 0=_:=j
   rw [Ae k9,Ad k9,Ae rfl,s,Ab,Ac (show ¬ b.kind=10 by omega),Af (show ¬ (false=true) by decide),Ae rfl,f,Xq]
   exact ⟨rfl,rfl⟩
  rw [Af k9,Ac k9,Af (show ¬ (false=true) by decide)]
  by_cases k10:b.kind=10
  ·have ih:∀ p∈a.fields,∀ g,D1 b.fields p.1=some g→AP n p.2.2.2.1 g.2.2.2.1=some (MU d p.2.2.2.1 g.2.2.2.1)∧GB n p.2.2.2.1 g.2.2.2.1=some (MU d p.2.2.2.1 g.2.2.2.1):=fun p c g e=>by
    have r:g∈b.fields:=List.mem_of_find?_eq_some e
    exact Xy d n _ _ (Ty.small_field sa c) (Ty.small_field sb r) (AN ga c) (AN gb r) (by have:=Ty.depth_field c;omega) (by omega)
   have s:=Ks n a.fields (fun w=>CQ (AP n) n w b) (fun p => !Zgu (MU d) b p) (fun p c=>by
    rw [CQ,IE,Ru n b.fields _ (by omega) (by omega),Ab,Zgu]
    cases q:D1 b.fields p.1 with
    | none=>rfl
    | some g=>rw [Ae (by rfl),Option.getD_some,(ih p c g q).1];rfl) (by omega) (by omega)
   have j:=Zt (GB n) (MU d) n a b (by omega) (by omega) (by omega) (fun p c g e=>(ih p c g e).2) a.fields.length n 0 (by omega) (by omega)
   rw [List.drop_zero] at j
   have f:Hl (GB n) n a b n 0=_:=j
   rw [Ae k10,Ad k10,Ae rfl,Ae rfl,s,Ab,f,Xq]
   exact ⟨rfl,rfl⟩
  ·rw [Af k10,Ac k10,Af (show ¬ (false=true) by decide),Af (show ¬ (false=true) by decide),Af (show ¬ (false=true) by decide)]
   exact ⟨rfl,rfl⟩
theorem ZdF {t:Ty} {v:Vl} (h:((t.words.any fun x=>DR x v.text)||(decide ((t.words.length:Int)=0)&&WQ t v.text.size))=true):GA v.text t=true:=by
 rw [GA]
 by_cases q:t.words=[]
 ·rw [Ae q]
  rw [q,List.any_nil,Bool.false_or,Bool.and_eq_true] at h
  exact h.2
 ·rw [Af q]
  have a:0<t.words.length:=List.length_pos_iff.2 q
  rw [Ac (show ¬ (t.words.length:Int)=0 by omega),Bool.false_and,Bool.or_false] at h
  exact h
theorem ZaX {t:Ty} {p:TF} (hp:p∈t.fields):(A5 t p.2.1).isSome=true:=by
 rw [A5,List.find?_isSome]
 exact ⟨p,hp,Eb _⟩
theorem Rl:∀ (d e:Nat) (t:Ty) (x:Vl),t.Good→x.Good→t.depth≤e→Ls d t x=true→XK e t x
 | 0,e,t,x,_,_,_,h=>by simp [Ls] at h
 | d+1,0,t,x,_,_,hd,_=>by have:=t.depth_eq;omega
 | d+1,e+1,t,x,gt,gx,hd,h=>by
  have o:=gt.own
  have k:=Zal (Iz gx)
  have C:=o.kind
  rw [Ls] at h
  by_cases hk:t.kind=x.kind
  rotate_left
  ·rw [Ae hk] at h;cases h
  rw [Af (fun q=>q hk)] at h
  have f:=J3 C hk.symm k
  by_cases k2:t.kind=2∨t.kind=6∨t.kind=7
  ·rw [Ae k2] at h
   exact GG (by omega) (by omega) (by omega) (by rw [Dp,Af f,Ae k2];exact h)
  rw [Af k2] at h
  by_cases k3:t.kind=3
  ·rw [Ae k3] at h
   exact GG (by omega) (by omega) (by omega) (by rw [Dp,Af f,Af k2,Ae k3];exact h)
  rw [Af k3] at h
  by_cases k4:t.kind=4
  ·rw [Ae k4] at h
   exact GG (by omega) (by omega) (by omega) (by rw [Dp,Af f,Af k2,Af k3,Ae k4];exact ZdF h)
  rw [Af k4] at h
  by_cases k5:t.kind=5
  ·rw [Ae k5] at h
   exact GG (by omega) (by omega) (by omega) (by rw [Dp,Af f,Af k2,Af k3,Af k4,Ae k5];exact h)
  rw [Af k5] at h
  by_cases k8:t.kind=8
  ·rw [Ae k8,Bool.and_eq_true,List.all_eq_true] at h
   obtain ⟨y,m⟩:=o.elem k8
   have b:y∈t.elem:=by rw [m];simp
   refine WP k8 (by omega) k m h.2 fun u n=>?_
   have g:=h.1 u n
   rw [List.all_eq_true] at g
   exact Rl d e y u (Dh gt b) (Hf gx (by rw [Bv,Ae (.inl (by omega))];exact n)) (by have:=Ty.depth_elem b;omega) (g y b)
  rw [Af k8] at h
  by_cases k10:t.kind=10
  ·rw [Ae k10] at h
   obtain ⟨z,i⟩:=W3 gx (by omega)
   cases c:A5 t x.text with
   | none=>rw [c] at h;cases h
   | some p =>
    rw [c,i] at h
    have a:=(Bg c).1
    have h:Ls d p.2.2.2.1 z=true:=by simpa using h
    exact WB k10 (by omega) k c i (Rl d e _ z (AN gt a) (Hf gx (by rw [Bv,Ae (.inr (by omega)),i];simp)) (by have:=Ty.depth_field a;omega) h)
  rw [Af k10] at h
  by_cases k9:t.kind=9
  ·rw [Ae k9,Bool.and_eq_true,List.all_eq_true] at h
   obtain ⟨r,s⟩:=h
   rw [Bool.not_eq_true',List.any_eq_false] at s
   refine Zb k9 (by omega) k (fun p a=>?_) fun q j=>?_
   ·cases c:B9 x p.2.1 with
    | none =>
     right
     refine ⟨rfl,?_⟩
     have l:=s p a
     have v:Yz x p.2.1=false:=by
      cases q:Yz x p.2.1 with
      | false=>rfl
      | true =>
       rw [Yz,List.any_eq_true] at q
       obtain ⟨z,i,e⟩:=q
       rw [B9,Option.map_eq_none_iff,List.find?_eq_none] at c
       exact absurd e (c z i)
     rw [ZbI,v] at l
     by_cases q:p.2.2.1=2
     ·exact q
     ·rw [Ac q] at l;exact absurd rfl l
    | some y =>
     left
     refine ⟨y,rfl,?_⟩
     obtain ⟨q,j,w,rfl⟩:=H6 c
     have:=r q j
     rw [w,Ny (FU _ _ _ o.apart).1 a] at this
     exact Rl d e _ _ (AN gt a) (Hf gx (by rw [Bv,Af (by omega),Ae (by omega)];exact List.mem_map_of_mem j)) (by have:=Ty.depth_field a;omega) this
   ·have:=r q j
    cases c:A5 t q.1 with
    | none=>rw [c] at this;cases this
    | some p=>rfl
  ·exact GG k8 k9 k10 (by rw [Dp,Af f,Af k2,Af k3,Af k4,Af k5,Af k8,Af k9,Af k10])
theorem RQ (f:Vl→Option Vl):∀ (l m:List Vl),J1 f l=some m→m.length=l.length∧∀ u∈m,∃ v∈l,f v=some u
 | [],m,h=>by rw [J1] at h;cases h;simp
 | v::r,m,h=>by
  rw [J1] at h
  obtain ⟨y,b,h⟩:=Option.bind_eq_some_iff.1 h
  obtain ⟨l,a,rfl⟩:=Option.map_eq_some_iff.1 h
  obtain ⟨c,d⟩:=RQ f r l a
  refine ⟨by rw [List.length_cons,List.length_cons,c],fun u hu=>?_⟩
  rcases List.mem_cons.1 hu with rfl | hu
  ·exact ⟨v,List.mem_cons_self .., b⟩
  ·obtain ⟨z,g,e⟩:=d u hu
   exact ⟨z,List.mem_cons_of_mem _ g,e⟩
theorem Wy {f:Ty→Ty→Vl→Option Vl} {a:Ty} {v:Vl} {g:TF} {o:List (ByteArray × Vl)} (h:JB f a v g=some o) :
  (∃ p x y,D1 a.fields g.1=some p∧B9 v p.2.1=some x∧f p.2.2.2.1 g.2.2.2.1 x=some y∧o=[(g.2.1,y)])∨(g.2.2.1=3∧∃ x r,g.2.2.2.2=x::r∧o=[(g.2.1,x)])∨(o=[]∧g.2.2.1≠1∧(g.2.2.1=3→g.2.2.2.2=[])):=by
 have b:TA g=some o→(g.2.2.1=3∧∃ x r,g.2.2.2.2=x::r∧o=[(g.2.1,x)])∨(o=[]∧g.2.2.1≠1∧(g.2.2.1=3→g.2.2.2.2=[])):=fun h=>by
  rw [TA] at h
  by_cases c1:g.2.2.1=1
  ·rw [Ae c1] at h;cases h
  rw [Af c1] at h
  by_cases c3:g.2.2.1=3
  ·rw [Ae c3] at h
   cases q:g.2.2.2.2 with
   | nil=>rw [q] at h;cases h;exact .inr ⟨rfl,c1,fun _=>rfl⟩
   | cons x r=>rw [q] at h;cases h;exact .inl ⟨c3,x,r,rfl,rfl⟩
  ·rw [Af c3] at h;cases h;exact .inr ⟨rfl,c1,fun q=>absurd q c3⟩
 rw [JB] at h
 cases hp:D1 a.fields g.1 with
 | none=>rw [hp] at h;exact .inr (b h)
 | some p =>
  rw [hp] at h
  cases hx:B9 v p.2.1 with
  | none=>simp only [hx] at h;exact .inr (b h)
  | some x =>
   simp only [hx] at h
   obtain ⟨y,c,rfl⟩:=Option.map_eq_some_iff.1 h
   exact .inl ⟨p,x,y,rfl,hx,c,rfl⟩
theorem NU {f:Ty→Ty→Vl→Option Vl} {a:Ty} {v:Vl} {g:TF} {o:List (ByteArray × Vl)} (h:JB f a v g=some o):o.map Prod.fst=[g.2.1]∨o=[]:=by
 rcases Wy h with ⟨p,x,y,_,_,_,rfl⟩ | ⟨_,x,r,_,rfl⟩ | ⟨rfl,_⟩
 ·exact .inl rfl
 ·exact .inl rfl
 ·exact .inr rfl
theorem Nb (f:Ty→Ty→Vl→Option Vl) (a:Ty) (v:Vl):∀ (gs:List TF) (l:List (ByteArray × Vl)),MG f a v gs=some l →
  (l.map Prod.fst).Sublist (gs.map fun g=>g.2.1)∧(∀ g∈gs,∃ o,JB f a v g=some o∧∀ q∈o,q∈l)∧∀ q∈l,∃ g∈gs,∃ o,JB f a v g=some o∧q∈o
 | [],l,h=>by rw [MG] at h;cases h;simp
 | g::gs,l,h=>by
  rw [MG] at h
  obtain ⟨o,ho,h⟩:=Option.bind_eq_some_iff.1 h
  obtain ⟨m,i,rfl⟩:=Option.map_eq_some_iff.1 h
  obtain ⟨h1,j,d⟩:=Nb f a v gs m i
  refine ⟨?_,fun x hx=>?_,fun q hq=>?_⟩
  ·rw [List.map_append,List.map_cons]
   rcases NU ho with e | e
   ·rw [e,List.singleton_append];exact h1.cons_cons _
   ·subst e;exact h1.cons _
  ·rcases List.mem_cons.1 hx with rfl | hx
   ·exact ⟨o,ho,fun q hq=>List.mem_append_left _ hq⟩
   ·obtain ⟨c,b,k⟩:=j x hx
    exact ⟨c,b,fun q hq=>List.mem_append_right _ (k q hq)⟩
  ·rcases List.mem_append.1 hq with hq | hq
   ·exact ⟨g,List.mem_cons_self .., o,ho,hq⟩
   ·obtain ⟨x,hx,c,b,k⟩:=d q hq
    exact ⟨x,List.mem_cons_of_mem _ hx,c,b,k⟩
theorem SD {l:List TF} (h:(l.map fun p=>p.2.1).Nodup) {p q:TF} (hp:p∈l) (hq:q∈l) (e:p.2.1=q.2.1):p=q:=by
 obtain ⟨i,b,rfl⟩:=List.mem_iff_getElem.1 hp
 obtain ⟨j,a,rfl⟩:=List.mem_iff_getElem.1 hq
 rcases Nat.lt_trichotomy i j with w | w | w
 ·exact absurd e (by have:=List.pairwise_iff_getElem.1 h i j (by simpa using b) (by simpa using a) w;simpa using this)
 ·subst w;rfl
 ·exact absurd e.symm (by have:=List.pairwise_iff_getElem.1 h j i (by simpa using a) (by simpa using b) w;simpa using this)
theorem TZ:∀ (d e z:Nat) (a b:Ty) (w y:Vl),a.Good→b.Fine z→b.depth≤e→Dp d a w=true→O9 d a b w=some y→XK e b y
 | 0,e,z,a,b,w,y,_,_,_,h,_=>by simp [Dp] at h
 | d+1,0,z,a,b,w,y,_,_,hd,_,_=>by have:=b.depth_eq;omega
 | d+1,e+1,0,a,b,w,y,_,h,_,_,_=>by cases h
 | d+1,e+1,z+1,a,b,w,y,ga,fb,hd,i,hu=>by
  have gb:=fb.good
  have F:=gb.own
  have k1:=F.kind
  obtain ⟨hk,_,_,G⟩:=JL i
  have c0:=J3 (t:=a) (v:=w) (by have:=ga.own.kind;omega) hk G
  rw [Dp,Af c0] at i
  rw [O9] at hu
  by_cases num:(a.kind=2∨a.kind=3)∧(b.kind=2∨b.kind=3)
  ·rw [Ae num] at hu
   obtain ⟨m,_,hu⟩:=Option.bind_eq_some_iff.1 hu
   by_cases hb:JX m b=true
   ·rw [Ae hb] at hu
    cases hu
    have V:AB (Vl.mk b.kind m b.scale ⟨#[]⟩ [] [])=true:=by
     rcases num.2 with q | q
     ·rw [F.noscale (by omega)];simp [AB,bare,Vl.kind,Vl.int,Vl.scale,Vl.text,Vl.list,Vl.fields,q,Eb]
     ·simp [AB,bare,Vl.kind,Vl.int,Vl.scale,Vl.text,Vl.list,Vl.fields,q,Eb]
    refine GG (by omega) (by omega) (by omega) ?_
    rw [Dp,Af (J3 k1 rfl V)]
    rcases num.2 with q | q
    ·rw [Ae (.inl q)];exact hb
    ·rw [Af (by omega),Ae q,Bool.and_eq_true];exact ⟨Ad rfl,hb⟩
   ·rw [Af hb] at hu;cases hu
  rw [Af num] at hu
  by_cases ne:a.kind=b.kind
  rotate_left
  ·rw [Ae ne] at hu;cases hu
  rw [Af (fun q=>q ne)] at hu
  have n2:b.kind≠2:=fun q=>num ⟨.inl (by omega),.inl q⟩
  have O:b.kind≠3:=fun q=>num ⟨.inr (by omega),.inr q⟩
  have H:=J3 (t:=b) (v:=w) k1 (by omega) G
  by_cases k67:b.kind=6∨b.kind=7
  ·rw [Ae k67] at hu
   by_cases hb:JX w.int b=true
   ·rw [Ae hb] at hu;cases hu
    exact GG (by omega) (by omega) (by omega) (by rw [Dp,Af H,Ae (by omega)];exact hb)
   ·rw [Af hb] at hu;cases hu
  rw [Af k67] at hu
  by_cases k5:b.kind=5
  ·rw [Ae k5] at hu
   by_cases hb:JX w.text.size b=true
   ·rw [Ae hb] at hu;cases hu
    exact GG (by omega) (by omega) (by omega) (by rw [Dp,Af H,Af (by omega),Af O,Af (by omega),Ae k5];exact hb)
   ·rw [Af hb] at hu;cases hu
  rw [Af k5] at hu
  by_cases k4:b.kind=4
  ·rw [Ae k4] at hu
   by_cases hb:GA w.text b=true
   ·rw [Ae hb] at hu;cases hu
    exact GG (by omega) (by omega) (by omega) (by rw [Dp,Af H,Af (by omega),Af O,Ae k4];exact hb)
   ·rw [Af hb] at hu;cases hu
  rw [Af k4] at hu
  by_cases k8:b.kind=8
  ·obtain ⟨x,C⟩:=ga.own.elem (by omega)
   obtain ⟨x',E⟩:=F.elem k8
   have Z:x∈a.elem:=by rw [C];simp
   have n:x'∈b.elem:=by rw [E];simp
   rw [Ae k8,C,E] at hu
   obtain ⟨l,hl,hu⟩:=Option.bind_eq_some_iff.1 hu
   rw [Af (by omega),Af (by omega),Af (by omega),Af (by omega),Ae (by omega),Bool.and_eq_true,List.all_eq_true] at i
   by_cases hb:JX w.list.length b=true
   ·rw [Ae hb] at hu;cases hu
    obtain ⟨h1,h2⟩:=RQ _ _ _ hl
    refine WP k8 rfl (by simp [AB,bare,Vl.kind,Vl.int,Vl.scale,Vl.text,Vl.list,Vl.fields,Eb]) E (by show JX (l.length:Int) b=true;rw [h1];exact hb) fun u hu=>?_
    obtain ⟨v,hv,e1⟩:=h2 u hu
    have:=i.2 v hv
    rw [C] at this
    exact TZ d e z x x' v u (Dh ga Z) (fb.elem n) (by have:=Ty.depth_elem n;omega) this e1
   ·rw [Af hb] at hu;cases hu
  rw [Af k8] at hu
  by_cases k9:b.kind=9
  ·rw [Ae k9] at hu
   obtain ⟨l,hl,rfl⟩:=Option.map_eq_some_iff.1 hu
   obtain ⟨s1,s2,s3⟩:=Nb _ _ _ _ _ hl
   have nb:=(FU _ _ _ F.apart).1
   have nl:(l.map Prod.fst).Nodup:=nb.sublist s1
   have ss:=Nn l nl
   rw [Af (by omega),Af (by omega),Af (by omega),Af (by omega),Af (by omega),Ae (by omega),Bool.and_eq_true,List.all_eq_true] at i
   have s:∀ q,q∈Bz l↔q∈l:=fun q=>(Gt l).mem_iff
   have V:AB (Vl.mk 9 0 0 ⟨#[]⟩ [] (Bz l))=true:=by
    have:=(X5 (Bz l)).2 ss
    simp [AB,bare,Vl.kind,Vl.int,Vl.scale,Vl.text,Vl.list,Vl.fields,Eb,this]
   refine Zb k9 rfl V (fun g k=>?_) fun q hq=>?_
   ·obtain ⟨o,ho,Q⟩:=s2 g k
    have J:∀ y,(g.2.1,y)∈o→B9 (Vl.mk 9 0 0 ⟨#[]⟩ [] (Bz l)) g.2.1=some y:=fun y hy=>H4 (v:=Vl.mk 9 0 0 ⟨#[]⟩ [] (Bz l)) ss (q:=(g.2.1,y)) ((s _).2 (Q _ hy))
    have dg:=Ty.depth_field k
    rcases Wy ho with ⟨p,x,y,hp,C,hy,rfl⟩ | ⟨c3,x,r,C,rfl⟩ | ⟨rfl,H,c3⟩
    ·left
     have j:p∈a.fields:=List.mem_of_find?_eq_some hp
     have:=i.1 p j
     rw [C] at this
     exact ⟨y,J y (by simp),TZ d e z _ _ x y (AN ga j) (fb.field k) (by omega) this hy⟩
    ·left
     obtain ⟨d1,d2⟩:=fb.dfl k x (by rw [C];simp)
     exact ⟨x,J x (by simp),Rl 12 e _ x (AN gb k) (JR d1) (by omega) d2⟩
    ·right
     have K:=F.each g k
     refine ⟨?_,?_⟩
     ·cases c:B9 (Vl.mk 9 0 0 ⟨#[]⟩ [] (Bz l)) g.2.1 with
      | none=>rfl
      | some y =>
       obtain ⟨q,hq,e1,_⟩:=H6 c
       obtain ⟨N,Y,o',ho',hq'⟩:=s3 q ((s q).1 hq)
       have:o'.map Prod.fst=[N.2.1]:=by
        rcases NU ho' with h | h
        ·exact h
        ·subst h;simp at hq'
       have U:q.1=N.2.1:=by
        have:=List.mem_map_of_mem (f:=Prod.fst) hq'
        rw [‹o'.map Prod.fst=[N.2.1]›, List.mem_singleton] at this
        exact this
       have:N=g:=SD nb Y k (by rw [←U,e1])
       subst this
       rw [ho] at ho'
       cases ho'
       simp at hq'
     ·have:g.2.2.1≠3:=fun q=>by have:=K.2.2.2.2.1 q;rw [c3 q] at this;simp at this
      omega
   ·obtain ⟨g,k,o,ho,hqo⟩:=s3 q ((s q).1 hq)
    have:o.map Prod.fst=[g.2.1]:=by
     rcases NU ho with h | h
     ·exact h
     ·subst h;simp at hqo
    have U:q.1=g.2.1:=by
     have h:=List.mem_map_of_mem (f:=Prod.fst) hqo
     rw [this,List.mem_singleton] at h
     exact h
    rw [U];exact ZaX k
  rw [Af k9] at hu
  by_cases k10:b.kind=10
  ·rw [Ae k10] at hu
   rw [Af (by omega),Af (by omega),Af (by omega),Af (by omega),Af (by omega),Af (by omega),Ae (by omega)] at i
   cases c:A5 a w.text with
   | none=>rw [c] at hu;simp at hu
   | some p =>
    cases hl:w.list with
    | nil=>rw [c,hl] at hu;simp at hu
    | cons x xs =>
     rw [c,hl] at hu i
     simp only at hu
     have i:Dp d p.2.2.2.1 x=true:=i
     have j:=(Bg c).1
     cases g:D1 b.fields p.1 with
     | none=>rw [g] at hu;cases hu
     | some q =>
      rw [g] at hu
      have D:q∈b.fields:=List.mem_of_find?_eq_some g
      obtain ⟨u,aa,rfl⟩:=Option.map_eq_some_iff.1 hu
      exact WB k10 rfl (by simp [AB,bare,Vl.kind,Vl.int,Vl.scale,Vl.text,Vl.list,Vl.fields]) (Ny (FU _ _ _ F.apart).1 D) rfl (TZ d e z _ _ x u (AN ga j) (fb.field D) (by have:=Ty.depth_field D;omega) i aa)
  ·rw [Af k10] at hu
   cases hu
   exact GG k8 k9 k10 (by rw [Dp,Af H,Af (by omega),Af O,Af k4,Af k5,Af k8,Af k9,Af k10])
def Dv (n:Nat) (h:Ty) (g:Ty):Option Int :=
 (EZ n h).bind fun b =>
 if !(decide (b=0)) then
  some (b)
 else
  (EZ n g).bind fun q =>
  some (q)
theorem HV (w0:World) (hT:Lib.Utf8Tabs 0 1 w0) (n:Nat) (B:List (List AV)) (Rw:List RowA) (L:List LoopA) (a0:Ty) (a1:Ty) (r:Int) (h:Dv n a0 a1=some r) :
  ACalls Tryz.prog w0 78 [.agg (a0.cs),.agg (a1.cs)] ⟨B,Rw,L⟩ fun x st=>x = .val (.int .i64 r)∧st=⟨B,Rw,L⟩:=by
 rw [Dv] at h
 refine hd [.tmp 4] Tryz.func78 Tryz.ntmps78 fun M0 W0 m i j a k g hs=>?_
 simp only [As]
 refine rg [2,3] hs ?_
 apply Ah;intro K2 c
 obtain ⟨l,f,h⟩:=bind_some h
 refine rc 2 [3,5] hs ?_;intro K3 b
 refine Ai _ (KY w0 hT n _ _ _ a0 _ f) (hv hs) ?_
 refine ne hs b ?_
 clear b
 refine rg [3,5,9] hs ?_
 refine AK h hs (fun hs h=>?_) (fun hs h=>?_)
 ·refine rg [4] hs ?_
  exact rt h hs a g
 refine sk [3] hs c ?_
 clear c
 obtain ⟨o,e,h⟩:=bind_some h
 refine rc 2 [4] hs ?_;intro K8 d
 refine Ai _ (KY w0 hT n _ _ _ a1 _ e) (hv hs) ?_
 refine ne hs d ?_
 clear d
 exact rt h hs a g
def DX (n:Nat) (g:Ty) (y:Ty) (a2:Vl):Option (Vl × Int) :=
 (Dv n g y).bind fun y4 =>
 if !(decide (y4=0)) then
  some ((Vl.mk 0 0 0 ((⟨#[]⟩:ByteArray)) ([]) ([]),y4))
 else
  (FN n g a2).bind fun s =>
  if !(decide (s.2=0)) then
   some ((Vl.mk 0 0 0 ((⟨#[]⟩:ByteArray)) ([]) ([]),s.2))
  else
   (AM n g y s.1).bind fun b =>
   if !b.2 then
    some ((Vl.mk 0 0 0 ((⟨#[]⟩:ByteArray)) ([]) ([]),20))
   else
    (FH n b.1).bind fun q =>
    if !(decide (q=0)) then
     some ((Vl.mk 0 0 0 ((⟨#[]⟩:ByteArray)) ([]) ([]),9))
    else
     (BU n b.1).bind fun h =>
     some ((h,0))
theorem IB (w0:World) (hP:Pow10 w0) (hT:Lib.Utf8Tabs 0 1 w0) (n:Nat) (B:List (List AV)) (Rw:List RowA) (L:List LoopA) (a0:Ty) (a1:Ty) (a2:Vl) (r:Vl × Int) (h:DX n a0 a1 a2=some r) :
  ACalls Tryz.prog w0 29 [.agg (a0.cs),.agg (a1.cs),.agg (a2.cs)] ⟨B,Rw,L⟩ fun x st=>x = .tup [.agg (r.1.cs),.val (.int .i64 r.2)]∧st=⟨B,Rw,L⟩:=by
 rw [DX] at h
 refine hd [.cell 6 46,.tmp 7] Tryz.func29 Tryz.ntmps29 fun M0 W0 D v t a C j hs=>?_
 simp only [As]
 refine rg [3,4,5,6] hs ?_
 apply Ah;intro K2 g
 obtain ⟨z,q,h⟩:=bind_some h
 refine rc 2 [3,4,5,6,8] hs ?_;intro K3 m
 refine Ai _ (HV w0 hT n _ _ _ a0 a1 _ q) (hv hs) ?_
 refine ne hs m ?_
 clear m
 refine rg [3,4,5,6,8,16] hs ?_
 refine AK h hs (fun hs h=>?_) (fun hs h=>?_)
 ·refine rg [6,7] hs ?_
  exact rt h hs a j
 refine sk [3,4,5,6] hs g ?_
 clear g
 obtain ⟨y,s,h⟩:=bind_some h
 refine rc 2 [3,4,5,6,9] hs ?_;intro K8 i
 refine Ai _ (Oe w0 hP hT n _ _ _ a0 a2 _ s) (hv hs) ?_
 refine ne hs i ?_
 clear i
 apply Ah;intro K10 c
 refine rg [3,4,5,6,9,26] hs ?_
 refine AK h hs (fun hs h=>?_) (fun hs h=>?_)
 ·refine rg [6,7] hs ?_
  exact rt h hs a j
 refine sk [3,4,5,6] hs c ?_
 clear c
 obtain ⟨o,p,h⟩:=bind_some h
 refine rc 2 [6,10,11] hs ?_;intro K14 e
 refine Ai _ (IH w0 n _ _ _ a0 a1 y.1 _ p) (hv hs) ?_
 refine ne hs e ?_
 clear e
 apply Ah;intro K16 b
 apply Ak
 refine rg [6,10,36] hs ?_
 refine AK h hs (fun hs h=>?_) (fun hs h=>?_)
 ·refine rg [6,7] hs ?_
  exact rt h hs a j
 obtain ⟨u,l,h⟩:=bind_some h
 refine rc 2 [6,10,40] hs ?_;intro K20 f
 refine Ai _ (Nr w0 hT n _ _ _ o.1 _ l) (hv hs) ?_
 refine ne hs f ?_
 clear f
 refine AK h hs (fun hs h=>?_) (fun hs h=>?_)
 ·refine rg [6,7] hs ?_
  exact rt h hs a j
 refine sk [6,10] hs b ?_
 clear b
 obtain ⟨w,k,h⟩:=bind_some h
 refine rc 2 [6,7] hs ?_;intro K24 d
 refine Ai _ (G3 w0 n _ _ _ o.1 _ k) (hv hs) ?_
 refine ne hs d ?_
 clear d
 exact rt h hs a j
end Go.Proofs.YtgpmlelfkjfbiaaGreatDoor
