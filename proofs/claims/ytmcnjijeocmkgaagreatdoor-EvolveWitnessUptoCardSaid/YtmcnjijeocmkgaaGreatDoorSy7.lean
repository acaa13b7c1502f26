/-
  Part 7 of the proof: rules and walks that the claim's last text uses.
-/
import Derived.Test.YtmcnjijeocmkgaaGreatDoorSy6
set_option linter.unusedSimpArgs false
set_option linter.unusedVariables false
set_option maxRecDepth 100000
set_option maxHeartbeats 4000000
namespace Go.Proofs.YtmcnjijeocmkgaaGreatDoor
open Go Go.RowKit Go.Ev
theorem SE (n:Nat) (t:Ty) (w:ByteArray) (hn:t.size+1450000≤n) (ht:t.small) (hk:t.kind=9∨t.kind=10):KL n t w=some ((A7 t w).getD Po,(A7 t w).isSome):=by
 have c:KL n t w=(Lm n t (fun x=>some (Eb x.2.1 w))).bind fun b=>some (b.1,b.2):=rfl
 have a:A7 t w=B1 t.fields (O0 (fun x:TF=>Eb x.2.1 w) t.fields 0):=WM _ _
 rw [c]
 rcases Ziv n t (fun x=>Eb x.2.1 w) hn ht with ⟨k1,k2,_⟩ | ⟨_,⟨q1,q2⟩ | ⟨j,hj,q1,q2⟩⟩
 ·omega
 ·rw [q2,a,q1];rfl
 ·rw [q2,a,q1,AM hj];rfl
theorem Za5 (rec:Ty→Vl→Option Bool) (d n:Nat) (t:Ty) (v:Vl) (hn:t.size+1450000≤n) (hn2:v.size<n) (hs:v.size≤1000000000) (ht:t.small) (tk:t.kind=9) (vk:v.kind=9)
  (hr:∀ p∈t.fields,∀ q∈v.fields,rec p.2.2.2.1 q.2=some (FB d p.2.2.2.1 q.2)):∀ (k m i:Nat),i+k=v.fields.length→k<m→JC rec n t v m i=some ((v.fields.drop i).all (ZfF d t) && !(t.fields.any (Zg v)))
 | k,0,i,_,h=>absurd h (Nat.not_lt_zero _)
 | 0,m+1,i,hi,_=>by
  have g:=t.lens.2
  have b:=ht.1
  have e:=Pz n t.fields (fun x=>MP n x v) (Zg v) (fun x _=>by
   obtain ⟨u,j⟩:=Zee n v x.2.1 vk hs hn2
   rw [MP,j];rfl) (by omega) (by omega)
  rw [JC,AC,Ac,Ai (by decide),QZ,e,List.drop_eq_nil_of_le (by omega),List.all_nil,Bool.true_and];rfl
 | k+1,m+1,i,hi,hm=>by
  have a:i<v.fields.length:=by omega
  have f:=ML v
  have ih:=Za5 rec d n t v hn hn2 hs ht tk vk hr k m (i+1) (by omega) (by omega)
  rw [JC,AC,Ag a,Ah rfl,AM a,Ae,SE n t _ hn ht (.inl tk),Ae,List.drop_eq_getElem_cons a,List.all_cons,ZfF]
  cases c:A7 t v.fields[i].1 with
  | none=>rw [Ah (by rfl)];rfl
  | some p =>
   rw [Ai (by simp),Option.getD_some,hr _ (BC c).1 _ (List.getElem_mem a),Ae]
   simp only
   cases FB d p.2.2.2.1 v.fields[i].2 with
   | false=>rfl
   | true =>
    rw [Ai (by decide),Ah (AK (by omega)),Bool.true_and]
    exact ih
theorem V1:∀ (n d:Nat) (t:Ty) (v:Vl),t.size+1500000≤n→v.size+1500000≤n→v.size≤1000000000→t.small→t.Good→v.Good→t.depth≤d→Lh n t v=some (FB d t v)
 | 0,d,t,v,h,_,_,_,_,_,_=>by omega
 | n+1,0,t,v,_,_,_,_,_,_,hd=>by have:=t.depth_eq;omega
 | n+1,d+1,t,v,h1,h2,h3,ht,gt,gv,hd=>by
  obtain ⟨E,H,J⟩:=Uy (OZ gt)
  obtain ⟨_,F⟩:=KY (GR gv)
  have K:=t.lens
  have D:=ht.1
  have G:=IM v
  have z:=(t.ok_eq.1 ht.2.2).1
  rw [Lh,VZ,FB]
  by_cases hk:v.kind=t.kind
  rotate_left
  ·rw [Af hk,Ah (fun q=>hk q.symm)];rfl
  rw [Ag hk,Ai (show ¬ (t.kind≠v.kind) from fun q=>q hk.symm)]
  simp only [Bool.not_true,Bool.false_eq_true,if_false]
  have i:t.kind≠3→v.scale=t.scale:=fun q=>by rw [Ty.scale0 H q,Vl.scale0 F (by rw [hk];exact q)]
  rcases Gs E with tk | tk | tk | tk | tk | tk | tk | tk | tk | tk
  ·simp [tk,D2,Ua]
  ·have q:=i (by omega);simp [tk,D2,q]
  ·simp [tk,D2,Bool.and_comm]
  ·have s:=Tn n t.words v.text (by omega) (by omega)
   have m:(t.words.any fun x=>Eb v.text x)=t.words.any fun x=>Eb x v.text:=by congr 1;funext x;exact Zep _ _
   rw [Af (show ¬ t.kind=2 by omega),Af (show ¬ t.kind=6 by omega),Af (show ¬ t.kind=7 by omega),Af (show ¬ t.kind=3 by omega)]
   simp only [Bool.false_eq_true,if_false]
   rw [D2,Ai (by decide),Ag tk,Ah rfl,Ai (show ¬ (t.kind=2∨t.kind=6∨t.kind=7) by omega),Ai (show ¬ t.kind=3 by omega),Ah tk]
   by_cases z:0<t.words.length
   ·rw [Ah (Ag (by omega)),s,m,Af (show ¬ (t.words.length:Int)=0 by omega)]
    simp
   ·rw [Ai (by rw [decide_eq_true_eq];omega),Ag (show (t.words.length:Int)=0 by omega)]
    have k:t.words=[]:=List.length_eq_zero_iff.1 (by omega)
    rw [k]
    rfl
  ·simp [tk,D2,RS]
  ·have q:=i (by omega);simp [tk,D2,q]
  ·have q:=i (by omega);simp [tk,D2,q]
  ·obtain ⟨e,r⟩:=gt.own.elem tk
   have f:e∈t.elem:=by rw [r];simp
   have o:B1 t.elem 0=some e:=by rw [r];rfl
   have s:=Zx n v.list (fun x=>MI (Lh n) x t) (fun x => !FB d e x) (fun x j=>by
    have a:=t.elem_size _ f
    have b:=v.list_size x j
    have c:=Ty.depth_elem f
    rw [MI,o,Ae,V1 n d e x (by omega) (by omega) (by omega) (Ty.small_elem ht f) (Ea gt f) (E4 gv (by rw [Bn,Ah (.inl (by omega))];exact j)) (by omega)];rfl) (by omega) (by omega)
   have m:(v.list.all fun x=>t.elem.all fun e=>FB d e x)=v.list.all fun x=>FB d e x:=by
    congr 1;funext x;rw [r];simp
   rw [m]
   simp only [tk,D2]
   simp only [show decide ((8:Int)=2)=false from rfl,show decide ((8:Int)=6)=false from rfl,show decide ((8:Int)=7)=false from rfl,show decide ((8:Int)=3)=false from rfl,show decide ((8:Int)=4)=false from rfl,show decide ((8:Int)=5)=false from rfl,decide_true,Bool.false_eq_true,if_false,if_true]
   rw [s]
   unfold RS
   cases hr:decide (t.min≤(v.list.length:Int))&&decide ((v.list.length:Int)≤t.max) with
   | false=>simp
   | true =>
    simp only [if_true,Ae,Bool.and_true]
    rw [List.not_any_eq_all_not]
    simp
  ·have w:=Za5 (Lh n) d n t v (by omega) (by omega) h3 ht tk (by omega) (fun p g q u=>by
     have a:=t.field_size p g
     have b:=v.field_size q u
     have c:=Ty.depth_field g
     exact V1 n d _ _ (by omega) (by omega) (by omega) (Ty.small_field ht g) (A9 gt g) (E4 gv (by rw [Bn,Aa,Ab];exact List.mem_map_of_mem u)) (by omega)) v.fields.length n 0 (by omega) (by omega)
   rw [List.drop_zero] at w
   have l:JC (Lh n) n t v n 0=_:=w
   simp only [tk,D2]
   simp only [show decide ((9:Int)=2)=false from rfl,show decide ((9:Int)=6)=false from rfl,show decide ((9:Int)=7)=false from rfl,show decide ((9:Int)=3)=false from rfl,show decide ((9:Int)=4)=false from rfl,show decide ((9:Int)=5)=false from rfl,show decide ((9:Int)=8)=false from rfl,show decide ((9:Int)=10)=false from rfl,decide_true,Bool.false_eq_true,if_false,if_true]
   exact l
  ·have y:v.kind=10:=by omega
   obtain ⟨x,j⟩:=UV gv y
   have e:D2 (Lh n) n t v false=some (match A7 t v.text with
    | some p=>v.list.all fun x=>FB d p.2.2.2.1 x
    | none=>false):=by
    simp only [D2,tk,SE n t _ (show t.size+1450000≤n by omega) ht (.inr tk),Ae]
    simp only [show decide ((10:Int)=4)=false from rfl,show decide ((10:Int)=5)=false from rfl,show decide ((10:Int)=8)=false from rfl,decide_true,Bool.false_eq_true,if_false,if_true]
    cases c:A7 t v.text with
    | none=>rfl
    | some p =>
     have g:=(BC c).1
     have a:=t.field_size _ g
     have b:=v.list_size x (by rw [j];simp)
     have c:=Ty.depth_field g
     have C:=V1 n d p.2.2.2.1 x (by omega) (by omega) (by omega) (Ty.small_field ht g) (A9 gt g) (E4 gv (by rw [Bn,Ah (.inr y),j];simp)) (by omega)
     rw [j,Ah (by rfl),show B1 [x] 0=some x from rfl,Ae]
     simp [C]
   simp only [tk]
   exact e
theorem Zaj (n:Nat) (t:Ty) (v:Vl) (h1:t.size+1500000≤n) (h2:v.size+1500000≤n) (h3:v.size<1048576) (ht:t.small) (hv:v.ok) (gt:t.Good):JG n t v=some (decide (OR v=0)&&FB 12 t v):=by
 rw [JG,Zi n v (by omega) h3 hv,Ae]
 by_cases h:OR v=0
 ·rw [Ag h,Ah rfl,V1 n 12 t v h1 h2 (by omega) ht gt (Gg h) ht.2.1];rfl
 ·rw [Af h,Ai (by decide)];rfl
def Zds (P:Prop) (left:Int) (o:Option (Int × Int)):Prop:=∃ e l,o=some (e,l)∧(e=0→0≤l∧l≤left∧P)
theorem ZdG (r:Ty→Int→Int→Option (Int × Int)) (n D:Nat) (t:Ty) (lv:Int) (hlv:0≤lv∧lv≤9) (hn:t.size+2600000≤n) (ht:t.small) (hk:t.kind=9∨t.kind=10) (hg:∀ x∈t.fields,Us t.kind x)
  (hr:∀ p∈t.fields,∀ left,0≤left→left≤4096→Zds (p.2.2.2.1.Fine D) left (r p.2.2.2.1 (lv+1) left)):∀ (k m i:Nat) (left:Int),i+k=t.fields.length→k<m→0≤left→left≤4096 →
  Zds (∀ p∈t.fields.drop i,p.2.2.2.1.Fine D∧∀ v∈p.2.2.2.2,OR v=0∧FB 12 p.2.2.2.1 v=true) left (BP r n t lv (t.fields.map fun p=>p.2.2.2.1) m i left)
 | k,0,i,_,_,h,_,_=>absurd h (Nat.not_lt_zero _)
 | 0,m+1,i,left,hi,_,h1,h2=>by
  rw [BP,AC,Af (show ¬ i<(t.fields.map fun p=>p.2.2.2.1).length by rw [List.length_map];omega)]
  refine ⟨0,left,rfl,fun _=>⟨h1,Int.le_refl _,?_⟩⟩
  rw [List.drop_eq_nil_of_le (by omega)];simp
 | k+1,m+1,i,left,hi,hm,h1,h2=>by
  have d:i<t.fields.length:=by omega
  have c:=List.getElem_mem d
  have u:=ht.1
  have U:=t.lens
  have f:i<(t.fields.map fun p=>p.2.2.2.1).length:=by rw [List.length_map];exact d
  rw [BP,AC,Ag f]
  simp only [if_true,AM f,AM d,Ae,List.getElem_map]
  rw [Ah (by unfold BM;omega)]
  obtain ⟨e,l,K,z⟩:=hr _ c left h1 h2
  rw [K,Ae]
  by_cases h0:e=0
  rotate_left
  ·rw [Af h0]
   exact ⟨e,l,rfl,fun q=>absurd q h0⟩
  obtain ⟨J,V,o⟩:=z h0
  rw [Ag h0]
  simp only [Bool.not_true,Bool.false_eq_true,if_false]
  rw [Ah (AK (by omega))]
  obtain ⟨H,C,q1,q3⟩:=ZdG r n D t lv hlv hn ht hk hg hr k m (i+1) l (by omega) (by omega) J (by omega)
  have fin:(∀ v∈t.fields[i].2.2.2.2,OR v=0∧FB 12 t.fields[i].2.2.2.1 v=true)→Zds (∀ p∈t.fields.drop i,p.2.2.2.1.Fine D∧∀ v∈p.2.2.2.2,OR v=0∧FB 12 p.2.2.2.1 v=true) left (BP r n t lv (t.fields.map fun p=>p.2.2.2.1) m ((i:Int)+1) l):=fun hd=>by
   refine ⟨H,C,q1,fun q=>?_⟩
   obtain ⟨s,O,E⟩:=q3 q
   refine ⟨s,by omega,fun x hx=>?_⟩
   rw [List.drop_eq_getElem_cons d] at hx
   rcases List.mem_cons.1 hx with rfl | hx
   ·exact ⟨o,hd⟩
   ·exact E x hx
  obtain ⟨g1,g2,g3,g4⟩:=hg _ c
  by_cases n3:t.fields[i].2.2.1=3
  ·have G:t.kind=9:=by
    rcases hk with hk | hk
    ·exact hk
    ·have:=g2 hk;omega
   obtain ⟨v,hv⟩:=List.length_eq_one_iff.1 (g3 n3)
   have j:B1 t.fields[i].2.2.2.2 0=some v:=by rw [hv];rfl
   obtain ⟨_,N,Z,y⟩:=(t.ok_eq.1 ht.2.2).2.2.2 _ c
   obtain ⟨Y,Q,F⟩:=y v (by rw [hv];simp)
   have a:=t.field_size _ c
   have g:=Zaj n t.fields[i].2.2.2.1 v (by omega) (by omega) (by omega) (Ty.small_field ht c) F o.good
   rw [Ag G,Ag n3]
   simp only [if_true,j,Ae,g]
   cases b:decide (OR v=0)&&FB 12 t.fields[i].2.2.2.1 v with
   | false=>exact ⟨18,l,rfl,fun q=>absurd q (by decide)⟩
   | true =>
    rw [Bool.and_eq_true,decide_eq_true_eq] at b
    exact fin fun w hw=>by rw [hv,List.mem_singleton] at hw;subst hw;exact b
  ·have hd:t.fields[i].2.2.2.2=[]:=List.length_eq_zero_iff.1 (g4 n3)
   rw [Af n3]
   simp only [Bool.false_eq_true,if_false,ite_self]
   exact fin fun w hw=>by rw [hd] at hw;simp at hw
theorem Pe:∀ (n D:Nat) (t:Ty) (lv left:Int),t.size+2600001≤n→t.small→lv=9-(D:Int)→0≤lv→0≤left→left≤4096→Zds (t.Fine D) left (HN n t lv left)
 | 0,D,t,_,_,h,_,_,_,_,_=>by omega
 | n+1,D,t,lv,left,h,ht,hD,l1,h1,h2=>by
  have H:=t.lens
  have u:=ht.1
  have f:=Ty.fit_of ht (show t.size+2600000≤n by omega)
  rw [HN,OL]
  by_cases c1:left=0
  ·rw [Ag c1]
   exact ⟨9,left,rfl,fun q=>absurd q (by decide)⟩
  rw [Af c1]
  simp only [Bool.false_eq_true,if_false]
  have z:BM (left-1):=by unfold BM;omega
  by_cases c2:8<lv
  ·rw [Ag c2]
   exact ⟨23,left,rfl,fun q=>absurd q (by decide)⟩
  obtain ⟨d,rfl⟩:∃ d,D=d+1:=⟨D-1,by omega⟩
  rw [Af c2]
  simp only [Bool.false_eq_true,if_false,Ah z]
  rw [ZdB n t f,Ae]
  by_cases c3:Tm t=0
  rotate_left
  ·rw [Af c3]
   exact ⟨Tm t,left-1,rfl,fun q=>absurd q c3⟩
  obtain ⟨G,s,x,o,F,v⟩:=KV c3
  rw [Ag c3]
  simp only [Bool.not_true,Bool.false_eq_true,if_false]
  rw [Zf n t (by omega) (by omega),Ae]
  by_cases k8:t.kind=8
  ·obtain ⟨w,_,_⟩:=x k8
   obtain ⟨e,he⟩:∃ e,t.elem=[e]:=List.length_eq_one_iff.1 w
   have l:e∈t.elem:=by rw [he];simp
   have C:=t.elem_size e l
   obtain ⟨n',rfl⟩:∃ k,n=k+2:=⟨n-2,by omega⟩
   obtain ⟨i,g,q1,q3⟩:=Pe (n'+2) d e (lv+1) (left-1) (by omega) (Ty.small_elem ht l) (by omega) (by omega) (by omega) (by omega)
   have hf0:t.fields=[]:=List.length_eq_zero_iff.1 (o (by omega) (by omega))
   have j:BM (lv+1):=by unfold BM;omega
   rw [U7,Ah k8,he,BP,Ah (by simp),show B1 [e] 0=some e from rfl,Ae,Ah j,q1,Ae]
   by_cases c4:i=0
   ·obtain ⟨c,r,w4⟩:=q3 c4
    subst c4
    rw [Af (show ¬ t.kind=9 by omega)]
    simp only [decide_true,Bool.not_true,Bool.false_eq_true,if_false]
    rw [Ah (by decide),BP,Ai (by simp)]
    refine ⟨0,g,rfl,fun _=>⟨c,by omega,?_⟩⟩
    exact .mk d t c3 (fun y hy=>by rw [he,List.mem_singleton] at hy;subst hy;exact w4) (fun y hy=>by rw [hf0] at hy;simp at hy) (fun y hy=>by rw [hf0] at hy;simp at hy)
   ·rw [Af c4]
    exact ⟨i,g,rfl,fun q=>absurd q c4⟩
  ·rw [U7,Ai k8]
   have b:t.elem=[]:=List.length_eq_zero_iff.1 (s k8)
   by_cases k9:t.kind=9∨t.kind=10
   ·rw [Ah k9]
    obtain ⟨i,g,q1,q3⟩:=ZdG (HN n) n d t lv ⟨l1,by omega⟩ (by omega) ht k9 v (fun p m a E c=>by
     have:=t.field_size p m
     exact Pe n d p.2.2.2.1 (lv+1) a (by omega) (Ty.small_field ht m) (by omega) (by omega) E c) t.fields.length n 0 (left-1) (by omega) (by omega) (by omega) (by omega)
    refine ⟨i,g,q1,fun q=>?_⟩
    obtain ⟨c,r,w4⟩:=q3 q
    rw [List.drop_zero] at w4
    exact ⟨c,by omega,.mk d t c3 (fun y hy=>by rw [b] at hy;simp at hy) (fun y hy=>(w4 y hy).1) (fun y hy=>(w4 y hy).2)⟩
   ·rw [Ai k9]
    have hf0:t.fields=[]:=List.length_eq_zero_iff.1 (o (by omega) (by omega))
    obtain ⟨n',rfl⟩:∃ k,n=k+1:=⟨n-1,by omega⟩
    rw [BP,Ai (by simp)]
    exact ⟨0,left-1,rfl,fun _=>⟨by omega,by omega,.mk d t c3 (fun y hy=>by rw [b] at hy;simp at hy) (fun y hy=>by rw [hf0] at hy;simp at hy) (fun y hy=>by rw [hf0] at hy;simp at hy)⟩⟩
theorem ZfC {c:Int} (h:1≤c):1≤(if 4097<c then 4097 else c)∧(if 4097<c then 4097 else c)≤4097:=by split<;>omega
theorem Ph:∀ (n:Nat) (t:Ty),t.size+10≤n→t.small→t.Good→∃ a,AP n t=some a∧1≤a∧a≤4097
 | 0,t,h,_,_=>by omega
 | n+1,t,h,ht,gt=>by
  have O:=t.lens
  have x:=ht.1
  obtain ⟨F,H,C,U,w,z⟩:=KV (OZ gt)
  rw [AP,EJ]
  by_cases k8:t.kind=8
  ·obtain ⟨Z,J,G⟩:=C k8
   have p:B1 t.elem 0=some t.elem[0]:=AM (k:=0) (by omega)
   rw [Ag k8,Ah rfl]
   by_cases l:0<t.min
   ·have d:=List.getElem_mem (show 0<t.elem.length by omega)
    have:=t.elem_size _ d
    obtain ⟨a,j,s,u⟩:=Ph n t.elem[0] (by omega) (Ty.small_elem ht d) (Ea gt d)
    have q1:0≤t.min*a:=Int.mul_nonneg (by omega) (by omega)
    have q2:0≤(256-t.min)*a:=Int.mul_nonneg (by omega) (by omega)
    rw [Int.sub_mul] at q2
    rw [Ag l,Ah rfl,p,Ae,j,Ae,Ah (by unfold BM;omega),Ah (by unfold BM;omega)]
    exact ⟨_,rfl,ZfC (by omega)⟩
   ·rw [Af l,Ai (by decide)]
    exact ⟨_,rfl,ZfC (by omega)⟩
  rw [Af k8,Ai (by decide)]
  by_cases k10:t.kind=10
  ·have v:=w k10
   have e:=List.getElem_mem v
   have:=t.field_size _ e
   obtain ⟨a,j,s,u⟩:=Ph n t.fields[0].2.2.2.1 (by omega) (Ty.small_field ht e) (A9 gt e)
   rw [Ag k10,Ah rfl,show B1 t.fields 0=some t.fields[0] from AM (k:=0) v,Ae,j,Ae,Ah (by unfold BM;omega)]
   exact ⟨_,rfl,ZfC (by omega)⟩
  rw [Af k10,Ai (by decide)]
  by_cases k9:t.kind=9
  ·rw [Ag k9,Ah rfl]
   have g:∀ (k m i:Nat) (a:Int),i+k=t.fields.length→k<m→1≤a→a≤2000000*(i+1)→∃ a',Be (AP n) n t m a i=some a'∧1≤a'∧a'≤4097:=by
    intro k
    induction k with
    | zero =>
     intro m i a D l o _
     obtain ⟨m,rfl⟩:∃ q,m=q+1:=⟨m-1,by omega⟩
     rw [Be,AC,Af (show ¬ i<t.fields.length by omega)]
     exact ⟨_,rfl,ZfC o⟩
    | succ k ih =>
     intro m i a D l o N
     obtain ⟨m,rfl⟩:∃ q,m=q+1:=⟨m-1,by omega⟩
     have f:i<t.fields.length:=by omega
     have b:=List.getElem_mem f
     have a1:=t.field_size _ b
     have go:∀ c:Int,1≤c→c≤2000000*((i:Int)+1+1)→∃ a',Cf (AP n) n (Be (AP n) n t m) i c=some a'∧1≤a'∧a'≤4097:=fun c q1 q2=>by
      rw [Cf,Ah (AK (by omega))]
      exact ih m (i+1) c (by omega) (by omega) q1 (by push_cast;exact q2)
     rw [Be,AC,Ag f,Ah rfl,AM f,Ae]
     by_cases n1:t.fields[i].2.2.1=1
     ·obtain ⟨c,j,s,u⟩:=Ph n t.fields[i].2.2.2.1 (by omega) (Ty.small_field ht b) (A9 gt b)
      rw [Ag n1,Ah rfl,j,Ae,Ah (by unfold BM;omega)]
      exact go _ (by omega) (by omega)
     rw [Af n1,Ai (by decide)]
     by_cases n3:t.fields[i].2.2.1=3
     ·have hd:=(z _ b).2.2.1 n3
      have r:B1 t.fields[i].2.2.2.2 0=some t.fields[i].2.2.2.2[0]:=AM (k:=0) (by omega)
      obtain ⟨_,E,Y,y⟩:=(t.ok_eq.1 ht.2.2).2.2.2 _ b
      obtain ⟨V,K,v3⟩:=y _ (List.getElem_mem (show 0<t.fields[i].2.2.2.2.length by omega))
      have Q:=Nh _ t.fields[i].2.2.2.2[0] 1 (Nat.le_refl _)
      rw [Ag n3,Ah rfl,r,Ae,S4 _ (by omega),Ae,Ah (by unfold BM;omega)]
      exact go _ (by omega) (by omega)
     ·rw [Af n3,Ai (by decide)]
      exact go a o (by omega)
   exact g t.fields.length n 0 1 (by omega) (by omega) (by decide) (by decide)
  ·rw [Af k9,Ai (by decide)]
   exact ⟨_,rfl,ZfC (by omega)⟩
theorem ZF:∀ (n:Nat) (t:Ty),t.size+11≤n→t.small→t.Good→∃ a,BJ n t=some a
 | 0,t,h,_,_=>by omega
 | n+1,t,h,ht,gt=>by
  have r:=t.lens
  have l:=ht.1
  obtain ⟨a,p,_,_⟩:=Ph n t (by omega) ht gt
  have e:∀ (k m i:Nat) (a:Int),i+k=t.fields.length→k<m→∃ a',BA (BJ n) n t m a i=some a':=by
   intro k
   induction k with
   | zero =>
    intro m i a j g
    obtain ⟨m,rfl⟩:∃ q,m=q+1:=⟨m-1,by omega⟩
    rw [BA,AC,Af (show ¬ i<t.fields.length by omega)]
    exact ⟨_,rfl⟩
   | succ k ih =>
    intro m i a j g
    obtain ⟨m,rfl⟩:∃ q,m=q+1:=⟨m-1,by omega⟩
    have d:i<t.fields.length:=by omega
    have b:=List.getElem_mem d
    have a1:=t.field_size _ b
    obtain ⟨c,f⟩:=ZF n t.fields[i].2.2.2.1 (by omega) (Ty.small_field ht b) (A9 gt b)
    rw [BA,AC,Ag d,Ah rfl,AM d,Ae,f,Ae,Ah (AK (by omega))]
    exact ih m (i+1) _ (by omega) (by omega)
  have o:∀ (k m i:Nat) (a:Int),i+k=t.elem.length→k<m→∃ a',BL (BJ n) n t m a i=some a':=by
   intro k
   induction k with
   | zero =>
    intro m i a j g
    obtain ⟨m,rfl⟩:∃ q,m=q+1:=⟨m-1,by omega⟩
    rw [BL,AC,Af (show ¬ i<t.elem.length by omega)]
    exact e t.fields.length n 0 a (by omega) (by omega)
   | succ k ih =>
    intro m i a j g
    obtain ⟨m,rfl⟩:∃ q,m=q+1:=⟨m-1,by omega⟩
    have d:i<t.elem.length:=by omega
    have b:=List.getElem_mem d
    have a1:=t.elem_size _ b
    obtain ⟨c,f⟩:=ZF n t.elem[i] (by omega) (Ty.small_elem ht b) (Ea gt b)
    rw [BL,AC,Ag d,Ah rfl,AM d,Ae,f,Ae,Ah (AK (by omega))]
    exact ih m (i+1) _ (by omega) (by omega)
  rw [BJ,FA,p,Ae]
  exact o t.elem.length n 0 a (by omega) (by omega)
theorem Vg (n:Nat) (t:Ty) (hn:3000000≤n) (ht:t.small):∃ c,Bz n t=some c∧(c=0→t.Fine 8):=by
 have b:=ht.1
 obtain ⟨e,l,d,f⟩:=Pe n 8 t 1 4096 (by omega) ht (by decide) (by decide) (by decide) (by decide)
 rw [Bz,d,Ae]
 by_cases h:e=0
 ·obtain ⟨_,_,g⟩:=f h
  obtain ⟨a,q1⟩:=ZF n t (by omega) ht g.good
  rw [Ag h,Ai (by decide),q1,Ae]
  by_cases c:4096<a
  ·rw [Ag c]
   exact ⟨9,rfl,fun q=>absurd q (by decide)⟩
  ·rw [Af c]
   exact ⟨0,rfl,fun _=>g⟩
 ·rw [Af h]
  exact ⟨e,rfl,fun q=>absurd q h⟩
theorem Zfn:∀ (d:Nat) (a b:Ty) (v y:Vl),1≤b.kind→v.kind≠0→LN d a b v=some y→y.kind≠0
 | 0,a,b,v,y,_,_,h=>by simp [LN] at h
 | d+1,a,b,v,y,hb,hv,h=>by
  rw [LN] at h
  split at h
  ·obtain ⟨m,_,h⟩:=Option.bind_eq_some_iff.1 h
   split at h
   ·cases h;show b.kind≠0;omega
   ·cases h
  split at h
  ·cases h
  split at h
  ·split at h
   ·cases h;exact hv
   ·cases h
  split at h
  ·split at h
   ·cases h;exact hv
   ·cases h
  split at h
  ·split at h
   ·cases h;exact hv
   ·cases h
  split at h
  ·split at h
   ·obtain ⟨m,_,h⟩:=Option.bind_eq_some_iff.1 h
    split at h
    ·cases h;simp [Vl.kind]
    ·cases h
   ·cases h
  split at h
  ·obtain ⟨m,_,h⟩:=Option.map_eq_some_iff.1 h
   cases h;simp [Vl.kind]
  split at h
  ·split at h
   ·split at h
    ·obtain ⟨m,_,h⟩:=Option.map_eq_some_iff.1 h
     cases h;simp [Vl.kind]
    ·cases h
   ·cases h
  ·cases h;exact hv
theorem Lq:∀ {d:Nat} {t:Ty} {v:Vl},Du d t v=true→v.kind=t.kind∧1≤t.kind∧t.kind≤10∧AW v=true
 | 0,t,v,h=>by simp [Du] at h
 | d+1,t,v,h=>by
  rw [Du] at h
  by_cases c:(t.kind<1∨10<t.kind)∨v.kind≠t.kind∨AW v=false
  ·rw [Ah c] at h;cases h
  ·have q:v.kind=t.kind:=by
    by_cases q:v.kind=t.kind
    ·exact q
    ·exact absurd (.inr (.inl q)) c
   have w:AW v=true:=by
    cases w:AW v with
    | true=>rfl
    | false=>exact absurd (.inr (.inr w)) c
   have z:¬ (t.kind<1∨10<t.kind):=fun z=>c (.inl z)
   exact ⟨q,by omega,by omega,w⟩
theorem Q2 {t:Ty} (h:0≤A1 t):t.kind=2∨t.kind=3:=by
 rw [A1] at h
 by_cases a:t.kind=2
 ·exact .inl a
 rw [Af a,Ai (by decide)] at h
 by_cases b:t.kind=3
 ·exact .inr b
 rw [Af b,Ai (by decide)] at h
 omega
theorem Uh {t:Ty} (o:t.Own) (h:t.kind=2∨t.kind=3):A1 t=t.scale:=by
 rw [A1]
 by_cases a:t.kind=2
 ·rw [Ag a,Ah rfl,o.noscale (by omega)]
 ·rw [Af a,Ai (by decide),Ag (by omega),Ah rfl]
theorem V9 {t:Ty} (o:t.Own) (h:t.kind=2∨t.kind=3) : -999999999999999≤t.min∧t.max≤999999999999999:=by
 obtain ⟨a,b,_⟩:=o.bounds (by omega) (by omega)
 have e:AH t.kind=(-999999999999999,999999999999999):=by rcases h with h | h<;>rw [h]<;>decide
 rw [e] at a b
 exact ⟨a,b⟩
theorem H3 {n:Int} {t:Ty}:On n t=true↔t.min≤n∧n≤t.max:=by rw [On,Bool.and_eq_true,decide_eq_true_eq,decide_eq_true_eq]
theorem Zj0 (n D:Nat) (a b:Ty) (x:Int) (oa:a.Own) (ob:b.Own) (hD:1≤D) (hn:200<n) (ha:a.kind=2∨a.kind=3) (hb:b.kind=2∨b.kind=3) (hx:On x a=true) :
  ∃ r1 r2,((D5 n x a.scale b.scale).bind fun y17=>some (Vl.mk b.kind y17.1 b.scale ⟨#[]⟩ [] [],y17.2&&BH y17.1 b))=some r1∧((Gu n x (b.scale-a.scale)).bind fun y7=>some (Vl.mk b.kind y7.1 b.scale ⟨#[]⟩ [] [],y7.2&&Bo y7.1 b))=some r2 ∧
   LA D ((Nz x a.scale b.scale).bind fun m=>if On m b=true then some (Vl.mk b.kind m b.scale ⟨#[]⟩ [] []) else none) r1∧LA D ((Nz x a.scale b.scale).bind fun m=>if On m b=true then some (Vl.mk b.kind m b.scale ⟨#[]⟩ [] []) else none) r2:=by
 have i:=V9 oa ha
 have g:=V9 ob hb
 have d:=oa.scale
 have f:=ob.scale
 have hx:=H3.1 hx
 have z:(⟨#[]⟩:ByteArray).size≤1048576:=by decide
 obtain ⟨y,c,hsh⟩:=WN n x a.scale b.scale (by omega) (by omega) (by omega) hn
 rw [SO n x a.scale b.scale (by omega) (by omega) (by omega) hn,Ae,c,Ae]
 refine ⟨_,_,rfl,rfl,?_⟩
 cases q:Nz x a.scale b.scale with
 | none =>
  rw [q] at hsh
  have e:(y.2&&Bo y.1 b)=false:=by
   rcases hsh with h | ⟨h,h2⟩
   ·rw [h];rfl
   ·rw [h,Bool.true_and,Bool.eq_false_iff]
    intro w
    have:On y.1 b=true:=w
    rw [H3] at this
    omega
  exact ⟨⟨rfl,OO _ _ _ _ z,by rw [KP];exact hD⟩,⟨e,OO _ _ _ _ z,by rw [KP];exact hD⟩⟩
 | some m =>
  rw [q] at hsh
  have hsh:y=(m,true):=hsh
  subst hsh
  refine ⟨?_,?_⟩
  ·exact RL (OO _ _ _ _ z) (by rw [KP];exact hD)
  ·exact RL (OO _ _ _ _ z) (by rw [KP];exact hD)
theorem Vq (q:TF→Bool) (w:ByteArray):∀ l:List TF,(l.map fun p=>p.2.1).Nodup→l.find? (fun p=>Eb p.2.1 w&&q p)=match l.find? (fun p=>Eb p.2.1 w) with | none=>none | some p=>if q p=true then some p else none
 | [],_=>rfl
 | p::r,h=>by
  rw [List.map_cons,List.nodup_cons] at h
  rw [List.find?_cons,List.find?_cons]
  cases c:Eb p.2.1 w with
  | false=>rw [Bool.false_and];exact Vq q w r h.2
  | true =>
   rw [Bool.true_and]
   cases z:q p with
   | true=>simp [z]
   | false =>
    simp only [z,Bool.false_eq_true,if_false]
    rw [List.find?_eq_none]
    intro x b a
    rw [Bool.and_eq_true,Db] at a
    exact h.1 (List.mem_map.2 ⟨x,b,by rw [a.1,(Db _ _).1 c]⟩)
theorem Zd3 (rec:Ty→Ty→Vl→Option (Vl × Bool)) (n:Nat) (a b:Ty) (v:Vl) (ha:a.fields.length≤1000000000) (hb:b.fields.length≤1000000000) (hn:b.fields.length<n):∀ (k m i:Nat),i+k=a.fields.length→k<m →
  KF rec n a b v m i=match (a.fields.drop i).find? (fun p=>Eb p.2.1 v.text&&(Gx b.fields p.1).isSome) with
   | none=>some (nilV,false)
   | some p=>(B1 v.list 0).bind fun x=>(rec p.2.2.2.1 ((Gx b.fields p.1).getD Po).2.2.2.1 x).bind fun y=>some (Vl.mk 10 0 0 ((Gx b.fields p.1).getD Po).2.1 [y.1] [],y.2)
 | k,0,i,_,h=>absurd h (Nat.not_lt_zero _)
 | 0,m+1,i,hi,_=>by
  rw [KF,AC,Ac,Ai (by decide),List.drop_eq_nil_of_le (by omega)];rfl
 | k+1,m+1,i,hi,hm=>by
  have d:i<a.fields.length:=by omega
  rw [KF,AC,Ag d,Ah rfl,AM d,Ae,NE n b _ hb hn,Ae,List.drop_eq_getElem_cons d,List.find?_cons]
  cases c:Eb a.fields[i].2.1 v.text&&(Gx b.fields a.fields[i].1).isSome with
  | true =>
   rw [Ai (by rw [←Bool.not_and,c];decide)]
  | false =>
   rw [Ah (by rw [←Bool.not_and,c];rfl),Ah (AK (by omega))]
   exact Zd3 rec n a b v ha hb hn k m (i+1) (by omega) (by omega)
theorem MM {a b:Int} (h:a=b∨((a=2∨a=3)∧(b=2∨b=3))):DC a b=true:=by
 simp only [DC,EG,Bool.or_eq_true,Bool.and_eq_true,decide_eq_true_eq]
 exact h
theorem Sl {a b:Int} (h:¬ a=b) (h2:¬ ((a=2∨a=3)∧(b=2∨b=3))):DC a b=false:=by
 rw [Bool.eq_false_iff]
 intro q
 simp only [DC,EG,Bool.or_eq_true,Bool.and_eq_true,decide_eq_true_eq] at q
 exact q.elim h h2
theorem MG {D:Nat} {o:Option Vl} {A B:Option (Vl × Bool)} {r1 r2:Vl × Bool} (h1:A=some r1) (h2:B=some r2) (h3:LA D o r1) (h4:LA D o r2):∃ r1 r2,A=some r1∧B=some r2∧LA D o r1∧LA D o r2:=⟨r1,r2,h1,h2,h3,h4⟩
theorem Zb:∀ (d n K e:Nat) (a b:Ty) (v:Vl),a.small→b.small→a.Good→b.Fine e→v.Nar→v.depth≤K→Du d a v=true→K+3100000000+d<n →
  ∃ r1 r2,AU n a b v=some r1∧IR n a b v=some r2∧LA (K+1048576) (LN d a b v) r1∧LA (K+1048576) (LN d a b v) r2
 | 0,n,K,e,a,b,v,_,_,_,_,_,_,h,_=>by simp [Du] at h
 | d+1,0,K,e,a,b,v,_,_,_,_,_,_,_,h=>absurd h (by omega)
 | d+1,n+1,K,0,a,b,v,_,_,_,h,_,_,_,_=>by cases h
 | d+1,n+1,0,e+1,a,b,v,_,_,_,_,_,h,_,_=>by have:=v.depth_eq;omega
 | d+1,n+1,K+1,e+1,a,b,v,sa,sb,ga,fb,hv,hvd,i,hn=>by
  have Z:=ga.own
  have D:=fb.good.own
  have la:=a.lens
  have lb:=b.lens
  have aj:=sa.1
  have ak:=sb.1
  obtain ⟨v1,v2,v3,v4,v5⟩:=hv.inv
  obtain ⟨hk,_,_,ag⟩:=Lq i
  have c0:¬ ((a.kind<1∨10<a.kind)∨v.kind≠a.kind∨AW v=false):=by
   rintro (q | q | q)
   ·omega
   ·exact q hk
   ·rw [ag] at q;cases q
  rw [Du,Ai c0] at i
  rw [AU,GT,IR,VY,LN]
  by_cases num:(a.kind=2∨a.kind=3)∧(b.kind=2∨b.kind=3)
  ·have f:On v.int a=true:=by
    rcases num.1 with q | q
    ·rwa [Ah (.inl q)] at i
    ·rw [Aa,Ah q,Bool.and_eq_true] at i
     exact i.2
   have J:(if decide (b.kind=2)=true then B7 (AU n) n a b v true else B7 (AU n) n a b v (decide (b.kind=3)))=B7 (AU n) n a b v true:=by
    rcases num.2 with q | q
    ·rw [Ag q,Ah rfl]
    ·rw [Ag q];exact ite_self _
   have s1:=Z.scale
   have s2:=D.scale
   rw [Ah num,MM (.inr num),Ai (by decide),J,B7,Ah rfl,Uh Z num.1,Uh D num.2,Ag s1.1,Ag s2.1,Ah (by rfl),Ah (by unfold BM;omega)]
   exact Zj0 n _ a b v.int Z D (by omega) (by omega) num.1 num.2 f
  have ai:(decide (0≤A1 a)&&decide (0≤A1 b))=false:=by
   rw [Bool.eq_false_iff]
   intro q
   rw [Bool.and_eq_true,decide_eq_true_eq,decide_eq_true_eq] at q
   exact num ⟨Q2 q.1,Q2 q.2⟩
  rw [Ai num,ai,Ai (show ¬ (false=true) by decide)]
  by_cases ne:a.kind=b.kind
  rotate_left
  ·rw [Ah ne,Sl ne num,Ah (by rfl),Af ne,Ah (by rfl)]
   exact MG rfl rfl (Lc (by omega) rfl) (Lc (by omega) rfl)
  have ah:¬ b.kind=2:=fun q=>num ⟨by omega,.inl q⟩
  have af:¬ b.kind=3:=fun q=>num ⟨by omega,.inr q⟩
  have t:v.depth≤K+1+1048576:=by omega
  rw [Ai (show ¬ a.kind≠b.kind from fun q=>q ne),MM (.inl ne),Ai (show ¬ ((!true)=true) by decide),Af ah,Ai (show ¬ (false=true) by decide),Af af,B7,Ai (show ¬ (false=true) by decide),Ag ne,Ai (show ¬ ((!true)=true) by decide)]
  by_cases k67:b.kind=6∨b.kind=7
  ·have J:(if decide (b.kind=6)=true then B8 (AU n) n a b v true else B8 (AU n) n a b v (decide (b.kind=7)))=B8 (AU n) n a b v true:=by
    rcases k67 with q | q
    ·rw [Ag q,Ah rfl]
    ·rw [Ag q];exact ite_self _
   have O:(if decide (b.kind=6)=true then GF (IR n) n a b v true else GF (IR n) n a b v (decide (b.kind=7)))=GF (IR n) n a b v true:=by
    rcases k67 with q | q
    ·rw [Ag q,Ah rfl]
    ·rw [Ag q];exact ite_self _
   rw [Ah k67,J,B8,Ah rfl,Ac,Ai (by decide),Ac,Ai (by decide),Ac,Ai (by decide),O,GF,Ah rfl]
   exact MG rfl rfl (RL hv t) (RL hv t)
  have n6:¬ b.kind=6:=fun q=>k67 (.inl q)
  have n7:¬ b.kind=7:=fun q=>k67 (.inr q)
  rw [Ai k67,Af n6,Ai (show ¬ (false=true) by decide),Af n7,B8,Ai (show ¬ (false=true) by decide),Ai (show ¬ (false=true) by decide)]
  by_cases k5:b.kind=5
  ·rw [Ah k5,Ag k5,Ah rfl,Ac,Ai (by decide),Ac,Ai (by decide),Ah rfl]
   exact MG rfl rfl (RL hv t) (RL hv t)
  rw [Ai k5,Af k5,Ai (show ¬ (false=true) by decide),Ai (show ¬ (false=true) by decide)]
  by_cases k4:b.kind=4
  ·have bw:=(b.ok_eq.1 sb.2.2).1
   rw [Ah k4,Ag k4,Ah rfl,Af (show ¬ b.kind=1 by omega),Ai (show ¬ (false=true) by decide),Ah rfl,Zav n v.text b (by omega) (by omega),Ae]
   refine MG (r1:=(v,Es v.text b)) ?_ rfl (RL hv t) (RL hv t)
   rw [Es]
   by_cases q:b.words=[]
   ·rw [Ah q,q,Ai (by decide)];rfl
   ·have q0:0<b.words.length:=List.length_pos_iff.2 q
    rw [Ai q,Ah (by rw [decide_eq_true_eq];omega),Ld n _ b (by omega) (by omega),Ae]
  rw [Ai k4,Af k4,Ai (show ¬ (false=true) by decide),Ai (show ¬ (false=true) by decide)]
  by_cases k8:b.kind=8
  ·obtain ⟨x,f⟩:=Z.elem (by omega)
   obtain ⟨y,N⟩:=D.elem k8
   have j:x∈a.elem:=by rw [f];simp
   have Y:y∈b.elem:=by rw [N];simp
   rw [Aa,Aa,Aa,Aa,Ab,Bool.and_eq_true,List.all_eq_true] at i
   have Q:∀ u∈v.list,Du d x u=true:=fun u s=>by have:=i.2 u s;rw [f] at this;exact this
   have ih:=fun u (s:u∈v.list)=>Zb d n K e x y u (Ty.small_elem sa j) (Ty.small_elem sb Y) (Ea ga j) (fb.elem Y) (v4 u s) (by have:=Vl.depth_list s;omega) (Q u s) (by omega)
   obtain ⟨r1,J,u1⟩:=ZgM (AU n) n (K+1048576) a b x y v (LN d x y) f N (by omega) (by omega) (fun u s=>by obtain ⟨r1,r2,E,w,m,G⟩:=ih u s;exact ⟨r1,E,m⟩) v.list.length n 0 [] (by omega) (by omega) rfl (by simp)
   obtain ⟨r2,O,u2⟩:=Zdi (IR n) n (K+1048576) a b x y v (LN d x y) f N (by omega) (by omega) (fun u s=>by obtain ⟨r1,r2,E,w,m,G⟩:=ih u s;exact ⟨r2,w,G⟩) v.list.length n 0 [] (by omega) (by omega) rfl (by simp)
   rw [Ah k8,Ag k8,Ah rfl,Ac,Ai (by decide),GF,Ai (by decide),Ag k8,Ah rfl,f,N]
   rw [List.drop_zero] at u1 u2
   exact MG J O (by rw [Nat.add_right_comm];exact u1) (by rw [Nat.add_right_comm];exact u2)
  rw [Ai k8,Af k8,Ai (show ¬ (false=true) by decide)]
  by_cases k9:b.kind=9
  ·rw [Aa,Aa,Aa,Aa,Aa,Ab,Bool.and_eq_true,List.all_eq_true] at i
   have fx:∀ p∈a.fields,∀ x,DG v p.2.1=some x→Du d p.2.2.2.1 x=true:=fun p F x f=>by have:=i.1 p F;rw [f] at this;exact this
   have ih:∀ g∈b.fields,∀ p,Gx a.fields g.1=some p→∀ x,DG v p.2.1=some x→(∃ r1 r2,AU n p.2.2.2.1 g.2.2.2.1 x=some r1∧IR n p.2.2.2.1 g.2.2.2.1 x=some r2∧LA (K+1048576) (LN d p.2.2.2.1 g.2.2.2.1 x) r1∧LA (K+1048576) (LN d p.2.2.2.1 g.2.2.2.1 x) r2)∧∀ y,LN d p.2.2.2.1 g.2.2.2.1 x=some y→y.kind≠0:=fun g k p F x f=>by
    have l:p∈a.fields:=List.mem_of_find?_eq_some F
    have aa:=fx p l x f
    obtain ⟨q,V,_,rfl⟩:=IC f
    have fk:=Lq aa
    have gk:=(A9 fb.good k).own.kind
    exact ⟨Zb d n K e _ _ _ (Ty.small_field sa l) (Ty.small_field sb k) (A9 ga l) (fb.field k) (v5 q V).2 (by have:=Vl.depth_fld V;omega) aa (by omega),fun y N=>Zfn d _ _ _ y gk.1 (by omega) N⟩
   have hc:∀ q∈v.fields,Bm n q.2=some q.2:=fun q V=>JP n q.2 (v5 q V).2 (by have:=Vl.depth_fld V;omega)
   have bn:=(b.ok_eq.1 sb.2.2).2.2.2
   have ab:∀ g∈b.fields,g.2.2.1=3→∃ x,g.2.2.2.2=[x]∧x.Nar∧x.depth≤K+1048576∧x.kind≠0:=fun g k m=>by
    obtain ⟨x,f⟩:=List.length_eq_one_iff.1 ((D.each g k).2.2.2.2.1 m)
    have j:x∈g.2.2.2.2:=by rw [f];simp
    obtain ⟨z1,z2,z3⟩:=(bn g k).2.2.2 x j
    have:=Wv (Gg (fb.dfl k x j).1)
    exact ⟨x,f,Pv x.size x (Nat.le_refl _) (by omega) z3,by omega,by omega⟩
   have H1:RecH (AU n) n (K+1048576) a b v (LN d):=⟨by omega,by omega,by omega,by omega,by omega,by omega,hc,fun g k=>(bn g k).1,fun g k p F x f=>by obtain ⟨⟨r1,r2,E,w,m,G⟩,h5⟩:=ih g k p F x f;exact ⟨r1,E,m,h5⟩,ab⟩
   have H2:RecH (IR n) n (K+1048576) a b v (LN d):=⟨by omega,by omega,by omega,by omega,by omega,by omega,hc,fun g k=>(bn g k).1,fun g k p F x f=>by obtain ⟨⟨r1,r2,E,w,m,G⟩,h5⟩:=ih g k p F x f;exact ⟨r2,w,G,h5⟩,ab⟩
   have A0:Acc (K+1048576) b 0 []:=⟨Nat.le_refl _,by simp,by rw [List.map_nil,List.nil_append,List.drop_zero];exact (HM _ _ _ D.apart).1⟩
   obtain ⟨r1,J,u1⟩:=Zjw H1 b.fields.length n 0 [] (by omega) (by omega) A0
   obtain ⟨r2,O,u2⟩:=Zdx H2 b.fields.length n 0 [] (by omega) (by omega) A0
   rw [show BS []=[] from List.length_eq_zero_iff.1 (by rw [Hu];rfl)] at O
   have ae:Ff (AU n) n a b v=some r1:=J
   rw [Ah k9,Ag k9,Ah rfl,ae,Ae,Ac,Ai (by decide),GF,Ai (by decide),Ac,Ai (by decide),Ac,Ai (by decide),Q0]
   rw [List.drop_zero] at u1 u2
   exact MG rfl O (by rw [Nat.add_right_comm];exact u1) (by rw [Nat.add_right_comm];exact u2)
  rw [Ai k9,Af k9,Ai (show ¬ (false=true) by decide)]
  by_cases k10:b.kind=10
  ·rw [Aa,Aa,Aa,Aa,Aa,Aa,Ab] at i
   rw [Ah k10,Ag k10,Ah rfl,Ac,Ai (by decide),GF,Ai (by decide),Af k8,Ai (by decide),Ag k10,Ah rfl,SE n a v.text (by omega) sa (by omega),Ae]
   have C:=Zd3 (IR n) n a b v (by omega) (by omega) (by omega) a.fields.length n 0 (by omega) (by omega)
   rw [List.drop_zero,Vq (fun p=>(Gx b.fields p.1).isSome) v.text a.fields (HM _ _ _ Z.apart).1] at C
   cases c:A7 a v.text with
   | none=>rw [c] at i;simp at i
   | some p =>
    have c':a.fields.find? (fun p=>Eb p.2.1 v.text)=some p:=c
    cases hl:v.list with
    | nil=>rw [c,hl] at i;simp at i
    | cons x xs =>
     rw [c,hl] at i
     have i:Du d p.2.2.2.1 x=true:=i
     have j:x∈v.list:=by rw [hl];simp
     have l:=(BC c).1
     rw [c',hl] at C
     simp only [Option.getD_some]
     rw [NS n b.fields _ (by omega) (by omega),Ae]
     cases g:Gx b.fields p.1 with
     | none =>
      simp only [g,Option.isSome_none,Bool.false_eq_true,if_false] at C
      rw [Ah (by rfl)]
      exact MG rfl C (Lc (by omega) rfl) (Lc (by omega) rfl)
     | some q =>
      have H:q∈b.fields:=List.mem_of_find?_eq_some g
      simp only [g,Option.isSome_some,if_true,Option.getD_some] at C
      obtain ⟨r1,r2,E,w,m,G⟩:=Zb d n K e p.2.2.2.1 q.2.2.2.1 x (Ty.small_field sa l) (Ty.small_field sb H) (A9 ga l) (fb.field H) (v4 x j) (by have:=Vl.depth_list j;omega) i (by omega)
      have bn:=((b.ok_eq.1 sb.2.2).2.2.2 q H).1
      have ad:∀ {o:Option Vl} {r:Vl × Bool},LA (K+1048576) o r→(Vl.mk 10 0 0 q.2.1 [r.1] []).Nar∧(Vl.mk 10 0 0 q.2.1 [r.1] []).depth≤K+1+1048576:=fun {o r} u=>by
       refine ⟨.mk _ (by simp [Vl.list]) (by simp [Vl.fields]) bn (fun z hz=>?_) (by simp [Vl.fields]) (by simp [Vl.fields]),?_⟩
       ·have hz:z∈[r.1]:=hz
        rw [List.mem_singleton] at hz;subst hz;exact u.2.1
       ·have:=u.2.2
        simp only [Vl.depth,GE,Gz];omega
      have fin:∀ {o:Option Vl} {r:Vl × Bool},LA (K+1048576) o r→LA (K+1+1048576) (o.map fun y=>Vl.mk 10 0 0 q.2.1 [y] []) (Vl.mk 10 0 0 q.2.1 [r.1] [],r.2):=fun {o r} u=>by
       obtain ⟨b1,b2⟩:=ad u
       refine ⟨?_,b1,b2⟩
       have u1:=u.1
       cases o with
       | none=>exact u1
       | some y =>
        have u1:r=(y,true):=u1
        subst u1;rfl
      rw [show B1 (x::xs) 0=some x from rfl,Ae,w,Ae] at C
      have U:EP n q.2.1 r1.1=some (Vl.mk 10 0 0 q.2.1 [r1.1] []):=by
       obtain ⟨b1,b2⟩:=ad m
       rw [EP,JP n _ b1 (by omega)];rfl
      rw [Ai (by simp),show B1 (x::xs) 0=some x from rfl,Ae,Option.getD_some,E,Ae,U,Ae]
      simp only [g]
      exact MG rfl C (fin m) (fin G)
  ·have k1:b.kind=1:=by have:=D.kind;omega
   rw [Ai k10,Af k10,Ai (show ¬ (false=true) by decide),H5,Ag k1,Ah rfl]
   exact MG rfl rfl ⟨rfl,hv,t⟩ ⟨rfl,hv,t⟩
def MN (b:ByteArray):Vl :=
 Vl.mk 5 0 0 b ([]) ([])
theorem ZcP (w0:World) (B:Am) (Rw:Aq) (L:Ar) (a0:ByteArray) (r:Vl) (h:MN a0=r) :
  ACalls Tryz.prog w0 117 [.val (.string a0)] ⟨B,Rw,L⟩ fun x st=>x = .agg (r.cs)∧st=⟨B,Rw,L⟩:=by
 rw [MN] at h
 refine hd [.cell 2 34] Tryz.func117 Tryz.ntmps117 fun M0 W0 e c b a f d hs=>?_
 simp only [AG]
 refine rg [0,2] hs ?_
 refine rg [2] hs ?_
 exact rT h hs a d
theorem QI (w0:World) (B:Am) (Rw:Aq) (L:Ar) (a0:ByteArray) :
  ACalls Tryz.prog w0 117 [.val (.string a0)] ⟨B,Rw,L⟩ fun x st=>x = .agg ((MN a0).cs)∧st=⟨B,Rw,L⟩:=ZcP w0 B Rw L a0 _ rfl
def LI (n:Nat) (g:List Vl):Option Vl :=
 (Bm n (Vl.mk 8 0 0 (⟨#[]⟩:ByteArray) g ([]))).bind fun b =>
 some (b)
theorem Zez (w0:World) (n:Nat) (B:Am) (Rw:Aq) (L:Ar) (a0:List Vl) (r:Vl) (h:LI n a0=some r) :
  ACalls Tryz.prog w0 309 [.list (a0.map Bv) .none] ⟨B,Rw,L⟩ fun x st=>x = .agg (r.cs)∧st=⟨B,Rw,L⟩:=by
 rw [LI] at h
 refine hd [.cell 2 34] Tryz.func309 Tryz.ntmps309 fun M0 W0 e d c b g f hs=>?_
 simp only [AG]
 exact go (tg (a:=([0,2],[2],()))) h hs e d c b f (q1 (DO w0 n)) trivial
def LC (rec:Ty→Option Vl) (n:Nat)  (b:List Vl):Option Vl :=
 (LI n b).bind fun g =>
 some (g)
def G0 (rec:Ty→Option Vl) (n:Nat) (g:(List (ByteArray × Vl))→Int→Option Vl) (b:Int) (h:List (ByteArray × Vl)):Option Vl :=
 if BM (b+1) then
  g h (b+1)
 else none
def N5 (rec:Ty→Option Vl) (n:Nat)  (b:List (ByteArray × Vl)):Option Vl :=
 (Gm n b).bind fun g =>
 some (g)
def PD (rec:Ty→Option Vl) (n:Nat) (b:Ty):Option Vl :=
 some (Vl.mk b.kind 0 0 (⟨#[]⟩:ByteArray) ([]) ([]))
def G1 (rec:Ty→Option Vl) (n:Nat) (y:Ty):Nat→(List Vl)→Int→Option Vl
 | 0,_,_=>none
 | m+1,b,g =>
  if decide (g<y.min) then
   (B1 y.elem 0).bind fun q =>
   (rec q).bind fun h =>
   if (b.length+1)*88≤140737488355328∧b.length+1≤4611686018427387904 then
    if BM (g+1) then
     (G1 rec n y m) (b++([h])) (g+1)
    else none
   else none
  else
   LC rec n b
def EM (rec:Ty→Option Vl) (n:Nat) (q:Ty):Nat→(List (ByteArray × Vl))→Int→Option Vl
 | 0,_,_=>none
 | m+1,b,g =>
  if decide (g<(q.fields.length:Int)) then
   (B1 q.fields g).bind fun h =>
   if decide (h.2.2.1=1) then
    (rec h.2.2.2.1).bind fun y76 =>
    if (b.length+1)*104≤140737488355328∧b.length+1≤4611686018427387904 then
     G0 rec n (EM rec n q m) g (b++([(h.2.1,y76)]))
    else none
   else
    if decide (h.2.2.1=3) then
     (B1 h.2.2.2.2 0).bind fun y =>
     (Bm n y).bind fun y84 =>
     if (b.length+1)*104≤140737488355328∧b.length+1≤4611686018427387904 then
      G0 rec n (EM rec n q m) g (b++([(h.2.1,y84)]))
     else none
    else
     G0 rec n (EM rec n q m) g b
  else
   N5 rec n b
def Ii (rec:Ty→Option Vl) (n:Nat) (b:Ty) (g:Bool):Option Vl :=
 if g then
  some (Vl.mk b.kind ((if b.min<(if 0<b.max then 0 else b.max) then (if 0<b.max then 0 else b.max) else b.min)) b.scale (⟨#[]⟩:ByteArray) ([]) ([]))
 else
  if decide (b.kind=4) then
   if decide (0<(b.words.length:Int)) then
    (B1 b.words 0).bind fun q =>
    some (A4 q)
   else
    if 0≤b.min∧b.min≤9223372036854775807∧((⟨#[97]⟩:ByteArray)).size*b.min.toNat≤140737488355328 then
     some (A4 ((⟨(Lib.repeatL ((⟨#[97]⟩:ByteArray)).data.toList b.min.toNat).toArray⟩:ByteArray)))
    else none
  else
   if decide (b.kind=5) then
    if 0≤b.min∧b.min≤9223372036854775807∧((⟨#[0]⟩:ByteArray)).size*b.min.toNat≤140737488355328 then
     some (MN ((⟨(Lib.repeatL ((⟨#[0]⟩:ByteArray)).data.toList b.min.toNat).toArray⟩:ByteArray)))
    else none
   else
    if decide (b.kind=8) then
     G1 rec n b n ([]) 0
    else
     if decide (b.kind=10) then
      (B1 b.fields 0).bind fun h =>
      (rec h.2.2.2.1).bind fun y55 =>
      (EP n h.2.1 y55).bind fun y =>
      some (y)
     else
      if decide (b.kind=9) then
       EM rec n b n ([]) 0
      else
       PD rec n b 
def Rm (rec:Ty→Option Vl) (n:Nat) (b:Ty):Option Vl :=
 if decide (b.kind=2) then
  Ii rec n b true
 else
  if decide (b.kind=3) then
   Ii rec n b true
  else
   if decide (b.kind=6) then
    Ii rec n b true
   else
    Ii rec n b (decide (b.kind=7))
def HI:Nat→Ty→Option Vl
 | 0,_=>none
 | n+1,b=>Rm (HI n) n b
def UK (w0:World) (F:Ty→Option Vl):Prop:=∀ (B:Am) (Rw:Aq) (L:Ar) (b:Ty) (r:Vl),F b=some r→ACalls Tryz.prog w0 261 [.agg (b.cs)] ⟨B,Rw,L⟩ fun x st=>x = .agg (r.cs)∧st=⟨B,Rw,L⟩
theorem ZX (w0:World) (rec:Ty→Option Vl) (ih:UK w0 rec) (n:Nat):UK w0 (Rm rec n):=by
 intro B Rw L a0 r h
 rw [Rm] at h
 refine hd [.cell 2 34] Tryz.func261 Tryz.ntmps261 fun M0 W0 y j i b J g hs=>?_
 simp only [AG]
 refine rg [1,2] hs ?_
 refine AA (fun e st=>Ck e st B Rw L [(1,true,.box B.length 0),(2,true,.box (B.length+1) 0)] [a0.cs,AX] [] (PD rec n a0  = some r)) ?_ ?_
 ·intro K4 G
  refine rg [1,2,8] hs ?_
  apply Ao
  refine AA (fun e st=>∃ (x:Bool),Ck e st B Rw L [(1,true,.box B.length 0),(2,true,.box (B.length+1) 0),(8,true,Ak a0.kind),(9,true,.val (.bool x))] [a0.cs,AX] [] (Ii rec n a0 x=some r)) ?_ ?_
  ·intro K8 F
   exact go (tg (a:=([1,2,8,9],([1,2,8,9],()),[1,2,8,9],([1,2,8,9],()),[1,2,8,9],([1,2,8,9],()),[1,2,8,9],()))) h hs y j i b g trivial (q1 F)
  ·clear h;rintro e st ⟨x,Xk7,Rk7,rfl,rfl,g,h⟩
   rw [Ii] at h
   refine td y j i b g ?_
   refine BN h hs ?_ ?_<;>intro hs h
   ·refine rg [2] hs ?_
    exact rt h hs b g
   refine rg [1,2,8,25] hs ?_
   refine BN h hs ?_ ?_<;>intro hs h
   ·exact go (tg (a:=([1,2,30],([2],()),[1,2],[2],()))) h hs y j i b g (q2 (KX w0) (NZ w0)) trivial
   refine rg [1,2,8,40] hs ?_
   refine BN h hs ?_ ?_<;>intro hs h
   ·exact go (tg (a:=([2],()))) h hs y j i b g (q2 (NZ w0) (QI w0)) trivial
   refine rg [1,2,8,46] hs ?_
   refine BN h hs ?_ ?_<;>intro hs h
   ·refine rg [1,2,3] hs ?_
    refine AA (fun e st=>∃ (p:List Vl) (w:Ev.Own),Ck e st B Rw L [(2,true,.box (B.length+1) 0),(3,true,.list (p.map Bv) w)] [a0.cs,AX] [(6,p.length,w)] (LC rec n p=some r)) ?_ ?_
    ·intro K35 C
     refine rg [1,2,3,49,50] hs ?_
     apply Ao
     refine AL (fun m e st=>∃ (k:List Vl) (u:Int) (t:Ev.Own),Ck e st B Rw L [(1,true,.box B.length 0),(2,true,.box (B.length+1) 0),(3,true,.list (k.map Bv) t),(49,true,Ak a0.min),(50,true,Ak u)] [a0.cs,AX] [(6,k.length,t)] (G1 rec n a0 m k u=some r)) n ⟨([]),0,.full,([]),Rk7,ef hs,ef hs,Owns.of_eq ((g).full 6 0) Kr,h⟩ ?_
     rintro ml37 e st ⟨k,u,t,Xl37,Rl37,rfl,rfl,g,h⟩ Ul37 Vl37
     cases ml37 with
     | zero=>cases h
     | succ ml37 =>
     rw [G1] at h
     exact go (tg (a:=([1,2,3,49,50,51],([1,2,3,49,50],[1,2,3,49,50],[1,2,3,49,50],()),[2,3],()))) h hs y j i b g (q2 (ae LS HF) ih) (q2 C (fun e s=>Vl37 ml37 e s (Nat.lt_succ_self _)))
    ·clear h;rintro e st ⟨p,w,Xk34,Rk34,rfl,rfl,g,h⟩
     rw [LC] at h
     exact go (tg (a:=([2],()))) h hs y j i b g (q1 (Zez w0 n)) trivial
   refine rg [1,2,8,63] hs ?_
   refine BN h hs ?_ ?_<;>intro hs h
   ·exact go (tg (a:=([12,2],()))) h hs y j i b g (q2 ih (PR w0 n)) trivial
   refine rg [1,2,77] hs ?_
   refine BN h hs ?_ ?_<;>intro hs h
   ·refine rg [1,2,4] hs ?_
    refine AA (fun e st=>∃ (l:List (ByteArray × Vl)) (v:Ev.Own),Ck e st B Rw L [(2,true,.box (B.length+1) 0),(4,true,.list (l.map BV) v)] [a0.cs,AX] [(7,l.length,v)] (N5 rec n l=some r)) ?_ ?_
    ·intro K62 D
     refine rg [2,4,80,81,82] hs ?_
     apply Ao
     refine AL (fun m e st=>∃ (d:List (ByteArray × Vl)) (c:Int) (f:Ev.Own),Ck e st B Rw L [(2,true,.box (B.length+1) 0),(4,true,.list (d.map BV) f),(80,true,.list (a0.fields.map ET) .none),(81,true,Ak (a0.fields.length:Int)),(82,true,Ak c)] [a0.cs,AX] [(7,d.length,f)] (EM rec n a0 m d c=some r)) n ⟨([]),0,.full,([]),Rk7,ef hs,ef hs,Owns.of_eq ((g).full 7 0) Kr,h⟩ ?_
     rintro ml64 e st ⟨d,c,f,Xl64,Rl64,rfl,rfl,g,h⟩ Ul64 Vl64
     cases ml64 with
     | zero=>cases h
     | succ ml64 =>
     rw [EM] at h
     have H:=g.unders
     simp only [List.mem_cons,List.not_mem_nil,or_false,forall_eq_or_imp,forall_eq] at H
     refine td y j i b g ?_
     refine rg [2,4,80,81,82,83] hs ?_
     apply An;intro K66 z
     refine BN h hs ?_ ?_<;>intro hs h
     rotate_left
     ·refine sx [2,4] hs D ?_
      exact ⟨d,f,([]),Rl64,ef hs,ef hs,Owns.of_eq (g) Kr,h⟩
     refine sk [2,4,80,81,82] hs z ?_
     clear z
     refine AA (fun e st=>∃ (o:List (ByteArray × Vl)) (q:Ev.Own),Ck e st B Rw L [(2,true,.box (B.length+1) 0),(4,true,.list (o.map BV) q),(80,true,.list (a0.fields.map ET) .none),(81,true,Ak (a0.fields.length:Int)),(82,true,Ak c)] [a0.cs,AX] [(7,o.length,q)] (G0 rec n (EM rec n a0 ml64) c o=some r)) ?_ ?_
     ·intro K70 E
      exact go (tg (a:=([2,4,6,80,81,82],[2,4,6,80,81,82,87],[2,4,6,80,81,82,87,88],([8,2,4,80,81,82],()),[2,4,6,80,81,82,99],([10,2,4,80,81,82],()),[2,4,80,81,82],()))) h hs y j i b g (q3 (ae Nb IB) ih (DO w0 n)) (q1 E)
     ·clear h;rintro e st ⟨o,q,Xk69,Rk69,rfl,rfl,g,h⟩
      rw [G0] at h
      exact go (tg (a:=([2,4,80,81,82],()))) h hs y j i b g trivial (q1 (fun e s=>Vl64 ml64 e s (Nat.lt_succ_self _)))
    ·clear h;rintro e st ⟨l,v,Xk61,Rk61,rfl,rfl,g,h⟩
     rw [N5] at h
     exact go (tg (a:=([2],()))) h hs y j i b g (q1 (Vv w0 n)) trivial
   refine sk [1,2] hs G ?_
   exact ⟨([]),Rk7,ef hs,ef hs,g,h⟩
 ·clear h;rintro e st ⟨Xk3,Rk3,rfl,rfl,g,h⟩
  rw [PD] at h
  refine td y j i b g ?_
  refine rg [2] hs ?_
  exact rt h hs b g
theorem XU (w0:World):∀ n:Nat,UK w0 (HI n)
 | 0=>fun _ _ _ _ _ h=>(nomatch h)
 | n+1=>ZX w0 (HI n) (XU w0 n) n
def Q6 (n:Nat) (b:Ty):Option (Vl × Int) :=
 (Bz n b).bind fun g =>
 if !(decide (g=0)) then
  some ((Vl.mk 0 0 0 (⟨#[]⟩:ByteArray) ([]) ([]),g))
 else
  (HI n b).bind fun h =>
  some ((h,0))
theorem ZcI (w0:World) (hT:Lib.Utf8Tabs 2 3 w0) (n:Nat) (B:Am) (Rw:Aq) (L:Ar) (a0:Ty) (r:Vl × Int) (h:Q6 n a0=some r) :
  ACalls Tryz.prog w0 192 [.agg (a0.cs)] ⟨B,Rw,L⟩ fun x st=>x = .tup [.agg (r.1.cs),Ak r.2]∧st=⟨B,Rw,L⟩:=by
 rw [Q6] at h
 refine hd [.cell 2 34,.tmp 3] Tryz.func192 Tryz.ntmps192 fun M0 W0 e d c b g f hs=>?_
 simp only [AG]
 exact go (tg (a:=([1,2],[1,2,4],[1,2,4,8],([2,3],()),[1,2],[2,3],()))) h hs e d c b f (q2 (PQ w0 hT n) (XU w0 n)) trivial
theorem Xe:∀ (l:List ByteArray) (o:Option ByteArray),Oy o l=0→∀ w∈l,Ft w=true
 | [],_,_,w,hw=>by simp at hw
 | x::r,o,h,w,hw=>by
  have a:Ft x=true∧Oy (some x) r=0:=by
   by_cases h0:Ft x=true
   ·refine ⟨h0,?_⟩
    cases o with
    | none=>rw [Oy,Ah h0] at h;exact h
    | some p =>
     rw [Oy,Ah h0] at h
     by_cases h1:Eb x p=true
     ·rw [Ah h1] at h;exact absurd h (by decide)
     rw [Ai h1] at h
     by_cases h2:X7 x p=true
     ·rw [Ah h2] at h;exact absurd h (by decide)
     rw [Ai h2] at h;exact h
   ·cases o with
    | none=>rw [Oy,Ai h0] at h;exact absurd h (by decide)
    | some p=>rw [Oy,Ai h0] at h;exact absurd h (by decide)
  rcases List.mem_cons.1 hw with rfl | hw
  ·exact a.1
  ·exact Xe r _ a.2 w hw
structure Vl.Own (v:Vl):Prop where
 kind:1≤v.kind∧v.kind≤10
 nolist:v.kind≠8→v.kind≠10→v.list=[]
 nofields:v.kind≠9→v.fields=[]
 text:v.text.size≤1024
 names:∀ p∈v.fields,p.1.size≤32
theorem Vl.own_of {v:Vl} (h:Ee v=0):v.Own:=by
 obtain ⟨i,b⟩:=KY h
 have g:A3 v=false:=I2 (by omega)
 have j:v.kind≠8→v.kind≠10→v.list=[]:=fun q f=>by
  rcases Nat.eq_zero_or_pos v.list.length with e | e
  ·exact List.length_eq_zero_iff.1 e
  ·exfalso;apply b;rw [AO];simp [q,f];omega
 have d:v.kind≠9→v.fields=[]:=fun q=>by
  rcases Nat.eq_zero_or_pos v.fields.length with e | e
  ·exact List.length_eq_zero_iff.1 e
  ·exfalso;apply b;rw [AO];simp [q];omega
 have k:v.kind≠4→v.kind≠5→v.kind≠10→v.text.size=0:=fun q1 q2 q3=>by
  cases hs:Eb v.text ⟨#[]⟩ with
  | true=>exact ZeE hs
  | false=>exfalso;apply b;rw [AO];simp [q1,q2,q3,hs]
 rw [Ee,g,Ai (by decide),Ai i,Ai b] at h
 have nm:v.kind=9→∀ p∈v.fields,p.1.size≤32:=fun c p a=>by
  rw [Aa,Aa,Aa,Aa,Aa,Aa,Aa,Aa,Ah c] at h
  by_cases q:64<v.fields.length
  ·rw [Ah q] at h;exact absurd h (by decide)
  rw [Ai q] at h
  exact Qg (Xe _ _ h p.1 (List.mem_map_of_mem a))
 refine ⟨by omega,j,d,?_,fun p a=>?_⟩
 ·by_cases k4:v.kind=4
  ·rw [Aa,Aa,Aa,Ah k4] at h
   by_cases q:1024<v.text.size
   ·rw [Ah q] at h;exact absurd h (by decide)
   ·omega
  by_cases k5:v.kind=5
  ·rw [Aa,Aa,Aa,Aa,Ah k5] at h
   by_cases q:1024<v.text.size
   ·rw [Ah q] at h;exact absurd h (by decide)
   ·omega
  by_cases k10:v.kind=10
  ·rw [Aa,Aa,Aa,Aa,Aa,Aa,Aa,Aa,Aa] at h
   by_cases q:Ft v.text=true
   ·have:=Qg q;omega
   ·rw [Ai q] at h;exact absurd h (by decide)
  ·have:=k k4 k5 k10;omega
 ·by_cases c:v.kind=9
  ·exact nm c p a
  ·rw [d c] at a;simp at a
theorem Vl.Good.own {v:Vl} (h:v.Good):v.Own:=Vl.own_of (GR h)
theorem Zcj {v x:Vl} (h:v.Good) (hx:x∈v.list):x.Good:=by
 refine E4 h ?_
 by_cases k:v.kind=8∨v.kind=10
 ·rw [Bn,Ah k];exact hx
 ·rw [h.own.nolist (by omega) (by omega)] at hx;simp at hx
theorem Vz {v:Vl} {p:ByteArray × Vl} (h:v.Good) (hp:p∈v.fields):p.2.Good:=by
 refine E4 h ?_
 by_cases k:v.kind=9
 ·rw [Bn,Aa,Ah k];exact List.mem_map_of_mem hp
 ·rw [h.own.nofields k] at hp;simp at hp
theorem L8:∀ (k:Nat) (v:Vl),v.size≤k→v.Good→v.ok
 | 0,v,h,_=>absurd h (by have:=v.size_eq;omega)
 | k+1,v,h,g=>v.ok_eq.2 ⟨by have:=g.own.text;omega,fun x b=>L8 k x (by have:=v.list_size x b;omega) (Zcj g b),fun p a=>⟨by have:=g.own.names p a;omega,L8 k p.2 (by have:=v.field_size p a;omega) (Vz g a)⟩⟩
theorem QY:∀ (k:Nat) (v:Vl) (lv:Nat),v.size≤k→v.Good→(F8 lv v).length=v.size
 | 0,v,lv,h,_=>absurd h (by have:=v.size_eq;omega)
 | k+1,v,lv,h,g=>by
  have own:=g.own
  rw [NB,List.length_cons,List.length_flatMap]
  have b:((Bn v).map fun x=>(F8 (lv+1) x).length)=(Bn v).map Vl.size:=List.map_congr_left fun x a=>QY k x (lv+1) (by have:=Jh a;omega) (E4 g a)
  rw [b]
  have c:=v.size_eq
  by_cases k8:v.kind=8∨v.kind=10
  ·rw [Bn,Ah k8,←TJ]
   rw [own.nofields (by omega)] at c
   simp only [Bi] at c
   omega
  by_cases k9:v.kind=9
  ·rw [Bn,Ai k8,Ah k9,List.map_map]
   have:=Qu v.fields
   have e:(v.fields.map (Vl.size∘fun x=>x.2)).sum=Bi v.fields:=this.symm
   rw [own.nolist (by omega) (by omega)] at c
   simp only [CJ] at c
   omega
  ·rw [Bn,Ai k8,Ai k9]
   rw [own.nolist (by omega) (by omega),own.nofields k9] at c
   simp only [CJ,Bi] at c
   simp;omega
theorem Vl.depth_part {v x:Vl} (h:x∈Bn v):x.depth<v.depth:=by
 have e:=v.depth_eq
 rcases Q9 h with hx | ⟨p,hp,rfl⟩
 ·have:=(Ie v.list (GE v.list)).1 (Nat.le_refl _) x hx;omega
 ·have:=(Jn v.fields (Gz v.fields)).1 (Nat.le_refl _) p hp;omega
theorem ZdW:∀ (k:Nat) (v:Vl) (lv:Nat),v.size≤k→v.Good→∀ p∈F8 lv v,Ee p.2=0∧p.1+1≤lv+v.depth
 | 0,v,lv,h,_=>absurd h (by have:=v.size_eq;omega)
 | k+1,v,lv,h,g=>by
  intro p hp
  rw [NB] at hp
  rcases List.mem_cons.1 hp with rfl | hp
  ·have:=v.depth_eq;exact ⟨GR g,by simp only;omega⟩
  ·obtain ⟨x,a,hp⟩:=List.mem_flatMap.1 hp
   have:=ZdW k x (lv+1) (by have:=Jh a;omega) (E4 g a) p hp
   have:=Vl.depth_part a
   exact ⟨by omega,by omega⟩
theorem Zk:∀ (l:List (Nat × Vl)) (c:Int),(∀ p∈l,Ee p.2=0∧p.1≤8)→c+l.length≤4096→VQ l c=0
 | [],_,_,_=>rfl
 | p::r,c,h,hc=>by
  have a:=h p (List.mem_cons_self ..)
  rw [List.length_cons] at hc
  rw [VQ,Aa,Aa,Ah a.1]
  exact Zk r (c+1) (fun q b=>h q (List.mem_cons_of_mem _ b)) (by omega)
theorem Za8 {v:Vl} (g:v.Good) (hd:v.depth≤8) (hs:v.size≤4096):OR v=0:=by
 refine Zk _ 0 (fun p a=>?_) ?_
 ·have:=ZdW v.size v 1 (Nat.le_refl _) g p a
  exact ⟨this.1,by omega⟩
 ·rw [QY v.size v 1 (Nat.le_refl _) g];omega
theorem Uk (k:Nat) (v:Vl):CJ (List.replicate k v)=k*v.size:=by
 rw [TJ,List.map_replicate,List.sum_replicate_nat]
theorem Uj (r:Ty→Option Int) (n d:Nat) (t:Ty) (hn:t.size+2000000≤n) (ts:t.small) (tf:t.Fine (d+1))
  (hr:∀ p∈t.fields,∀ b,r p.2.2.2.1=some b→1≤b∧b≤4097∧(b≤4096→((Av d p.2.2.2.1).size:Int)=b)):∀ (k m i:Nat) (c b:Int),i+k=t.fields.length→k<m→1≤c→Be r n t m c i=some b →
  1≤b∧b≤4097∧(b≤4096→b=c+(Bi ((t.fields.drop i).filterMap (BR (Av d))):Int))
 | k,0,i,_,_,_,h,_,_=>absurd h (Nat.not_lt_zero _)
 | 0,m+1,i,c,b,hi,_,hc,h=>by
  rw [Be,AC,Ac,Ai (by decide),CQ] at h
  have:=Option.some.inj h
  rw [List.drop_eq_nil_of_le (by omega)]
  simp only [List.filterMap_nil,Bi]
  split at this<;>omega
 | k+1,m+1,i,c,b,hi,hm,hc,h=>by
  have f:i<t.fields.length:=by omega
  have a:=List.getElem_mem f
  have u:=ts.1
  rw [Be,AC,Ag f,Ah rfl,AM f,Ae] at h
  rw [List.drop_eq_getElem_cons f]
  by_cases n1:t.fields[i].2.2.1=1
  ·rw [Ag n1,Ah rfl] at h
   obtain ⟨y,w,h⟩:=bind_some h
   obtain ⟨_,h⟩:=Au h
   rw [Cf] at h
   obtain ⟨_,h⟩:=Au h
   obtain ⟨E,C,x⟩:=hr _ a y w
   obtain ⟨s,o,l⟩:=Uj r n d t hn ts tf hr k m (i+1) (c+y) b (by omega) (by omega) (by omega) h
   refine ⟨s,o,fun q=>?_⟩
   have e:=l q
   have j:BR (Av d) t.fields[i]=some (t.fields[i].2.1,Av d t.fields[i].2.2.2.1):=by unfold BR;rw [Ah n1]
   rw [List.filterMap_cons_some j]
   simp only [Bi]
   have:=x (by omega)
   omega
  rw [Af n1,Ai (by decide)] at h
  by_cases n3:t.fields[i].2.2.1=3
  ·obtain ⟨v,hv⟩:=List.length_eq_one_iff.1 ((tf.good.own.each _ a).2.2.2.2.1 n3)
   have g:v∈t.fields[i].2.2.2.2:=by rw [hv];simp
   have z:=Gg (tf.dfl a v g).1
   have D:=(((t.ok_eq.1 ts.2.2).2.2.2 _ a).2.2.2 v g).1
   rw [Ag n3,Ah rfl,hv,show B1 [v] 0=some v from rfl,Ae,S4 v (by omega),Ae,QY v.size v 1 (Nat.le_refl _) z] at h
   obtain ⟨_,h⟩:=Au h
   rw [Cf] at h
   obtain ⟨_,h⟩:=Au h
   obtain ⟨s,o,l⟩:=Uj r n d t hn ts tf hr k m (i+1) (c+v.size) b (by omega) (by omega) (by omega) h
   refine ⟨s,o,fun q=>?_⟩
   have e:=l q
   have j:BR (Av d) t.fields[i]=some (t.fields[i].2.1,v):=by unfold BR;rw [Ai n1,Ah n3,hv];rfl
   rw [List.filterMap_cons_some j]
   simp only [Bi]
   omega
  ·rw [Af n3,Ai (by decide),Cf] at h
   obtain ⟨_,h⟩:=Au h
   have j:BR (Av d) t.fields[i]=none:=by unfold BR;rw [Ai n1,Ai n3]
   rw [List.filterMap_cons_none j]
   exact Uj r n d t hn ts tf hr k m (i+1) c b (by omega) (by omega) hc h
theorem Z4:∀ (n d:Nat) (t:Ty) (b:Int),t.size+2000001≤n→t.small→t.Fine d→AP n t=some b→1≤b∧b≤4097∧(b≤4096→((Av d t).size:Int)=b)
 | 0,d,t,b,h,_,_,_=>by omega
 | n+1,0,t,b,_,_,h,_=>by cases h
 | n+1,d+1,t,b,hn,ts,tf,h=>by
  have own:=tf.good.own
  have w:=ts.1
  rw [AP,EJ] at h
  have j:∀ (k i s:Int) (x:ByteArray),((Vl.mk k i s x [] []).size:Int)=1:=fun _ _ _ _=>by simp [Vl.size,CJ,Bi]
  by_cases k8:t.kind=8
  ·obtain ⟨x,u⟩:=own.elem k8
   have c:x∈t.elem:=by rw [u];simp
   have g:=own.bounds (by omega) (by omega)
   rw [k8,Zj9] at g
   simp only at g
   have z:=t.elem_size x c
   have ev:Av (d+1) t=Vl.mk 8 0 0 ⟨#[]⟩ (List.replicate t.min.toNat (Av d x)) []:=by
    rw [Av,Aa,Aa,Aa,Ah k8,u];simp
   have f:((Av (d+1) t).size:Int)=1+t.min*(Av d x).size:=by
    rw [ev]
    simp only [Vl.size,Bi,Uk]
    push_cast
    rw [Int.toNat_of_nonneg g.1]
    omega
   rw [Ag k8,Ah rfl] at h
   by_cases e:0<t.min
   ·rw [Ag e,Ah rfl,u,show B1 [x] 0=some x from rfl,Ae] at h
    obtain ⟨y,m,h⟩:=bind_some h
    obtain ⟨_,h⟩:=Au h
    obtain ⟨_,h⟩:=Au h
    obtain ⟨E,C,o⟩:=Z4 n d x y (by omega) (Ty.small_elem ts c) (tf.elem c) m
    rw [CQ] at h
    have a:=Option.some.inj h
    have J:1*y≤t.min*y:=Int.mul_le_mul_of_nonneg_right (by omega) (by omega)
    refine ⟨by split at a<;>omega,by split at a<;>omega,fun q=>?_⟩
    split at a
    ·omega
    ·rw [f,o (by omega)];exact a
   ·rw [Af e,Ai (by decide),CQ] at h
    have a:=Option.some.inj h
    rw [Ai (by decide)] at a
    have:t.min=0:=by omega
    rw [this] at f
    refine ⟨by omega,by omega,fun _=>by rw [f];omega⟩
  rw [Af k8,Ai (by decide)] at h
  by_cases k10:t.kind=10
  ·have r:=own.cases k10
   have e:=List.getElem_mem r
   have F:B1 t.fields 0=some t.fields[0]:=AM (k:=0) r
   have D:t.fields.head? = some t.fields[0]:=by rw [List.head?_eq_getElem?,List.getElem?_eq_getElem r]
   have ev:Av (d+1) t=Vl.mk 10 0 0 t.fields[0].2.1 [Av d t.fields[0].2.2.2.1] []:=by
    rw [Av,Aa,Aa,Aa,Ai k8,Ah k10,D];rfl
   have f:((Av (d+1) t).size:Int)=1+(Av d t.fields[0].2.2.2.1).size:=by
    rw [ev];simp only [Vl.size,CJ,Bi];omega
   rw [Ag k10,Ah rfl,F,Ae] at h
   obtain ⟨y,m,h⟩:=bind_some h
   obtain ⟨_,h⟩:=Au h
   have:=t.field_size _ e
   obtain ⟨E,C,o⟩:=Z4 n d _ y (by omega) (Ty.small_field ts e) (tf.field e) m
   rw [CQ] at h
   have a:=Option.some.inj h
   refine ⟨by split at a<;>omega,by split at a<;>omega,fun q=>?_⟩
   split at a
   ·omega
   ·rw [f,o (by omega)];exact a
  rw [Af k10,Ai (by decide)] at h
  by_cases k9:t.kind=9
  ·rw [Ag k9,Ah rfl] at h
   obtain ⟨v,H,G⟩:=Uj (AP n) n d t (by omega) ts tf (fun p l b g=>by
    have:=t.field_size p l
    exact Z4 n d _ b (by omega) (Ty.small_field ts l) (tf.field l) g) t.fields.length n 0 1 b (by omega) (by have:=t.lens;omega) (by decide) h
   refine ⟨v,H,fun q=>?_⟩
   have ev:Av (d+1) t=Vl.mk 9 0 0 ⟨#[]⟩ [] (BS (t.fields.filterMap (BR (Av d)))):=by
    rw [Av,Aa,Aa,Aa,Ai k8,Ai k10,Ah k9]
   rw [ev]
   simp only [Vl.size,CJ]
   rw [NI (Gj _)]
   have:=G q
   rw [List.drop_zero] at this
   omega
  ·rw [Af k9,Ai (by decide),CQ] at h
   have a:=Option.some.inj h
   rw [Ai (by decide)] at a
   refine ⟨by omega,by omega,fun _=>?_⟩
   rw [←a,Av]
   by_cases n2:t.kind=2∨t.kind=3∨t.kind=6∨t.kind=7
   ·rw [Ah n2];exact j _ _ _ _
   rw [Ai n2]
   by_cases n4:t.kind=4
   ·rw [Ah n4];exact j _ _ _ _
   rw [Ai n4]
   by_cases n5:t.kind=5
   ·rw [Ah n5];exact j _ _ _ _
   rw [Ai n5,Ai k8,Ai k10,Ai k9];exact j _ _ _ _
theorem Zv (r:Ty→Option Int) (n:Nat) (t:Ty):∀ (m:Nat) (c i b:Int),BA r n t m c i=some b→c≤b
 | 0,c,i,b,h=>by cases h
 | m+1,c,i,b,h=>by
  rw [BA] at h
  split at h
  ·obtain ⟨_,_,h⟩:=bind_some h
   obtain ⟨y,_,h⟩:=bind_some h
   obtain ⟨_,h⟩:=Au h
   have:=Zv r n t m _ _ b h
   split at this<;>omega
  ·have:=Option.some.inj h;omega
theorem Za2 (r:Ty→Option Int) (n:Nat) (t:Ty):∀ (m:Nat) (c i b:Int),BL r n t m c i=some b→c≤b
 | 0,c,i,b,h=>by cases h
 | m+1,c,i,b,h=>by
  rw [BL] at h
  split at h
  ·obtain ⟨_,_,h⟩:=bind_some h
   obtain ⟨y,_,h⟩:=bind_some h
   obtain ⟨_,h⟩:=Au h
   have:=Za2 r n t m _ _ b h
   split at this<;>omega
  ·exact Zv r n t _ _ _ b h
theorem Zba (n:Nat) (t:Ty) (hn:3000000≤n) (ts:t.small) (tf:t.Fine 8) (h:Bz n t=some 0):(Av 8 t).size≤4096:=by
 have d:=ts.1
 rw [Bz] at h
 obtain ⟨y,f,h⟩:=bind_some h
 by_cases h0:y.1=0
 rotate_left
 ·rw [Af h0,Ah (by rfl)] at h
  exact absurd (Option.some.inj h) h0
 rw [Ag h0,Ai (by decide)] at h
 obtain ⟨a,c,h⟩:=bind_some h
 by_cases q:4096<a
 ·rw [Ag q,Ah rfl] at h
  exact absurd (Option.some.inj h) (by decide)
 obtain ⟨n',rfl⟩:∃ k,n=k+1:=⟨n-1,by omega⟩
 rw [BJ,FA] at c
 obtain ⟨b,e,c⟩:=bind_some c
 have:=Za2 _ _ _ _ _ _ _ c
 have:=(Z4 n' 8 t b (by omega) ts tf e).2.2 (by omega)
 omega
theorem Zc5 (k i s:Int) (t:ByteArray) (L:List Vl) (F:List (ByteArray × Vl)) (B:Nat) (ht:t.size≤1048576) (hL:L.length≤100000000) (hF:F.length≤100000000) (h1:∀ x∈L,x.Nar∧x.depth≤B) (h2:∀ p∈F,p.1.size≤1048576∧p.2.Nar∧p.2.depth≤B):(Vl.mk k i s t L F).Nar∧(Vl.mk k i s t L F).depth≤B+1:=by
 refine ⟨.mk _ hL hF ht (fun x d=>(h1 x d).1) (fun p c=>(h2 p c).1) (fun p c=>(h2 p c).2.1),?_⟩
 have a:=(Ie L B).2 fun x d=>(h1 x d).2
 have b:=(Jn F B).2 fun p c=>(h2 p c).2.2
 simp only [Vl.depth];omega
theorem ZaQ:∀ (ps:List TF) (l:List (ByteArray × Vl)),(Qk ps l).length≤l.length+ps.length∧∀ q∈Qk ps l,q∈l∨∃ p∈ps,q.1=p.2.1∧q.2∈p.2.2.2.2
 | [],l=>⟨Nat.le_refl _,fun q e => .inl e⟩
 | p::ps,l=>by
  have d:∀ f,f.length≤l.length+1→(∀ q∈f,q∈l∨(q.1=p.2.1∧q.2∈p.2.2.2.2))→(Qk ps f).length≤l.length+(p::ps).length∧∀ q∈Qk ps f,q∈l∨∃ x∈p::ps,q.1=x.2.1∧q.2∈x.2.2.2.2:=fun f j i=>by
   obtain ⟨a,b⟩:=ZaQ ps f
   refine ⟨by rw [List.length_cons];omega,fun q e=>?_⟩
   rcases b q e with h | ⟨x,g,h⟩
   ·rcases i q h with h | h
    ·exact .inl h
    ·exact .inr ⟨p,List.mem_cons_self .., h⟩
   ·exact .inr ⟨x,List.mem_cons_of_mem _ g,h⟩
  rw [Qk]
  cases c:ZgP p with
  | none=>exact d l (by omega) fun q e => .inl e
  | some x =>
   have g:x∈p.2.2.2.2:=by
    rw [ZgP] at c
    split at c
    ·exact List.mem_of_getElem? c
    ·cases c
   simp only
   split
   ·exact d l (by omega) fun q e => .inl e
   ·refine d _ (by rw [WR];omega) fun q e=>?_
    rcases List.mem_cons.1 ((Rh l p.2.1 x).mem_iff.1 e) with rfl | h
    ·exact .inr ⟨rfl,g⟩
    ·exact .inl h
theorem Tj:∀ (d:Nat) (t:Ty) (v:Vl),t.small→v.ok→v.size≤1048576→(C4 d t v).Nar∧(C4 d t v).depth≤v.depth+1048576
 | 0,t,v,_,hv,hs=>⟨Pv v.size v (Nat.le_refl _) hs hv,by rw [C4];omega⟩
 | d+1,t,v,ht,hv,hs=>by
  have f:v.Nar∧v.depth≤v.depth+1048576:=⟨Pv v.size v (Nat.le_refl _) hs hv,by omega⟩
  have K:=IM v
  have N:=t.lens
  have V:=ht.1
  obtain ⟨m,s,l⟩:=v.ok_eq.1 hv
  obtain ⟨H,Q,U,w⟩:=t.ok_eq.1 ht.2.2
  have G:=v.depth_eq
  have n:∀ u∈v.list,u.Nar∧u.depth≤v.depth-1+1048576:=fun u i=>⟨Pv u.size u (Nat.le_refl _) (by have:=v.list_size u i;omega) (s u i),by have:=Vl.depth_list i;omega⟩
  have j:∀ q∈v.fields,q.1.size≤1048576∧q.2.Nar∧q.2.depth≤v.depth-1+1048576:=fun q g=>⟨(l q g).1,Pv q.2.size q.2 (Nat.le_refl _) (by have:=v.field_size q g;omega) (l q g).2,by have:=Vl.depth_fld g;omega⟩
  have cl:∀ x,x.small→∀ u∈v.list,(C4 d x u).Nar∧(C4 d x u).depth≤v.depth-1+1048576:=fun x hx u i=>by
   obtain ⟨a,b⟩:=Tj d x u hx (s u i) (by have:=v.list_size u i;omega)
   exact ⟨a,by have:=Vl.depth_list i;omega⟩
  have F:∀ x,x.small→∀ q∈v.fields,(C4 d x q.2).Nar∧(C4 d x q.2).depth≤v.depth-1+1048576:=fun x hx q g=>by
   obtain ⟨a,b⟩:=Tj d x q.2 hx (l q g).2 (by have:=v.field_size q g;omega)
   exact ⟨a,by have:=Vl.depth_fld g;omega⟩
  have up:v.depth-1+1048576+1=v.depth+1048576:=by omega
  rw [C4]
  split
  ·exact f
  split
  ·rename_i k9
   have r:Ey (C4 d) t v=Ya v (v.fields.map fun q=>match A7 t q.1 with | some p=>(q.1,C4 d p.2.2.2.1 q.2) | none=>q):=by rw [Ey,Aa,Ah k9];rfl
   have E:∀ q∈(Ey (C4 d) t v).fields,q.1.size≤1048576∧q.2.Nar∧q.2.depth≤v.depth-1+1048576:=fun q g=>by
    rw [r] at g
    obtain ⟨z,o,rfl⟩:=List.mem_map.1 (show q∈v.fields.map _ from g)
    cases c:A7 t z.1 with
    | none=>exact j z o
    | some p=>exact ⟨(l z o).1,F _ (Ty.small_field ht (BC c).1) z o⟩
   have C:(Ey (C4 d) t v).fields.length=v.fields.length:=by rw [r];exact List.length_map _
   obtain ⟨a1,a2⟩:=ZaQ t.fields (Ey (C4 d) t v).fields
   have:=Zc5 v.kind v.int v.scale v.text v.list (Qk t.fields (Ey (C4 d) t v).fields) (v.depth-1+1048576) m (by omega) (by omega) n (fun q g=>by
    rcases a2 q g with h | ⟨p,hp,h1,h2⟩
    ·exact E q h
    ·obtain ⟨O,J,D⟩:=(w p hp).2.2.2 q.2 h2
     exact ⟨by rw [h1];exact (w p hp).1,Pv q.2.size q.2 (Nat.le_refl _) (by omega) D,by omega⟩)
   rw [up] at this
   have e:Ya (Ey (C4 d) t v) (Qk t.fields (Ey (C4 d) t v).fields)=Vl.mk v.kind v.int v.scale v.text v.list (Qk t.fields (Ey (C4 d) t v).fields):=by rw [r];rfl
   rw [e]
   exact this
  ·rename_i k9
   rw [Ey]
   split
   ·split
    ·rename_i x he
     have k:x∈t.elem:=by rw [he];simp
     have:=Zc5 v.kind v.int v.scale v.text (v.list.map (C4 d x)) v.fields (v.depth-1+1048576) m (by rw [List.length_map];omega) (by omega) (fun y hy=>by
      obtain ⟨u,i,rfl⟩:=List.mem_map.1 hy
      exact cl x (Ty.small_elem ht k) u i) j
     rw [up] at this
     exact this
    ·exact f
   ·split
    ·split
     ·rename_i p x xs hp hx
      have k:x∈v.list:=by rw [hx];simp
      have:=Zc5 v.kind v.int v.scale v.text [C4 d p.2.2.2.1 x] v.fields (v.depth-1+1048576) m (by simp) (by omega) (fun y hy=>by
       rw [List.mem_singleton] at hy;subst hy
       exact cl _ (Ty.small_field ht (BC hp).1) x k) j
      rw [up] at this
      exact this
     ·exact f
    ·exact f
theorem ZdT:∀ (k:Nat) (v:Vl) (lv:Nat),v.size≤k→v.Nar→∀ p∈F8 lv v,p.2.Nar
 | 0,v,lv,h,_,_,_=>absurd h (by have:=v.size_eq;omega)
 | k+1,v,lv,h,hv,p,hp=>by
  rw [NB] at hp
  rcases List.mem_cons.1 hp with rfl | hp
  ·exact hv
  ·obtain ⟨x,a,hp⟩:=List.mem_flatMap.1 hp
   have:=Jh a
   exact ZdT k x (lv+1) (by omega) (by
    rcases Q9 a with h | ⟨q,hq,rfl⟩
    ·exact hv.list h
    ·exact hv.field hq) p hp
theorem Zc6 (n:Nat) (v:Vl) (hn:1000000000≤n) (hs:v.depth<4611686018427387904) (hv:v.Nar):GU n v=some (OR v):=by
 rw [GU,Ah ⟨hs,hv.wide⟩]
 exact UT n (by omega) _ 0 (fun p a=>by
  have h:=ZdT v.size v 1 (Nat.le_refl _) hv p a
  have b:=h.inv
  exact ⟨h.ok,by omega,by omega⟩) (by omega) (by omega)
theorem VS (n:Nat) (t:Ty) (v:Vl) (ht:t.small) (hv:v.ok) (hs:v.size≤1048576) (hn:2100000000≤n):GN n t v=some (if Du 12 t (C4 12 t v)=true then (C4 12 t v,0) else (nilV,18)):=by
 obtain ⟨c,e⟩:=Tj 12 t v ht hv hs
 have d:=v.depth_size
 have b:=ht.1
 have a:=ht.2.2
 rw [GN,N1 12 n t v ht.2.1 b hs hv (by omega),Ae,Zdl n 12 t _ ht.2.1 (by omega) b a c (by omega) (by omega),Ae]
 cases Du 12 t (C4 12 t v) with
 | false=>rfl
 | true=>rw [Ai (by decide),JP n _ c (by omega),Ae,Ah rfl]
def Oi (n:Nat)  : Option Int :=
 some (0)
def Gv (n:Nat) (h:List Int):Nat→Int→Option Int
 | 0,_=>none
 | m+1,b =>
  if decide (b<(h.length:Int)) then
   (B1 h b).bind fun g =>
   if !(decide (g=0)) then
    some (g)
   else
    if BM (b+1) then
     (Gv n h m) (b+1)
    else none
  else
   Oi n 
def J0 (n:Nat) (b:List Int):Option Int :=
 Gv n b n 0
theorem RO (w0:World) (n:Nat) (B:Am) (Rw:Aq) (L:Ar) (a0:List Int) (r:Int) (h:J0 n a0=some r) :
  ACalls Tryz.prog w0 124 [.list (a0.map avI) .none] ⟨B,Rw,L⟩ fun x st=>x=Ak r∧st=⟨B,Rw,L⟩:=by
 rw [J0] at h
 refine hd [.tmp 2] Tryz.func124 Tryz.ntmps124 fun M0 W0 j g f c k d hs=>?_
 simp only [AG]
 refine rg [0] hs ?_
 refine rg [0,3] hs ?_
 refine AA (fun e st=>Ck e st B Rw L [(3,true,Ak 0)] [] [] (Oi n  = some r)) ?_ ?_
 ·intro K5 i
  refine rg [3,6,7,8] hs ?_
  apply Ao
  refine AL (fun m e st=>∃ (b:Int),Ck e st B Rw L [(3,true,Ak 0),(6,true,.list (a0.map avI) .none),(7,true,Ak (a0.length:Int)),(8,true,Ak b)] [] [] (Gv n a0 m b=some r)) n ⟨0,([]),Rw,ef hs,ef hs,d,h⟩ ?_
  rintro ml7 e st ⟨b,Xl7,Rl7,rfl,rfl,d,h⟩ Ul7 Vl7
  cases ml7 with
  | zero=>cases h
  | succ ml7 =>
  rw [Gv] at h
  exact go (tg (a:=([3,6,7,8,9],([3,6,7,8],[3,5,6,7,8],[3,5,6,7,8,14],([2],()),[3,6,7,8],[3,6,7,8],()),[3],()))) h hs j g f c d trivial (q2 i (fun e s=>Vl7 ml7 e s (Nat.lt_succ_self _)))
 ·clear h;rintro e st ⟨Xk4,Rk4,rfl,rfl,d,h⟩
  rw [Oi] at h
  refine td j g f c d ?_
  refine rg [2] hs ?_
  exact rt h hs c d
def HU (n:Nat)  : Option Bool :=
 some (true)
def Fb (n:Nat) (y:List Vl) (a1:List Vl) (a2:Vl→Vl→Option Bool):Nat→Int→Option Bool
 | 0,_=>none
 | m+1,b =>
  if decide (b<(y.length:Int)) then
   (B1 y b).bind fun g =>
   (B1 a1 b).bind fun q =>
   (a2 g q).bind fun h =>
   if !h then
    some (false)
   else
    if BM (b+1) then
     (Fb n y a1 a2 m) (b+1)
    else none
  else
   HU n 
def IK (n:Nat) (g:List Vl) (b:List Vl) (h:Vl→Vl→Option Bool):Option Bool :=
 if !(decide ((g.length:Int)=(b.length:Int))) then
  some (false)
 else
  Fb n g b h n 0
theorem P8 (w0:World) (n:Nat) (B:Am) (Rw:Aq) (L:Ar) (a0:List Vl) (a1:List Vl) (fa2:FuncId) (ca2:List AV) (a2:Vl→Vl→Option Bool) (ha2:∀ (x0:Vl) (x1:Vl) r,a2 x0 x1=some r→∀ B' rows,B <+: B'→Rw <+: rows→ACalls Tryz.prog w0 fa2 ([.agg (x0.cs),.agg (x1.cs)]++ca2) ⟨B',rows,L⟩ fun v s=>v = .val (.bool r)∧s=⟨B',rows,L⟩) (r:Bool) (h:IK n a0 a1 a2=some r) :
  ACalls Tryz.prog w0 170 [.list (a0.map Bv) .none,.list (a1.map Bv) .none,.clo fa2 ca2] ⟨B,Rw,L⟩ fun x st=>x = .val (.bool r)∧st=⟨B,Rw,L⟩:=by
 rw [IK] at h
 refine hd [.tmp 6] Tryz.func170 Tryz.ntmps170 fun M0 W0 l i g c o f hs=>?_
 simp only [AG]
 have d:=CV (o (.clo fa2 ca2) (by simp))
 refine rg [0,1,2] hs ?_
 apply An;intro K2 j
 refine rg [0,1,2,14] hs ?_
 refine BN h hs ?_ ?_<;>intro hs h
 ·refine rg [6] hs ?_
  exact rt h hs c f
 refine sk [0,1,2] hs j ?_
 clear j
 refine AA (fun e st=>Ck e st B Rw L [] [] [] (HU n  = some r)) ?_ ?_
 ·intro K8 k
  refine rg [1,2,15,16,17] hs ?_
  apply Ao
  refine AL (fun m e st=>∃ (b:Int),Ck e st B Rw L [(1,true,.list (a1.map Bv) .none),(2,true,.clo fa2 ca2),(15,true,.list (a0.map Bv) .none),(16,true,Ak (a0.length:Int)),(17,true,Ak b)] [] [] (Fb n a0 a1 a2 m b=some r)) n ⟨0,([]),Rw,ef hs,ef hs,f,h⟩ ?_
  rintro ml10 e st ⟨b,Xl10,Rl10,rfl,rfl,f,h⟩ Ul10 Vl10
  cases ml10 with
  | zero=>cases h
  | succ ml10 =>
  rw [Fb] at h
  refine AY l i g rfl c f (Kq d f) (Kq d f) ?_
  exact go (tg (a:=([1,2,15,16,17,18],([1,2,15,16,17],[1,2,7,8,15,16,17],[1,2,8,9,15,16,17],[1,2,15,16,17,30],([6],()),[1,2,15,16,17],[1,2,15,16,17],()),[],()))) h hs l i g c f (q1 ha2) (q2 k (fun e s=>Vl10 ml10 e s (Nat.lt_succ_self _)))
 ·clear h;rintro e st ⟨Xk7,Rk7,rfl,rfl,f,h⟩
  rw [HU] at h
  refine AY l i g rfl c f (Kq d f) (Kq d f) ?_
  refine rg [6] hs ?_
  exact rt h hs c f
def EV (n:Nat) (g:List (ByteArray × Vl)) (b:List (ByteArray × Vl)):Option Int :=
 if decide ((g.length:Int)<(b.length:Int)) then
  some ((-1))
 else
  some (0)
def Cm (n:Nat) (q:List (ByteArray × Vl)) (h:List (ByteArray × Vl)) (a2:(ByteArray × Vl)→(ByteArray × Vl)→Option Int):Nat→Int→Option Int
 | 0,_=>none
 | m+1,b =>
  if decide (b<(q.length:Int)) then
   (B1 q b).bind fun y =>
   if decide ((h.length:Int)≤b) then
    some (1)
   else
    (B1 h b).bind fun x18 =>
    (a2 y x18).bind fun g =>
    if !(decide (g=0)) then
     some (g)
    else
     if BM (b+1) then
      (Cm n q h a2 m) (b+1)
     else none
  else
   EV n q h 
def Fg (n:Nat) (h:List (ByteArray × Vl)) (b:List (ByteArray × Vl)) (g:(ByteArray × Vl)→(ByteArray × Vl)→Option Int):Option Int :=
 Cm n h b g n 0
theorem OA (w0:World) (n:Nat) (B:Am) (Rw:Aq) (L:Ar) (a0:List (ByteArray × Vl)) (a1:List (ByteArray × Vl)) (fa2:FuncId) (ca2:List AV) (a2:(ByteArray × Vl)→(ByteArray × Vl)→Option Int) (ha2:∀ (x0:ByteArray × Vl) (x1:ByteArray × Vl) r,a2 x0 x1=some r→∀ B' rows,B <+: B'→Rw <+: rows→ACalls Tryz.prog w0 fa2 ([.agg (.val (.string x0.1)::(x0.2.cs)),.agg (.val (.string x1.1)::(x1.2.cs))]++ca2) ⟨B',rows,L⟩ fun v s=>v=Ak r∧s=⟨B',rows,L⟩) (r:Int) (h:Fg n a0 a1 a2=some r) :
  ACalls Tryz.prog w0 128 [.list (a0.map BV) .none,.list (a1.map BV) .none,.clo fa2 ca2] ⟨B,Rw,L⟩ fun x st=>x=Ak r∧st=⟨B,Rw,L⟩:=by
 rw [Fg] at h
 refine hd [.tmp 6] Tryz.func128 Tryz.ntmps128 fun M0 W0 j g i c l f hs=>?_
 simp only [AG]
 have b:=CV (l (.clo fa2 ca2) (by simp))
 refine rg [0,1,2] hs ?_
 refine AA (fun e st=>Ck e st B Rw L [(0,true,.list (a0.map BV) .none),(1,true,.list (a1.map BV) .none)] [] [] (EV n a0 a1  = some r)) ?_ ?_
 ·intro K4 k
  refine rg [0,1,2,11,12,13] hs ?_
  apply Ao
  refine AL (fun m e st=>∃ (d:Int),Ck e st B Rw L [(0,true,.list (a0.map BV) .none),(1,true,.list (a1.map BV) .none),(2,true,.clo fa2 ca2),(11,true,.list (a0.map BV) .none),(12,true,Ak (a0.length:Int)),(13,true,Ak d)] [] [] (Cm n a0 a1 a2 m d=some r)) n ⟨0,([]),Rw,ef hs,ef hs,f,h⟩ ?_
  rintro ml6 e st ⟨d,Xl6,Rl6,rfl,rfl,f,h⟩ Ul6 Vl6
  cases ml6 with
  | zero=>cases h
  | succ ml6 =>
  rw [Cm] at h
  refine AY j g i rfl c f (Kq b f) (Kq b f) ?_
  exact go (tg (a:=([0,1,2,11,12,13,14],([0,1,2,11,12,13],[0,1,2,7,8,11,12,13],[0,1,2,7,8,11,12,13,21],([6],()),[0,1,2,7,8,11,12,13],[0,1,2,8,9,11,12,13],[0,1,2,10,11,12,13],[0,1,2,10,11,12,13,31],([6],()),[0,1,2,11,12,13],[0,1,2,11,12,13],()),[0,1],()))) h hs j g i c f (q1 ha2) (q2 k (fun e s=>Vl6 ml6 e s (Nat.lt_succ_self _)))
 ·clear h;rintro e st ⟨Xk3,Rk3,rfl,rfl,f,h⟩
  rw [EV] at h
  refine AY j g i rfl c f (Kq b f) (Kq b f) ?_
  exact go (tg (a:=([38],([6],()),[],[6],()))) h hs j g i c f trivial trivial
def E1 (n:Nat) (g:List Vl) (b:List Vl):Option Int :=
 if decide ((g.length:Int)<(b.length:Int)) then
  some ((-1))
 else
  some (0)
def CB (n:Nat) (q:List Vl) (h:List Vl) (a2:Vl→Vl→Option Int):Nat→Int→Option Int
 | 0,_=>none
 | m+1,b =>
  if decide (b<(q.length:Int)) then
   (B1 q b).bind fun y =>
   if decide ((h.length:Int)≤b) then
    some (1)
   else
    (B1 h b).bind fun x18 =>
    (a2 y x18).bind fun g =>
    if !(decide (g=0)) then
     some (g)
    else
     if BM (b+1) then
      (CB n q h a2 m) (b+1)
     else none
  else
   E1 n q h 
def Fj (n:Nat) (h:List Vl) (b:List Vl) (g:Vl→Vl→Option Int):Option Int :=
 CB n h b g n 0
theorem OU (w0:World) (n:Nat) (B:Am) (Rw:Aq) (L:Ar) (a0:List Vl) (a1:List Vl) (fa2:FuncId) (ca2:List AV) (a2:Vl→Vl→Option Int) (ha2:∀ (x0:Vl) (x1:Vl) r,a2 x0 x1=some r→∀ B' rows,B <+: B'→Rw <+: rows→ACalls Tryz.prog w0 fa2 ([.agg (x0.cs),.agg (x1.cs)]++ca2) ⟨B',rows,L⟩ fun v s=>v=Ak r∧s=⟨B',rows,L⟩) (r:Int) (h:Fj n a0 a1 a2=some r) :
  ACalls Tryz.prog w0 127 [.list (a0.map Bv) .none,.list (a1.map Bv) .none,.clo fa2 ca2] ⟨B,Rw,L⟩ fun x st=>x=Ak r∧st=⟨B,Rw,L⟩:=by
 rw [Fj] at h
 refine hd [.tmp 6] Tryz.func127 Tryz.ntmps127 fun M0 W0 j g i c l f hs=>?_
 simp only [AG]
 have b:=CV (l (.clo fa2 ca2) (by simp))
 refine rg [0,1,2] hs ?_
 refine AA (fun e st=>Ck e st B Rw L [(0,true,.list (a0.map Bv) .none),(1,true,.list (a1.map Bv) .none)] [] [] (E1 n a0 a1  = some r)) ?_ ?_
 ·intro K4 k
  refine rg [0,1,2,11,12,13] hs ?_
  apply Ao
  refine AL (fun m e st=>∃ (d:Int),Ck e st B Rw L [(0,true,.list (a0.map Bv) .none),(1,true,.list (a1.map Bv) .none),(2,true,.clo fa2 ca2),(11,true,.list (a0.map Bv) .none),(12,true,Ak (a0.length:Int)),(13,true,Ak d)] [] [] (CB n a0 a1 a2 m d=some r)) n ⟨0,([]),Rw,ef hs,ef hs,f,h⟩ ?_
  rintro ml6 e st ⟨d,Xl6,Rl6,rfl,rfl,f,h⟩ Ul6 Vl6
  cases ml6 with
  | zero=>cases h
  | succ ml6 =>
  rw [CB] at h
  refine AY j g i rfl c f (Kq b f) (Kq b f) ?_
  exact go (tg (a:=([0,1,2,11,12,13,14],([0,1,2,11,12,13],[0,1,2,7,8,11,12,13],[0,1,2,7,8,11,12,13,21],([6],()),[0,1,2,7,8,11,12,13],[0,1,2,8,9,11,12,13],[0,1,2,10,11,12,13],[0,1,2,10,11,12,13,31],([6],()),[0,1,2,11,12,13],[0,1,2,11,12,13],()),[0,1],()))) h hs j g i c f (q1 ha2) (q2 k (fun e s=>Vl6 ml6 e s (Nat.lt_succ_self _)))
 ·clear h;rintro e st ⟨Xk3,Rk3,rfl,rfl,f,h⟩
  rw [E1] at h
  refine AY j g i rfl c f (Kq b f) (Kq b f) ?_
  exact go (tg (a:=([38],([6],()),[],[6],()))) h hs j g i c f trivial trivial
def HQ (rec:Vl→Vl→Option Int) (n:Nat) (g:ByteArray × Vl) (b:ByteArray × Vl):Option Int :=
 (rec g.2 b.2).bind fun h =>
 (J0 n ([E6 g.1 b.1,h])).bind fun q =>
 some (q)
theorem XA (w0:World) (rec:Vl→Vl→Option Int) (ih:∀ (B:Am) (Rw:Aq) (L:Ar) (a0:Vl) (a1:Vl) (r:Int) (h:rec a0 a1=some r),ACalls Tryz.prog w0 52 [.agg (a0.cs),.agg (a1.cs)] ⟨B,Rw,L⟩ fun x st=>x=Ak r∧st=⟨B,Rw,L⟩) (n:Nat) (B:Am) (Rw:Aq) (L:Ar) (a0:ByteArray × Vl) (a1:ByteArray × Vl) (r:Int) (h:HQ rec n a0 a1=some r) :
  ACalls Tryz.prog w0 129 [.agg (.val (.string a0.1)::(a0.2.cs)),.agg (.val (.string a1.1)::(a1.2.cs))] ⟨B,Rw,L⟩ fun x st=>x=Ak r∧st=⟨B,Rw,L⟩:=by
 rw [HQ] at h
 refine hd [.tmp 4] Tryz.func129 Tryz.ntmps129 fun M0 W0 e d c b g f hs=>?_
 simp only [AG]
 exact go (tg (a:=([2,3],[13,4],()))) h hs e d c b f (q3 (PO w0) ih (RO w0 n)) trivial
def NK (rec:Vl→Vl→Option Int) (n:Nat) (g:Vl) (b:Vl):Option Int :=
 (Fj n g.list b.list (fun (q:Vl) (h:Vl)=>rec q h)).bind fun y =>
 (Fg n g.fields b.fields (fun (q:ByteArray × Vl) (h:ByteArray × Vl)=>HQ rec n q h)).bind fun y4 =>
 (J0 n ([if g.kind<b.kind then -1 else if g.kind=b.kind then 0 else 1,if g.int<b.int then -1 else if g.int=b.int then 0 else 1,if g.scale<b.scale then -1 else if g.scale=b.scale then 0 else 1,E6 g.text b.text,y,y4])).bind fun y5 =>
 some (y5)
def GW:Nat→Vl→Vl→Option Int
 | 0,_,_=>none
 | n+1,g,b=>NK (GW n) n g b
def QF (w0:World) (F:Vl→Vl→Option Int):Prop:=∀ (B:Am) (Rw:Aq) (L:Ar) (g:Vl) (b:Vl) (r:Int),F g b=some r→ACalls Tryz.prog w0 52 [.agg (g.cs),.agg (b.cs)] ⟨B,Rw,L⟩ fun x st=>x=Ak r∧st=⟨B,Rw,L⟩
theorem Xn (w0:World) (rec:Vl→Vl→Option Int) (ih:QF w0 rec) (n:Nat):QF w0 (NK rec n):=by
 intro B Rw L a0 a1 r h
 rw [NK] at h
 refine hd [.tmp 4] Tryz.func52 Tryz.ntmps52 fun M0 W0 p o f b x q hs=>?_
 simp only [AG]
 refine rg [2,3] hs ?_
 obtain ⟨v,j,h⟩:=bind_some h
 obtain ⟨w,l,h⟩:=bind_some h
 obtain ⟨u,t,h⟩:=bind_some h
 apply An;intro K2 k
 refine dk 33 8 1 [4] (al hs) Oo ?_
 refine As _ (SG w0 _ _ _ a0.kind a1.kind) (hv (al hs)) ?_
 refine nc (al hs) ?_
 refine As _ (SG w0 _ _ _ a0.int a1.int) (hv (al hs)) ?_
 refine nc (al hs) ?_
 refine As _ (SG w0 _ _ _ a0.scale a1.scale) (hv (al hs)) ?_
 refine nc (al hs) ?_
 refine As _ (PO w0 _ _ _ a0.text a1.text) (hv (al hs)) ?_
 refine nc (al hs) ?_
 refine As _ (OU w0 n _ _ _ a0.list a1.list 52 [] (fun (c:Vl) (d:Vl)=>rec c d) (fun c d r m s e g i=>by exact ih _ _ _ c d _ m) _ j) (hv (al hs)) ?_
 refine nc (al hs) ?_
 refine As _ (OA w0 n _ _ _ a0.fields a1.fields 129 [] (fun (c:ByteArray × Vl) (d:ByteArray × Vl)=>HQ rec n c d) (fun c d r m s e g i=>by exact XA w0 rec ih n _ _ _ c d _ m) _ l) (hv (al hs)) ?_
 exact go (tg (a:=((),()))) h (al hs) p o f b q (q1 (RO w0 n)) (q1 k)
theorem TY (w0:World):∀ n:Nat,QF w0 (GW n)
 | 0=>fun _ _ _ _ _ _ h=>(nomatch h)
 | n+1=>Xn w0 (GW n) (TY w0 n) n
def GL (n:Nat) (h:Vl) (b:Vl):Option Bool :=
 (GW n h b).bind fun g =>
 some (decide (g=0))
theorem XJ (w0:World) (n:Nat) (B:Am) (Rw:Aq) (L:Ar) (a0:Vl) (a1:Vl) (r:Bool) (h:GL n a0 a1=some r) :
  ACalls Tryz.prog w0 13 [.agg (a0.cs),.agg (a1.cs)] ⟨B,Rw,L⟩ fun x st=>x = .val (.bool r)∧st=⟨B,Rw,L⟩:=by
 rw [GL] at h
 refine hd [.tmp 4] Tryz.func13 Tryz.ntmps13 fun M0 W0 e d c b g f hs=>?_
 simp only [AG]
 exact go (tg (a:=([2,3],[4],()))) h hs e d c b f (q1 (TY w0 n)) trivial
def NA (rec:Ty→Ty→Option Bool) (n:Nat) (g:Int × ByteArray × Int × Ty × List Vl) (b:Int × ByteArray × Int × Ty × List Vl):Option Bool :=
 if ((decide (g.1=b.1))&&(Eb g.2.1 b.2.1))&&(decide (g.2.2.1=b.2.2.1)) then
  (rec g.2.2.2.1 b.2.2.2.1).bind fun y =>
  if y then
   (IK n g.2.2.2.2 b.2.2.2.2 (fun (x0:Vl) (h:Vl)=>GL n x0 h)).bind fun q =>
   some (q)
  else
   some (false)
 else
  some (false)
theorem Zas (w0:World) (rec:Ty→Ty→Option Bool) (ih:∀ (B:Am) (Rw:Aq) (L:Ar) (a0:Ty) (a1:Ty) (r:Bool) (h:rec a0 a1=some r),ACalls Tryz.prog w0 187 [.agg (a0.cs),.agg (a1.cs)] ⟨B,Rw,L⟩ fun x st=>x = .val (.bool r)∧st=⟨B,Rw,L⟩) (n:Nat) (B:Am) (Rw:Aq) (L:Ar) (a0:Int × ByteArray × Int × Ty × List Vl) (a1:Int × ByteArray × Int × Ty × List Vl) (r:Bool) (h:NA rec n a0 a1=some r) :
  ACalls Tryz.prog w0 260 [.agg (Ak a0.1::(.val (.string a0.2.1)::(Ak a0.2.2.1::((a0.2.2.2.1.cs)++([.list (a0.2.2.2.2.map Bv) .none]))))),.agg (Ak a1.1::(.val (.string a1.2.1)::(Ak a1.2.2.1::((a1.2.2.2.1.cs)++([.list (a1.2.2.2.2.map Bv) .none])))))] ⟨B,Rw,L⟩ fun x st=>x = .val (.bool r)∧st=⟨B,Rw,L⟩:=by
 rw [NA] at h
 refine hd [.tmp 4] Tryz.func260 Tryz.ntmps260 fun M0 W0 m e d b v l hs=>?_
 simp only [AG]
 refine rg [2,3] hs ?_
 apply An;intro K2 c
 rcases Bool.eq_false_or_eq_true (((decide (a0.1=a1.1))&&(Eb a0.2.1 a1.2.1))&&(decide (a0.2.2.1=a1.2.2.1))) with hf3 | hf3
 ·replace h:=CP h hf3
  obtain ⟨q,f,h⟩:=bind_some h
  rcases Bool.eq_false_or_eq_true (q) with hf5 | hf5
  ·replace h:=CP h hf5
   obtain ⟨t,j,h⟩:=bind_some h
   have hs:=Ad hf3 hs
   have hs:=Ad hf5 hs
   refine rk 3 [4] (al hs) ?_
   refine As _ (ih _ _ _ a0.2.2.2.1 a1.2.2.2.1 _ f) (hv (al hs)) ?_
   refine nc (al hs) ?_
   refine As _ (P8 w0 n _ _ _ a0.2.2.2.2 a1.2.2.2.2 13 [] (fun (k:Vl) (g:Vl)=>GL n k g) (fun k g r s u i o p=>by exact XJ w0 n _ _ _ k g _ s) _ j) (hv (al hs)) ?_
   refine ne (al hs) c ?_
   clear c
   exact rt h hs b l
  ·replace h:=CO h hf5
   exact go (tg (a:=([4],()))) h (al (Ad hf5 (Ad hf3 hs))) m e d b l (q1 ih) (q1 c)
 ·replace h:=CO h hf3
  exact go (tg (a:=([4],()))) h (al (Ad hf3 hs)) m e d b l trivial (q1 c)
def H8 (n:Nat)  : Option Bool :=
 some (true)
def FQ (n:Nat) (y:List Ty) (a1:List Ty) (a2:Ty→Ty→Option Bool):Nat→Int→Option Bool
 | 0,_=>none
 | m+1,b =>
  if decide (b<(y.length:Int)) then
   (B1 y b).bind fun g =>
   (B1 a1 b).bind fun q =>
   (a2 g q).bind fun h =>
   if !h then
    some (false)
   else
    if BM (b+1) then
     (FQ n y a1 a2 m) (b+1)
    else none
  else
   H8 n 
def I8 (n:Nat) (g:List Ty) (b:List Ty) (h:Ty→Ty→Option Bool):Option Bool :=
 if !(decide ((g.length:Int)=(b.length:Int))) then
  some (false)
 else
  FQ n g b h n 0
theorem LL (w0:World) (n:Nat) (B:Am) (Rw:Aq) (L:Ar) (a0:List Ty) (a1:List Ty) (fa2:FuncId) (ca2:List AV) (a2:Ty→Ty→Option Bool) (ha2:∀ (x0:Ty) (x1:Ty) r,a2 x0 x1=some r→∀ B' rows,B <+: B'→Rw <+: rows→ACalls Tryz.prog w0 fa2 ([.agg (x0.cs),.agg (x1.cs)]++ca2) ⟨B',rows,L⟩ fun v s=>v = .val (.bool r)∧s=⟨B',rows,L⟩) (r:Bool) (h:I8 n a0 a1 a2=some r) :
  ACalls Tryz.prog w0 258 [.list (a0.map Ny) .none,.list (a1.map Ny) .none,.clo fa2 ca2] ⟨B,Rw,L⟩ fun x st=>x = .val (.bool r)∧st=⟨B,Rw,L⟩:=by
 rw [I8] at h
 refine hd [.tmp 6] Tryz.func258 Tryz.ntmps258 fun M0 W0 l i g c o f hs=>?_
 simp only [AG]
 have d:=CV (o (.clo fa2 ca2) (by simp))
 refine rg [0,1,2] hs ?_
 apply An;intro K2 j
 refine rg [0,1,2,14] hs ?_
 refine BN h hs ?_ ?_<;>intro hs h
 ·refine rg [6] hs ?_
  exact rt h hs c f
 refine sk [0,1,2] hs j ?_
 clear j
 refine AA (fun e st=>Ck e st B Rw L [] [] [] (H8 n  = some r)) ?_ ?_
 ·intro K8 k
  refine rg [1,2,15,16,17] hs ?_
  apply Ao
  refine AL (fun m e st=>∃ (b:Int),Ck e st B Rw L [(1,true,.list (a1.map Ny) .none),(2,true,.clo fa2 ca2),(15,true,.list (a0.map Ny) .none),(16,true,Ak (a0.length:Int)),(17,true,Ak b)] [] [] (FQ n a0 a1 a2 m b=some r)) n ⟨0,([]),Rw,ef hs,ef hs,f,h⟩ ?_
  rintro ml10 e st ⟨b,Xl10,Rl10,rfl,rfl,f,h⟩ Ul10 Vl10
  cases ml10 with
  | zero=>cases h
  | succ ml10 =>
  rw [FQ] at h
  refine AY l i g rfl c f (Kq d f) (Kq d f) ?_
  exact go (tg (a:=([1,2,15,16,17,18],([1,2,15,16,17],[1,2,7,8,15,16,17],[1,2,8,9,15,16,17],[1,2,15,16,17,30],([6],()),[1,2,15,16,17],[1,2,15,16,17],()),[],()))) h hs l i g c f (q1 ha2) (q2 k (fun e s=>Vl10 ml10 e s (Nat.lt_succ_self _)))
 ·clear h;rintro e st ⟨Xk7,Rk7,rfl,rfl,f,h⟩
  rw [H8] at h
  refine AY l i g rfl c f (Kq d f) (Kq d f) ?_
  refine rg [6] hs ?_
  exact rt h hs c f
def FX (n:Nat)  : Option Bool :=
 some (true)
def Ec (n:Nat) (y:List (Int × ByteArray × Int × Ty × List Vl)) (a1:List (Int × ByteArray × Int × Ty × List Vl)) (a2:(Int × ByteArray × Int × Ty × List Vl)→(Int × ByteArray × Int × Ty × List Vl)→Option Bool):Nat→Int→Option Bool
 | 0,_=>none
 | m+1,b =>
  if decide (b<(y.length:Int)) then
   (B1 y b).bind fun g =>
   (B1 a1 b).bind fun q =>
   (a2 g q).bind fun h =>
   if !h then
    some (false)
   else
    if BM (b+1) then
     (Ec n y a1 a2 m) (b+1)
    else none
  else
   FX n 
def Gn (n:Nat) (g:List (Int × ByteArray × Int × Ty × List Vl)) (b:List (Int × ByteArray × Int × Ty × List Vl)) (h:(Int × ByteArray × Int × Ty × List Vl)→(Int × ByteArray × Int × Ty × List Vl)→Option Bool):Option Bool :=
 if !(decide ((g.length:Int)=(b.length:Int))) then
  some (false)
 else
  Ec n g b h n 0
theorem Nw (w0:World) (n:Nat) (B:Am) (Rw:Aq) (L:Ar) (a0:List (Int × ByteArray × Int × Ty × List Vl)) (a1:List (Int × ByteArray × Int × Ty × List Vl)) (fa2:FuncId) (ca2:List AV) (a2:(Int × ByteArray × Int × Ty × List Vl)→(Int × ByteArray × Int × Ty × List Vl)→Option Bool) (ha2:∀ (x0:Int × ByteArray × Int × Ty × List Vl) (x1:Int × ByteArray × Int × Ty × List Vl) r,a2 x0 x1=some r→∀ B' rows,B <+: B'→Rw <+: rows→ACalls Tryz.prog w0 fa2 ([.agg (Ak x0.1::(.val (.string x0.2.1)::(Ak x0.2.2.1::((x0.2.2.2.1.cs)++([.list (x0.2.2.2.2.map Bv) .none]))))),.agg (Ak x1.1::(.val (.string x1.2.1)::(Ak x1.2.2.1::((x1.2.2.2.1.cs)++([.list (x1.2.2.2.2.map Bv) .none])))))]++ca2) ⟨B',rows,L⟩ fun v s=>v = .val (.bool r)∧s=⟨B',rows,L⟩) (r:Bool) (h:Gn n a0 a1 a2=some r) :
  ACalls Tryz.prog w0 259 [.list (a0.map ET) .none,.list (a1.map ET) .none,.clo fa2 ca2] ⟨B,Rw,L⟩ fun x st=>x = .val (.bool r)∧st=⟨B,Rw,L⟩:=by
 rw [Gn] at h
 refine hd [.tmp 6] Tryz.func259 Tryz.ntmps259 fun M0 W0 l i g c o f hs=>?_
 simp only [AG]
 have d:=CV (o (.clo fa2 ca2) (by simp))
 refine rg [0,1,2] hs ?_
 apply An;intro K2 j
 refine rg [0,1,2,14] hs ?_
 refine BN h hs ?_ ?_<;>intro hs h
 ·refine rg [6] hs ?_
  exact rt h hs c f
 refine sk [0,1,2] hs j ?_
 clear j
 refine AA (fun e st=>Ck e st B Rw L [] [] [] (FX n  = some r)) ?_ ?_
 ·intro K8 k
  refine rg [1,2,15,16,17] hs ?_
  apply Ao
  refine AL (fun m e st=>∃ (b:Int),Ck e st B Rw L [(1,true,.list (a1.map ET) .none),(2,true,.clo fa2 ca2),(15,true,.list (a0.map ET) .none),(16,true,Ak (a0.length:Int)),(17,true,Ak b)] [] [] (Ec n a0 a1 a2 m b=some r)) n ⟨0,([]),Rw,ef hs,ef hs,f,h⟩ ?_
  rintro ml10 e st ⟨b,Xl10,Rl10,rfl,rfl,f,h⟩ Ul10 Vl10
  cases ml10 with
  | zero=>cases h
  | succ ml10 =>
  rw [Ec] at h
  refine AY l i g rfl c f (Kq d f) (Kq d f) ?_
  exact go (tg (a:=([1,2,15,16,17,18],([1,2,15,16,17],[1,2,7,8,15,16,17],[1,2,8,9,15,16,17],[1,2,15,16,17,30],([6],()),[1,2,15,16,17],[1,2,15,16,17],()),[],()))) h hs l i g c f (q1 ha2) (q2 k (fun e s=>Vl10 ml10 e s (Nat.lt_succ_self _)))
 ·clear h;rintro e st ⟨Xk7,Rk7,rfl,rfl,f,h⟩
  rw [FX] at h
  refine AY l i g rfl c f (Kq d f) (Kq d f) ?_
  refine rg [6] hs ?_
  exact rt h hs c f
def Jk (n:Nat)  : Option Bool :=
 some (true)
def GA (n:Nat) (q:List ByteArray) (y:List ByteArray):Nat→Int→Option Bool
 | 0,_=>none
 | m+1,b =>
  if decide (b<(q.length:Int)) then
   (B1 q b).bind fun g =>
   (B1 y b).bind fun h =>
   if !(Eb g h) then
    some (false)
   else
    if BM (b+1) then
     (GA n q y m) (b+1)
    else none
  else
   Jk n 
def JR (n:Nat) (g:List ByteArray) (b:List ByteArray):Option Bool :=
 if !(decide ((g.length:Int)=(b.length:Int))) then
  some (false)
 else
  GA n g b n 0
theorem Jq (w0:World) (n:Nat) (B:Am) (Rw:Aq) (L:Ar) (a0:List ByteArray) (a1:List ByteArray) (r:Bool) (h:JR n a0 a1=some r) :
  ACalls Tryz.prog w0 257 [.list (a0.map V6) .none,.list (a1.map V6) .none] ⟨B,Rw,L⟩ fun x st=>x = .val (.bool r)∧st=⟨B,Rw,L⟩:=by
 rw [JR] at h
 refine hd [.tmp 4] Tryz.func257 Tryz.ntmps257 fun M0 W0 k g f c l d hs=>?_
 simp only [AG]
 refine rg [0,1] hs ?_
 apply An;intro K2 i
 refine rg [0,1,10] hs ?_
 refine BN h hs ?_ ?_<;>intro hs h
 ·refine rg [4] hs ?_
  exact rt h hs c d
 refine sk [0,1] hs i ?_
 clear i
 refine AA (fun e st=>Ck e st B Rw L [] [] [] (Jk n  = some r)) ?_ ?_
 ·intro K8 j
  refine rg [0,1,12,13] hs ?_
  apply Ao
  refine AL (fun m e st=>∃ (b:Int),Ck e st B Rw L [(0,true,.list (a0.map V6) .none),(1,true,.list (a1.map V6) .none),(12,true,Ak (a0.length:Int)),(13,true,Ak b)] [] [] (GA n a0 a1 m b=some r)) n ⟨0,([]),Rw,ef hs,ef hs,d,h⟩ ?_
  rintro ml10 e st ⟨b,Xl10,Rl10,rfl,rfl,d,h⟩ Ul10 Vl10
  cases ml10 with
  | zero=>cases h
  | succ ml10 =>
  rw [GA] at h
  exact go (tg (a:=([0,1,12,13,14],([0,1,12,13],[0,1,5,12,13],[9,0,1,12,13,24],([4],()),[0,1,12,13],[0,1,12,13],()),[],()))) h hs k g f c d trivial (q2 j (fun e s=>Vl10 ml10 e s (Nat.lt_succ_self _)))
 ·clear h;rintro e st ⟨Xk7,Rk7,rfl,rfl,d,h⟩
  rw [Jk] at h
  refine td k g f c d ?_
  refine rg [4] hs ?_
  exact rt h hs c d
def UQ (rec:Ty→Ty→Option Bool) (n:Nat) (g:Ty) (b:Ty):Option Bool :=
 if (((decide (g.kind=b.kind))&&(decide (g.min=b.min)))&&(decide (g.max=b.max)))&&(decide (g.scale=b.scale)) then
  (JR n g.words b.words).bind fun y4 =>
  if y4 then
   (I8 n g.elem b.elem (fun (q:Ty) (h:Ty)=>rec q h)).bind fun y =>
   if y then
    (Gn n g.fields b.fields (fun (q:Int × ByteArray × Int × Ty × List Vl) (h:Int × ByteArray × Int × Ty × List Vl)=>NA rec n q h)).bind fun y8 =>
    some (y8)
   else
    some (false)
  else
   some (false)
 else
  some (false)
def Rb:Nat→Ty→Ty→Option Bool
 | 0,_,_=>none
 | n+1,g,b=>UQ (Rb n) n g b
def Up (w0:World) (F:Ty→Ty→Option Bool):Prop:=∀ (B:Am) (Rw:Aq) (L:Ar) (g:Ty) (b:Ty) (r:Bool),F g b=some r→ACalls Tryz.prog w0 187 [.agg (g.cs),.agg (b.cs)] ⟨B,Rw,L⟩ fun x st=>x = .val (.bool r)∧st=⟨B,Rw,L⟩
theorem Z7 (w0:World) (rec:Ty→Ty→Option Bool) (ih:Up w0 rec) (n:Nat):Up w0 (UQ rec n):=by
 intro B Rw L a0 a1 r h
 rw [UQ] at h
 refine hd [.tmp 4] Tryz.func187 Tryz.ntmps187 fun M0 W0 q i g b x p hs=>?_
 simp only [AG]
 refine rg [2,3] hs ?_
 apply An;intro K2 d
 rcases Bool.eq_false_or_eq_true ((((decide (a0.kind=a1.kind))&&(decide (a0.min=a1.min)))&&(decide (a0.max=a1.max)))&&(decide (a0.scale=a1.scale))) with hf3 | hf3
 ·replace h:=CP h hf3
  obtain ⟨v,m,h⟩:=bind_some h
  rcases Bool.eq_false_or_eq_true (v) with hf5 | hf5
  ·replace h:=CP h hf5
   obtain ⟨u,k,h⟩:=bind_some h
   rcases Bool.eq_false_or_eq_true (u) with hf7 | hf7
   ·replace h:=CP h hf7
    obtain ⟨w,s,h⟩:=bind_some h
    have hs:=Ad hf3 hs
    have hs:=Ad hf5 hs
    have hs:=Ad hf7 hs
    refine rk 4 [4] (al hs) ?_
    refine As _ (Jq w0 n _ _ _ a0.words a1.words _ m) (hv (al hs)) ?_
    refine nc (al hs) ?_
    refine As _ (LL w0 n _ _ _ a0.elem a1.elem 187 [] (fun (c:Ty) (e:Ty)=>rec c e) (fun c e r o t f j l=>by exact ih _ _ _ c e _ o) _ k) (hv (al hs)) ?_
    refine nc (al hs) ?_
    refine As _ (Nw w0 n _ _ _ a0.fields a1.fields 260 [] (fun (c:Int × ByteArray × Int × Ty × List Vl) (e:Int × ByteArray × Int × Ty × List Vl)=>NA rec n c e) (fun c e r o t f j l=>by exact Zas w0 rec ih n _ _ _ c e _ o) _ s) (hv (al hs)) ?_
    refine ne (al hs) d ?_
    clear d
    exact rt h hs b p
   ·replace h:=CO h hf7
    have hs:=Ad hf3 hs
    have hs:=Ad hf5 hs
    have hs:=Ad hf7 hs
    refine rk 4 [4] (al hs) ?_
    refine As _ (Jq w0 n _ _ _ a0.words a1.words _ m) (hv (al hs)) ?_
    refine nc (al hs) ?_
    refine As _ (LL w0 n _ _ _ a0.elem a1.elem 187 [] (fun (c:Ty) (e:Ty)=>rec c e) (fun c e r o t f j l=>by exact ih _ _ _ c e _ o) _ k) (hv (al hs)) ?_
    exact go (tg (a:=((),()))) h (al hs) q i g b p trivial (q1 d)
  ·replace h:=CO h hf5
   exact go (tg (a:=([4],()))) h (al (Ad hf5 (Ad hf3 hs))) q i g b p (q1 (Jq w0 n)) (q1 d)
 ·replace h:=CO h hf3
  exact go (tg (a:=([4],()))) h (al (Ad hf3 hs)) q i g b p trivial (q1 d)
theorem XD (w0:World):∀ n:Nat,Up w0 (Rb n)
 | 0=>fun _ _ _ _ _ _ h=>(nomatch h)
 | n+1=>Z7 w0 (Rb n) (XD w0 n) n
theorem Zgd {a b:Nat}:decide ((a:Int)≤(b:Int))=decide (a≤b):=decide_eq_decide.2 ⟨fun h=>by omega,fun h=>by omega⟩
theorem Ws (n:Nat) (a b:List (Vl)) (f:Vl→Vl→Option Int) (hl:a.length≤1000000000)
  (hr:∀ p∈a,∀ q∈b,∃ c,f p q=some c∧(c=0↔p=q)):∀ (k m i:Nat),i+k=a.length→k<m→∃ c,CB n a b f m i=some c∧(c=0↔a.drop i=b.drop i)
 | k,0,i,_,h=>absurd h (Nat.not_lt_zero _)
 | 0,m+1,i,hi,_=>by
  rw [CB,AC,Ac]
  simp only [Bool.false_eq_true,if_false]
  rw [E1,AC,List.drop_eq_nil_of_le (show a.length≤i by omega)]
  by_cases h:a.length<b.length
  ·rw [Ag h]
   simp only [if_true]
   exact ⟨-1,rfl,⟨fun h=>absurd h (by decide),fun e=>by have:=List.drop_eq_nil_iff.1 e.symm;omega⟩⟩
  ·rw [Af h]
   simp only [Bool.false_eq_true,if_false]
   exact ⟨0,rfl,⟨fun _=>(List.drop_eq_nil_of_le (by omega)).symm,fun _=>rfl⟩⟩
 | k+1,m+1,i,hi,hm=>by
  have g:i<a.length:=by omega
  rw [CB,AC,Ag g]
  simp only [if_true,AM g,Ae,Zgd]
  by_cases d:i<b.length
  ·rw [Af (show ¬ b.length≤i by omega)]
   simp only [Bool.false_eq_true,if_false,AM d,Ae]
   obtain ⟨c,e,j⟩:=hr _ (List.getElem_mem g) _ (List.getElem_mem d)
   rw [e,Vd _ _ i g d]
   simp only [Ae]
   by_cases h0:c=0
   ·rw [Ag h0]
    simp only [Bool.not_true,Bool.false_eq_true,if_false]
    rw [Ah (AK (by omega))]
    obtain ⟨l,o,d⟩:=Ws n a b f hl hr k m (i+1) (by omega) (by omega)
    exact ⟨l,o,d.trans ⟨fun h=>⟨j.1 h0,h⟩,fun h=>h.2⟩⟩
   ·rw [Af h0]
    simp only [Bool.not_false,if_true]
    exact ⟨c,rfl,⟨fun h=>absurd h h0,fun h=>absurd (j.2 h.1) h0⟩⟩
  ·rw [Ag (show b.length≤i by omega)]
   simp only [if_true]
   refine ⟨1,rfl,⟨fun h=>absurd h (by decide),fun e=>?_⟩⟩
   rw [List.drop_eq_nil_of_le (show b.length≤i by omega)] at e
   have:=List.drop_eq_nil_iff.1 e
   omega
theorem Zcp (n:Nat) (a b:List (Vl)) (f:Vl→Vl→Option Int) (hl:a.length≤1000000000) (hn:a.length<n)
  (hr:∀ p∈a,∀ q∈b,∃ c,f p q=some c∧(c=0↔p=q)):∃ c,Fj n a b f=some c∧(c=0↔a=b) :=
 Ws n a b f hl hr a.length n 0 (by omega) hn
theorem XP (n:Nat) (a b:List (ByteArray × Vl)) (f:ByteArray × Vl→ByteArray × Vl→Option Int) (hl:a.length≤1000000000)
  (hr:∀ p∈a,∀ q∈b,∃ c,f p q=some c∧(c=0↔p=q)):∀ (k m i:Nat),i+k=a.length→k<m→∃ c,Cm n a b f m i=some c∧(c=0↔a.drop i=b.drop i)
 | k,0,i,_,h=>absurd h (Nat.not_lt_zero _)
 | 0,m+1,i,hi,_=>by
  rw [Cm,AC,Ac]
  simp only [Bool.false_eq_true,if_false]
  rw [EV,AC,List.drop_eq_nil_of_le (show a.length≤i by omega)]
  by_cases h:a.length<b.length
  ·rw [Ag h]
   simp only [if_true]
   exact ⟨-1,rfl,⟨fun h=>absurd h (by decide),fun e=>by have:=List.drop_eq_nil_iff.1 e.symm;omega⟩⟩
  ·rw [Af h]
   simp only [Bool.false_eq_true,if_false]
   exact ⟨0,rfl,⟨fun _=>(List.drop_eq_nil_of_le (by omega)).symm,fun _=>rfl⟩⟩
 | k+1,m+1,i,hi,hm=>by
  have g:i<a.length:=by omega
  rw [Cm,AC,Ag g]
  simp only [if_true,AM g,Ae,Zgd]
  by_cases d:i<b.length
  ·rw [Af (show ¬ b.length≤i by omega)]
   simp only [Bool.false_eq_true,if_false,AM d,Ae]
   obtain ⟨c,e,j⟩:=hr _ (List.getElem_mem g) _ (List.getElem_mem d)
   rw [e,Vd _ _ i g d]
   simp only [Ae]
   by_cases h0:c=0
   ·rw [Ag h0]
    simp only [Bool.not_true,Bool.false_eq_true,if_false]
    rw [Ah (AK (by omega))]
    obtain ⟨l,o,d⟩:=XP n a b f hl hr k m (i+1) (by omega) (by omega)
    exact ⟨l,o,d.trans ⟨fun h=>⟨j.1 h0,h⟩,fun h=>h.2⟩⟩
   ·rw [Af h0]
    simp only [Bool.not_false,if_true]
    exact ⟨c,rfl,⟨fun h=>absurd h h0,fun h=>absurd (j.2 h.1) h0⟩⟩
  ·rw [Ag (show b.length≤i by omega)]
   simp only [if_true]
   refine ⟨1,rfl,⟨fun h=>absurd h (by decide),fun e=>?_⟩⟩
   rw [List.drop_eq_nil_of_le (show b.length≤i by omega)] at e
   have:=List.drop_eq_nil_iff.1 e
   omega
theorem Zdg (n:Nat) (a b:List (ByteArray × Vl)) (f:ByteArray × Vl→ByteArray × Vl→Option Int) (hl:a.length≤1000000000) (hn:a.length<n)
  (hr:∀ p∈a,∀ q∈b,∃ c,f p q=some c∧(c=0↔p=q)):∃ c,Fg n a b f=some c∧(c=0↔a=b) :=
 XP n a b f hl hr a.length n 0 (by omega) hn
theorem Zjn (n:Nat) (l:List Int) (hl:l.length≤1000000000):∀ (k m i:Nat),i+k=l.length→k<m→∃ c,Gv n l m i=some c∧(c=0↔∀ x∈l.drop i,x=0)
 | k,0,i,_,h=>absurd h (Nat.not_lt_zero _)
 | 0,m+1,i,hi,_=>by
  rw [Gv,AC,Ac]
  simp only [Bool.false_eq_true,if_false]
  exact ⟨0,rfl,by rw [List.drop_eq_nil_of_le (by omega)];simp⟩
 | k+1,m+1,i,hi,hm=>by
  have a:i<l.length:=by omega
  rw [Gv,AC,Ag a]
  simp only [if_true,AM a,Ae]
  rw [List.drop_eq_getElem_cons a]
  by_cases h0:l[i]=0
  ·rw [Ag h0]
   simp only [Bool.not_true,Bool.false_eq_true,if_false]
   rw [Ah (AK (by omega))]
   obtain ⟨b,e,d⟩:=Zjn n l hl k m (i+1) (by omega) (by omega)
   exact ⟨b,e,d.trans ⟨fun h x hx=>by rcases List.mem_cons.1 hx with rfl | hx;exact h0;exact h x hx,fun h x hx=>h x (List.mem_cons_of_mem _ hx)⟩⟩
  ·rw [Af h0]
   simp only [Bool.not_false,if_true]
   exact ⟨_,rfl,⟨fun h=>absurd h h0,fun h=>absurd (h _ (List.mem_cons_self ..)) h0⟩⟩
theorem Zjt (n:Nat) (l:List Int) (hl:l.length<n) (h2:l.length≤1000000000):∃ c,J0 n l=some c∧(c=0↔∀ x∈l,x=0):=Zjn n l h2 l.length n 0 (by omega) hl
theorem Ze3 (a b:Int):(if a<b then (-1:Int) else if a=b then 0 else 1)=0↔a=b:=by
 by_cases h1:a<b
 ·rw [Ah h1];omega
 ·rw [Ai h1]
  by_cases h2:a=b
  ·simp [h2]
  ·simp [h2]
theorem Vl.lens' (v:Vl):v.list.length<v.size∧v.fields.length<v.size:=by have:=Pl v.list;have:=Nv v.fields;have:=v.size_eq;omega
theorem Qc:∀ (n:Nat) (a b:Vl),a.size+10≤n→a.size≤1000000000→∃ c,GW n a b=some c∧(c=0↔a=b)
 | 0,a,b,h,_=>by omega
 | n+1,a,b,h,hs=>by
  have w:=a.lens'
  rw [GW,NK]
  obtain ⟨o,v,s⟩:=Zcp n a.list b.list (fun x y=>GW n x y) (by omega) (by omega) (fun p d q _=>Qc n p q (by have:=a.list_size p d;omega) (by have:=a.list_size p d;omega))
  obtain ⟨f,j,i⟩:=Zdg n a.fields b.fields (fun x y=>HQ (GW n) n x y) (by omega) (by omega) (fun p d q _=>by
   obtain ⟨c,e,g⟩:=Qc n p.2 q.2 (by have:=a.field_size p d;omega) (by have:=a.field_size p d;omega)
   obtain ⟨f,j,i⟩:=Zjt n [E6 p.1 q.1,c] (by simp;omega) (by simp)
   refine ⟨f,by rw [HQ,e,Ae,j];rfl,i.trans ?_⟩
   simp only [List.mem_cons,List.not_mem_nil,or_false,forall_eq_or_imp,forall_eq,KW,g]
   exact ⟨fun h=>Prod.ext h.1 h.2,fun h=>by rw [h];exact ⟨rfl,rfl⟩⟩)
  rw [v,Ae,j,Ae]
  obtain ⟨c,e,g⟩:=Zjt n [if a.kind<b.kind then -1 else if a.kind=b.kind then 0 else 1,if a.int<b.int then -1 else if a.int=b.int then 0 else 1,if a.scale<b.scale then -1 else if a.scale=b.scale then 0 else 1,E6 a.text b.text,o,f] (by simp;omega) (by simp)
  refine ⟨c,by rw [e];rfl,g.trans ?_⟩
  simp only [List.mem_cons,List.not_mem_nil,or_false,forall_eq_or_imp,forall_eq,KW,Ze3,s,i]
  exact ⟨fun ⟨l,u,r,m,k,t⟩=>Vl.ext' l u r m k t,fun h=>by rw [h];exact ⟨rfl,rfl,rfl,rfl,rfl,rfl⟩⟩
theorem Ze6 (n:Nat) (a b:Vl) (h:a.size+10≤n) (hs:a.size≤1000000000):∃ c,GL n a b=some c∧(c=true↔a=b):=by
 obtain ⟨c,e,d⟩:=Qc n a b h hs
 exact ⟨decide (c=0),by rw [GL,e];rfl,by rw [decide_eq_true_eq];exact d⟩
theorem Zj5 {v:Vl} (h:¬ AO v=true):(¬ ((1≤v.kind∧v.kind≤3)∨v.kind=6∨v.kind=7)→v.int=0)∧(v.kind≠3→v.scale=0)∧(¬ (v.kind=4∨v.kind=5∨v.kind=10)→Eb v.text ⟨#[]⟩=true)∧(v.kind≠8→v.kind≠10→v.list.length=0)∧(v.kind≠9→v.fields.length=0):=by
 simp only [AO,Bool.or_eq_true,Bool.and_eq_true,Bool.not_eq_true',Bool.or_eq_false_iff,Bool.and_eq_false_iff,decide_eq_false_iff_not,decide_eq_true_eq,not_or,not_and] at h
 obtain ⟨⟨⟨⟨c,f⟩,e⟩,a⟩,d⟩:=h
 refine ⟨fun q=>?_,fun q=>?_,fun q=>?_,fun q b=>?_,fun q=>?_⟩
 ·by_cases z:v.int=0
  ·exact z
  ·exact absurd z (c (by omega))
 ·by_cases z:v.scale=0
  ·exact z
  ·exact absurd z (f q)
 ·cases z:Eb v.text ⟨#[]⟩ with
  | true=>rfl
  | false=>exact absurd z (e (by omega))
 ·have:=a ⟨q,b⟩;omega
 ·have:=d q;omega
theorem ZdQ:∀ (l:List (ByteArray × Vl)) (o:Option ByteArray),Oy o (l.map Prod.fst)=0→SS l∧∀ w,o=some w→∀ p∈l,E6 w p.1<0
 | [],o,_=>⟨.nil,by simp⟩
 | p::r,o,h=>by
  rw [List.map_cons] at h
  have a:Oy (some p.1) (r.map Prod.fst)=0∧∀ w,o=some w→E6 w p.1<0:=by
   cases o with
   | none =>
    rw [Oy] at h
    split at h
    ·exact ⟨h,fun w q=>by cases q⟩
    ·cases h
   | some w =>
    rw [Oy] at h
    split at h
    ·split at h
     ·cases h
     ·split at h
      ·cases h
      ·rename_i e1 e2
       refine ⟨h,fun u q=>?_⟩
       cases q
       rw [Rn,decide_eq_true_eq] at e2
       have e:=OB w p.1
       have:E6 p.1 w≠0:=fun z=>e1 ((Db _ _).2 ((KW _ _).1 z))
       omega
    ·cases h
  obtain ⟨d,b⟩:=ZdQ r (some p.1) a.1
  refine ⟨List.pairwise_cons.2 ⟨fun q hq=>b p.1 rfl q hq,d⟩,fun w c q hq=>?_⟩
  rcases List.mem_cons.1 hq with rfl | hq
  ·exact a.2 w c
  ·exact Rr (a.2 w c) (b p.1 rfl q hq)
theorem RX {v:Vl} (h:Ee v=0):AW v=true:=by
 obtain ⟨a,b⟩:=KY h
 obtain ⟨u1,u2,u3,u4,u5⟩:=Zj5 b
 have c:¬ A3 v=true:=fun q=>by rw [Ee,Ah q] at h;exact absurd h (by decide)
 rw [Ee,Ai c,Ai a,Ai b] at h
 rcases Gs a with tk | tk | tk | tk | tk | tk | tk | tk | tk | tk
 ·rw [Ah tk] at h
  split at h
  ·cases h
  ·rename_i q
   rw [Bd] at q
   simp only [Bool.or_eq_true,decide_eq_true_eq,not_or] at q
   have:v.int=0∨v.int=1:=by omega
   rcases this with z | z<;>simp [AW,bare,tk,u2,u3,u4,u5,z]
 ·simp [AW,bare,tk,u2,u3,u4,u5]
 ·simp [AW,bare,tk,u2,u3,u4,u5]
 ·rw [Aa,Aa,Aa,Ah tk] at h
  split at h
  ·cases h
  ·split at h
   ·rename_i q;simp [AW,bare,tk,u1,u2,u3,u4,u5,q]
   ·cases h
 ·simp [AW,bare,tk,u1,u2,u3,u4,u5]
 ·simp [AW,bare,tk,u1,u2,u3,u4,u5]
 ·simp [AW,bare,tk,u1,u2,u3,u4,u5]
 ·simp [AW,bare,tk,u1,u2,u3,u4,u5]
 ·rw [Aa,Aa,Aa,Aa,Aa,Aa,Aa,Aa,Ah tk] at h
  split at h
  ·cases h
  ·have:=(Zy v.fields).2 (ZdQ v.fields none h).1
   simp [AW,bare,tk,u1,u2,u3,u4,u5,this]
 ·rw [Aa,Aa,Aa,Aa,Aa,Aa,Aa,Aa,Aa] at h
  split at h
  ·split at h
   ·cases h
   ·split at h
    ·cases h
    ·have:v.list.length=1:=by omega
     simp [AW,bare,tk,u1,u2,u3,u4,u5,this]
  ·cases h
def Zbh (e:Nat) (t:Ty) (v:Vl):Prop:=Du e t v=true∧C4 e t v=v
theorem KZ {t:Ty} {v:Vl} (k:1≤t.kind∧t.kind≤10) (hk:v.kind=t.kind) (hf:AW v=true):¬ ((t.kind<1∨10<t.kind)∨v.kind≠t.kind∨AW v=false):=by
 rintro (q | q | q)
 ·omega
 ·exact q hk
 ·rw [hf] at q;cases q
theorem Zcr {t:Ty} {v:Vl} (hk:v.kind=t.kind) (hf:AW v=true):¬ (v.kind≠t.kind∨AW v=false):=by
 rintro (q | q)
 ·exact q hk
 ·rw [hf] at q;cases q
theorem Zcb {f:Ty→Vl→Vl} {t:Ty} {v:Vl} (h8:t.kind≠8) (h9:t.kind≠9) (h10:t.kind≠10):Ey f t v=v:=by rw [Ey,Ai h8,Ai h9,Ai h10]
theorem Oz {e:Nat} {t:Ty} {v:Vl} (h8:t.kind≠8) (h9:t.kind≠9) (h10:t.kind≠10) (h:Du (e+1) t v=true):Zbh (e+1) t v:=by
 refine ⟨h,?_⟩
 rw [C4]
 split
 ·rfl
 ·exact Zcb h8 h9 h10
theorem Zb3 {α:Type} {l:List α} {f:α→α} (h:∀ x∈l,f x=x):l.map f=l:=by
 conv=>rhs;rw [←List.map_id l]
 exact List.map_congr_left fun x a=>h x a
theorem ZeK {e:Nat} {t x:Ty} {v:Vl} (tk:t.kind=8) (vk:v.kind=8) (hf:AW v=true) (hx:t.elem=[x]) (hb:On v.list.length t=true) (h:∀ u∈v.list,Zbh e x u):Zbh (e+1) t v:=by
 constructor
 ·rw [Du,Ai (KZ (by omega) (by omega) hf),Aa,Aa,Aa,Aa,Ah tk,hb,Bool.true_and,List.all_eq_true]
  intro u a
  rw [hx];exact (h u a).1
 ·rw [C4,Ai (Zcr (by omega) hf),Aa,Ey,Ah tk,hx]
  simp only
  rw [Zb3 fun u a=>(h u a).2,Vl.eta]
theorem Zd6 {e:Nat} {t:Ty} {v x:Vl} {p:TF} (tk:t.kind=10) (vk:v.kind=10) (hf:AW v=true) (hp:A7 t v.text=some p) (hx:v.list=[x]) (h:Zbh e p.2.2.2.1 x):Zbh (e+1) t v:=by
 constructor
 ·rw [Du,Ai (KZ (by omega) (by omega) hf),Aa,Aa,Aa,Aa,Aa,Aa,Ah tk,hp,hx]
  exact h.1
 ·rw [C4,Ai (Zcr (by omega) hf),Aa,Ey,Aa,Aa,Ah tk,hp,hx]
  simp only
  rw [h.2,←hx,Vl.eta]
theorem ZdM:∀ (ps:List TF) (l:List (ByteArray × Vl)),(∀ p∈ps,p.2.2.1=3→inN l p.2.1=true)→Qk ps l=l
 | [],l,_=>rfl
 | p::ps,l,h=>by
  rw [Qk,ZgP]
  have ih:=ZdM ps l fun q a=>h q (List.mem_cons_of_mem _ a)
  by_cases c:p.2.2.1=3∧p.2.2.2.2.length=1
  ·rw [Ah c,List.getElem?_eq_getElem (by omega)]
   simp only
   rw [Ah (h p (List.mem_cons_self ..) c.1)]
   exact ih
  ·rw [Ai c];exact ih
theorem Jm {v:Vl} (hs:SS v.fields) {q:ByteArray × Vl} (hq:q∈v.fields):DG v q.1=some q.2:=by
 rw [DG]
 cases c:v.fields.find? (fun x=>Eb x.1 q.1) with
 | none =>
  rw [List.find?_eq_none] at c
  exact absurd (Cj q.1) (c q hq)
 | some z =>
  have e:=List.mem_of_find?_eq_some c
  have d:z.1=q.1:=(Db _ _).1 (List.find?_some (p:=fun x:ByteArray × Vl=>Eb x.1 q.1) c)
  have:z=q:=by
   obtain ⟨i,b,rfl⟩:=List.mem_iff_getElem.1 e
   obtain ⟨j,a,rfl⟩:=List.mem_iff_getElem.1 hq
   rcases Nat.lt_trichotomy i j with w | w | w
   ·have:=List.pairwise_iff_getElem.1 hs i j b a w
    rw [d,JB] at this;omega
   ·subst w;rfl
   ·have:=List.pairwise_iff_getElem.1 hs j i a b w
    rw [d,JB] at this;omega
  rw [this];rfl
theorem ZcS {v y:Vl} {w:ByteArray} (h:DG v w=some y):inN v.fields w=true:=by
 obtain ⟨q,a,e,_⟩:=IC h
 exact MF.2 ⟨q,a,e⟩
theorem Zfy {e:Nat} {t:Ty} {v:Vl} (tk:t.kind=9) (vk:v.kind=9) (hf:AW v=true) (h1:∀ p∈t.fields,(∃ y,DG v p.2.1=some y∧Zbh e p.2.2.2.1 y)∨(DG v p.2.1=none∧p.2.2.1=2)) (h2:∀ q∈v.fields,(A7 t q.1).isSome=true):Zbh (e+1) t v:=by
 have hs:=Ky hf vk
 constructor
 ·rw [Du,Ai (KZ (by omega) (by omega) hf),Aa,Aa,Aa,Aa,Aa,Ah tk,Bool.and_eq_true,List.all_eq_true,List.all_eq_true]
  refine ⟨fun p a=>?_,h2⟩
  rcases h1 p a with ⟨y,hy,hd⟩ | ⟨hy,hd⟩
  ·rw [hy];exact hd.1
  ·rw [hy];exact Ag hd
 ·have f:Ey (C4 e) t v=v:=by
   rw [Ey,Aa,Ah tk]
   refine (congrArg (Ya v) (Zb3 (l:=v.fields) fun q d=>?_)).trans (Vl.eta v)
   split
   ·rename_i p c
    obtain ⟨a,b⟩:=BC c
    have hv:=Jm hs d
    rcases h1 p a with ⟨y,hy,hd⟩ | ⟨hy,_⟩
    ·rw [b,hv] at hy
     cases hy
     rw [hd.2]
    ·rw [b,hv] at hy;cases hy
   ·rfl
  rw [C4,Ai (Zcr (by omega) hf),Ah tk,f,ZdM t.fields v.fields fun p a g=>?_]
  ·exact Vl.eta v
  ·rcases h1 p a with ⟨y,hy,_⟩ | ⟨_,h⟩
   ·exact ZcS hy
   ·omega
def Gq (rec:Ty→Ty→Option Bool) (n:Nat) (q:Ty) (b:Int × ByteArray × Int × Ty × List Vl):Option Bool :=
 (C9 n q.fields b.1).bind fun g =>
 if !g.2 then
  some (!(decide (b.2.2.1=1)))
 else
  (rec g.1.2.2.2.1 b.2.2.2.1).bind fun h =>
  some (h&&(!((decide (b.2.2.1=1))&&(decide (g.1.2.2.1=2)))))
theorem Qe (w0:World) (rec:Ty→Ty→Option Bool) (ih:∀ (B:Am) (Rw:Aq) (L:Ar) (a0:Ty) (a1:Ty) (r:Bool) (h:rec a0 a1=some r),ACalls Tryz.prog w0 43 [.agg (a0.cs),.agg (a1.cs)] ⟨B,Rw,L⟩ fun x st=>x = .val (.bool r)∧st=⟨B,Rw,L⟩) (n:Nat) (B:Am) (Rw:Aq) (L:Ar) (a0:Ty) (a1:Int × ByteArray × Int × Ty × List Vl) (r:Bool) (h:Gq rec n a0 a1=some r) :
  ACalls Tryz.prog w0 113 [.agg (a0.cs),.agg (Ak a1.1::(.val (.string a1.2.1)::(Ak a1.2.2.1::((a1.2.2.2.1.cs)++([.list (a1.2.2.2.2.map Bv) .none])))))] ⟨B,Rw,L⟩ fun x st=>x = .val (.bool r)∧st=⟨B,Rw,L⟩:=by
 rw [Gq] at h
 refine hd [.tmp 4] Tryz.func113 Tryz.ntmps113 fun M0 W0 e d c b g f hs=>?_
 simp only [AG]
 exact go (tg (a:=([2,3],[3,5,6],[3,5,16],([4],()),[3,5],[4],()))) h hs e d c b f (q2 (EO w0 n) ih) trivial
def Dv (rec:Ty→Ty→Option Bool) (n:Nat) (h:Int × ByteArray × Int × Ty × List Vl) (b:Ty):Option Bool :=
 (Gq rec n b h).bind fun g =>
 some (!g)
theorem Pq (w0:World) (rec:Ty→Ty→Option Bool) (ih:∀ (B:Am) (Rw:Aq) (L:Ar) (a0:Ty) (a1:Ty) (r:Bool) (h:rec a0 a1=some r),ACalls Tryz.prog w0 43 [.agg (a0.cs),.agg (a1.cs)] ⟨B,Rw,L⟩ fun x st=>x = .val (.bool r)∧st=⟨B,Rw,L⟩) (n:Nat) (B:Am) (Rw:Aq) (L:Ar) (a0:Int × ByteArray × Int × Ty × List Vl) (la1:Nat) (a1:Ty) (hla1:B[la1]? = some (a1.cs)) (r:Bool) (h:Dv rec n a0 a1=some r) :
  ACalls Tryz.prog w0 112 [.agg (Ak a0.1::(.val (.string a0.2.1)::(Ak a0.2.2.1::((a0.2.2.2.1.cs)++([.list (a0.2.2.2.2.map Bv) .none]))))),.box la1 0] ⟨B,Rw,L⟩ fun x st=>x = .val (.bool r)∧st=⟨B,Rw,L⟩:=by
 rw [Dv] at h
 refine hd [.tmp 3] Tryz.func112 Tryz.ntmps112 fun M0 W0 f e d b i g hs=>?_
 simp only [AG]
 have c:=(Aj.1 hla1).1
 have hs:=Ad (Aw hla1) hs
 exact go (tg (a:=([1,2],[3],()))) h hs f e d b g (q1 (Qe w0 rec ih n)) trivial
def FM (rec:Ty→Ty→Option Bool) (n:Nat) (g:Int × ByteArray × Int × Ty × List Vl) (h:Ty):Option Bool :=
 (C9 n h.fields g.1).bind fun b =>
 if b.2 then
  (rec g.2.2.2.1 b.1.2.2.2.1).bind fun q =>
  some (q)
 else
  some (false)
theorem P5 (w0:World) (rec:Ty→Ty→Option Bool) (ih:∀ (B:Am) (Rw:Aq) (L:Ar) (a0:Ty) (a1:Ty) (r:Bool) (h:rec a0 a1=some r),ACalls Tryz.prog w0 43 [.agg (a0.cs),.agg (a1.cs)] ⟨B,Rw,L⟩ fun x st=>x = .val (.bool r)∧st=⟨B,Rw,L⟩) (n:Nat) (B:Am) (Rw:Aq) (L:Ar) (a0:Int × ByteArray × Int × Ty × List Vl) (a1:Ty) (r:Bool) (h:FM rec n a0 a1=some r) :
  ACalls Tryz.prog w0 115 [.agg (Ak a0.1::(.val (.string a0.2.1)::(Ak a0.2.2.1::((a0.2.2.2.1.cs)++([.list (a0.2.2.2.2.map Bv) .none]))))),.agg (a1.cs)] ⟨B,Rw,L⟩ fun x st=>x = .val (.bool r)∧st=⟨B,Rw,L⟩:=by
 rw [FM] at h
 refine hd [.tmp 4] Tryz.func115 Tryz.ntmps115 fun M0 W0 e d c b g f hs=>?_
 simp only [AG]
 exact go (tg (a:=([2,3],[2,5,6],([4],()),[4],()))) h hs e d c b f (q2 (EO w0 n) ih) trivial
def Dw (rec:Ty→Ty→Option Bool) (n:Nat) (h:Int × ByteArray × Int × Ty × List Vl) (b:Ty):Option Bool :=
 (FM rec n h b).bind fun g =>
 some (!g)
theorem O9 (w0:World) (rec:Ty→Ty→Option Bool) (ih:∀ (B:Am) (Rw:Aq) (L:Ar) (a0:Ty) (a1:Ty) (r:Bool) (h:rec a0 a1=some r),ACalls Tryz.prog w0 43 [.agg (a0.cs),.agg (a1.cs)] ⟨B,Rw,L⟩ fun x st=>x = .val (.bool r)∧st=⟨B,Rw,L⟩) (n:Nat) (B:Am) (Rw:Aq) (L:Ar) (a0:Int × ByteArray × Int × Ty × List Vl) (la1:Nat) (a1:Ty) (hla1:B[la1]? = some (a1.cs)) (r:Bool) (h:Dw rec n a0 a1=some r) :
  ACalls Tryz.prog w0 114 [.agg (Ak a0.1::(.val (.string a0.2.1)::(Ak a0.2.2.1::((a0.2.2.2.1.cs)++([.list (a0.2.2.2.2.map Bv) .none]))))),.box la1 0] ⟨B,Rw,L⟩ fun x st=>x = .val (.bool r)∧st=⟨B,Rw,L⟩:=by
 rw [Dw] at h
 refine hd [.tmp 3] Tryz.func114 Tryz.ntmps114 fun M0 W0 f e d b i g hs=>?_
 simp only [AG]
 have c:=(Aj.1 hla1).1
 have hs:=Ad (Aw hla1) hs
 exact go (tg (a:=([1,2],[3],()))) h hs f e d b g (q1 (P5 w0 rec ih n)) trivial
def GV (n:Nat) (b:Ty) (g:Ty):Option Bool :=
 (D5 n b.min b.scale g.scale).bind fun h =>
 (D5 n b.max b.scale g.scale).bind fun q =>
 some ((((h.2&&q.2)&&(BH h.1 g))&&(BH q.1 g))&&((decide (b.scale≤g.scale))||(decide (b.min=b.max))))
theorem Tq (w0:World) (n:Nat) (B:Am) (Rw:Aq) (L:Ar) (a0:Ty) (a1:Ty) (r:Bool) (h:GV n a0 a1=some r) :
  ACalls Tryz.prog w0 108 [.agg (a0.cs),.agg (a1.cs)] ⟨B,Rw,L⟩ fun x st=>x = .val (.bool r)∧st=⟨B,Rw,L⟩:=by
 rw [GV] at h
 refine hd [.tmp 4] Tryz.func108 Tryz.ntmps108 fun M0 W0 m k j a o l hs=>?_
 simp only [AG]
 refine rg [2,3] hs ?_
 obtain ⟨g,e,h⟩:=bind_some h
 refine rc 2 [2,3,5,6] hs ?_;intro K2 b
 refine As _ (JU w0 n _ _ _ a0.min a0.scale a1.scale _ e) (hv hs) ?_
 refine ne hs b ?_
 clear b
 obtain ⟨i,f,h⟩:=bind_some h
 refine rc 2 [2,3,5,6,7,8] hs ?_;intro K4 c
 refine As _ (JU w0 n _ _ _ a0.max a0.scale a1.scale _ f) (hv hs) ?_
 refine ne hs c ?_
 clear c
 refine rc 3 [4] hs ?_;intro K6 d
 refine EF _ (fun _=>DV w0 _ _ _ g.1 a1) (hv hs) ?_
 refine nc hs ?_
 refine EF _ (fun _=>DV w0 _ _ _ i.1 a1) (hv hs) ?_
 refine ne hs d ?_
 clear d
 exact rt h hs a l
def FI (n:Nat) (q:ByteArray) (b:Ty) (h:Ty):Option Bool :=
 (AU n b h (A4 q)).bind fun g =>
 some (!g.2)
theorem S7 (w0:World) (n:Nat) (B:Am) (Rw:Aq) (L:Ar) (a0:ByteArray) (la1:Nat) (a1:Ty) (hla1:B[la1]? = some (a1.cs)) (la2:Nat) (a2:Ty) (hla2:B[la2]? = some (a2.cs)) (r:Bool) (h:FI n a0 a1 a2=some r) :
  ACalls Tryz.prog w0 189 [.val (.string a0),.box la1 0,.box la2 0] ⟨B,Rw,L⟩ fun x st=>x = .val (.bool r)∧st=⟨B,Rw,L⟩:=by
 rw [FI] at h
 refine hd [.tmp 4] Tryz.func189 Tryz.ntmps189 fun M0 W0 l g f a m j hs=>?_
 simp only [AG]
 have c:=(Aj.1 hla1).1
 have d:=(Aj.1 hla2).1
 have hs:=Ad (Aw hla1) hs
 have hs:=Ad (Aw hla2) hs
 refine rg [0,1,2] hs ?_
 apply An;intro K2 b
 obtain ⟨k,e,h⟩:=bind_some h
 apply G5 Oo [8,9] [6] kr (fun s=>∃ (X:Am) (rows:Aq),s=⟨B++([]++X),rows,L⟩) 3 (B.length+0)
 ·simp +decide only [go_sem,Nat.reduceAdd]
 ·rintro s ⟨X,rows,rfl⟩
  refine ⟨3,?_⟩
  rw [Ap];simp +decide only [go_sem,Nat.reduceAdd,EI,Aw hla1,Aw hla2]
  (repeat' apply Ad)<;>first | refine As _ (KX w0 _ _ _ a0) (hv hs) ?_ | exact cl
  rw [Ap];simp +decide only [go_sem,Nat.reduceAdd,Aw hla1,Aw hla2]
  (repeat' apply Ad)<;>first | refine As _ (F6 w0 n _ _ _ a1 a2 (A4 a0) _ e) (hv hs) ?_ | exact cl
  rw [Ap];simp +decide only [go_sem,Nat.reduceAdd,Aw hla1,Aw hla2]
  (repeat' apply Ad)<;>first | rfl | exact cl
 ·refine Good.mk [8] kr ⟨[],_,by first | rfl | (simp only [List.append_nil,List.nil_append];done) | (simp only [List.append_nil,List.nil_append];rfl)⟩ ?_ ?_
  ·intro h;exact absurd h (by decide)
  ·intro i hi;simp only [List.mem_cons,List.not_mem_nil,or_false] at hi
   subst hi
   ·apply MJ rfl rfl ev
    ·simp +decide only [go_sem,Nat.reduceAdd,KI,Aw hla1,Aw hla2]
     (repeat' apply Ad)<;>first | rfl | exact cl
    ·simp +decide only [go_sem,Nat.reduceAdd,Aw hla1,Aw hla2]
     refine Good.mk [9] kr ⟨_,_,by first | rfl | (simp only [List.append_nil,List.nil_append];done) | (simp only [List.append_nil,List.nil_append];rfl)⟩ ?_ ?_
     ·intro h;exact absurd h (by decide)
     ·intro i hi;simp only [List.mem_cons,List.not_mem_nil,or_false] at hi
      subst hi
      ·apply MJ rfl rfl ev
       ·simp +decide only [go_sem,Nat.reduceAdd,KI,Aw hla1,Aw hla2]
        (repeat' apply Ad)<;>first | rfl | exact cl
       ·simp +decide only [go_sem,Nat.reduceAdd,Aw hla1,Aw hla2]
        refine Good.mk [] kr ⟨_,_,by first | rfl | (simp only [List.append_nil,List.nil_append];done) | (simp only [List.append_nil,List.nil_append];rfl)⟩ ?_ ?_
        ·intro _;apply GP [6];first | (simp +decide only [go_sem,Nat.reduceAdd,Aw hla1,Aw hla2];done) | (simp +decide only [go_sem,Nat.reduceAdd,Aw hla1,Aw hla2];rfl)
        ·intro i hi;cases hi
 simp +decide only [go_sem,Nat.reduceAdd,Aw hla1,Aw hla2]
 (repeat' apply Ad)<;>first | refine b _ _ ?_ | exact cl
 clear b
 refine rg [4] hs ?_
 exact rt h hs a j
def Ek (g:Ty) (b:Ty):Bool :=
 (decide (b.min≤g.min))&&(decide (g.max≤b.max))
theorem VV (w0:World) (B:Am) (Rw:Aq) (L:Ar) (a0:Ty) (a1:Ty) (r:Bool) (h:Ek a0 a1=r) :
  ACalls Tryz.prog w0 110 [.agg (a0.cs),.agg (a1.cs)] ⟨B,Rw,L⟩ fun x st=>x = .val (.bool r)∧st=⟨B,Rw,L⟩:=by
 rw [Ek] at h
 refine hd [.tmp 4] Tryz.func110 Tryz.ntmps110 fun M0 W0 e c b a f d hs=>?_
 simp only [AG]
 refine rg [2,3] hs ?_
 refine rg [4] hs ?_
 exact rT h hs a d
theorem IP (w0:World) (B:Am) (Rw:Aq) (L:Ar) (a0:Ty) (a1:Ty) :
  ACalls Tryz.prog w0 110 [.agg (a0.cs),.agg (a1.cs)] ⟨B,Rw,L⟩ fun x st=>x = .val (.bool (Ek a0 a1))∧st=⟨B,Rw,L⟩:=VV w0 B Rw L a0 a1 _ rfl
def Hq (n:Nat)  : Option Int :=
 some ((-1))
def CE (n:Nat) (g:List ByteArray) (y:ByteArray→Option Bool):Nat→Int→Option Int
 | 0,_=>none
 | m+1,b =>
  if decide (b<(g.length:Int)) then
   (B1 g b).bind fun h =>
   (y h).bind fun q =>
   if q then
    some (b)
   else
    if BM (b+1) then
     (CE n g y m) (b+1)
    else none
  else
   Hq n 
def FP (n:Nat) (g:List ByteArray) (b:ByteArray→Option Bool):Option Int :=
 CE n g b n 0
theorem PT (w0:World) (n:Nat) (B:Am) (Rw:Aq) (L:Ar) (a0:List ByteArray) (fa1:FuncId) (ca1:List AV) (a1:ByteArray→Option Bool) (ha1:∀ (x0:ByteArray) r,a1 x0=some r→∀ B' rows,B <+: B'→Rw <+: rows→ACalls Tryz.prog w0 fa1 ([.val (.string x0)]++ca1) ⟨B',rows,L⟩ fun v s=>v = .val (.bool r)∧s=⟨B',rows,L⟩) (r:Int) (h:FP n a0 a1=some r) :
  ACalls Tryz.prog w0 183 [.list (a0.map V6) .none,.clo fa1 ca1] ⟨B,Rw,L⟩ fun x st=>x=Ak r∧st=⟨B,Rw,L⟩:=by
 rw [FP] at h
 refine hd [.tmp 4] Tryz.func183 Tryz.ntmps183 fun M0 W0 k g i c l f hs=>?_
 simp only [AG]
 have b:=CV (l (.clo fa1 ca1) (by simp))
 refine rg [0,1] hs ?_
 refine AA (fun e st=>Ck e st B Rw L [] [] [] (Hq n  = some r)) ?_ ?_
 ·intro K4 j
  refine rg [0,1,7,8] hs ?_
  apply Ao
  refine AL (fun m e st=>∃ (d:Int),Ck e st B Rw L [(0,true,.list (a0.map V6) .none),(1,true,.clo fa1 ca1),(7,true,Ak (a0.length:Int)),(8,true,Ak d)] [] [] (CE n a0 a1 m d=some r)) n ⟨0,([]),Rw,ef hs,ef hs,f,h⟩ ?_
  rintro ml6 e st ⟨d,Xl6,Rl6,rfl,rfl,f,h⟩ Ul6 Vl6
  cases ml6 with
  | zero=>cases h
  | succ ml6 =>
  rw [CE] at h
  refine AY k g i rfl c f (Kq b f) (Kq b f) ?_
  exact go (tg (a:=([0,1,7,8,9],([0,1,7,8],[0,1,5,7,8],[0,1,5,7,8,16],([4],()),[0,1,7,8],[0,1,7,8],()),[],()))) h hs k g i c f (q1 ha1) (q2 j (fun e s=>Vl6 ml6 e s (Nat.lt_succ_self _)))
 ·clear h;rintro e st ⟨Xk3,Rk3,rfl,rfl,f,h⟩
  rw [Hq] at h
  refine AY k g i rfl c f (Kq b f) (Kq b f) ?_
  refine rg [4] hs ?_
  exact rt h hs c f
def DD (n:Nat) (h:List ByteArray) (b:ByteArray→Option Bool):Option Bool :=
 (FP n h b).bind fun g =>
 some (decide (0≤g))
theorem Nx (w0:World) (n:Nat) (B:Am) (Rw:Aq) (L:Ar) (a0:List ByteArray) (fa1:FuncId) (ca1:List AV) (a1:ByteArray→Option Bool) (ha1:∀ (x0:ByteArray) r,a1 x0=some r→∀ B' rows,B <+: B'→Rw <+: rows→ACalls Tryz.prog w0 fa1 ([.val (.string x0)]++ca1) ⟨B',rows,L⟩ fun v s=>v = .val (.bool r)∧s=⟨B',rows,L⟩) (r:Bool) (h:DD n a0 a1=some r) :
  ACalls Tryz.prog w0 181 [.list (a0.map V6) .none,.clo fa1 ca1] ⟨B,Rw,L⟩ fun x st=>x = .val (.bool r)∧st=⟨B,Rw,L⟩:=by
 rw [DD] at h
 refine hd [.tmp 4] Tryz.func181 Tryz.ntmps181 fun M0 W0 o l k b i g hs=>?_
 simp only [AG]
 have d:=CV (i (.clo fa1 ca1) (by simp))
 refine rg [0,1] hs ?_
 obtain ⟨m,f,h⟩:=bind_some h
 refine rc 2 [4] hs ?_;intro K2 c
 refine As _ (PT w0 n _ _ _ a0 fa1 ca1 a1 (fun x0 r j e a q1 q2=>ha1 x0 r j e a (List.IsPrefix.trans px q1) (g.pre.trans q2)) _ f) (hv hs) ?_
 refine ne hs c ?_
 clear c
 exact rt h hs b g
def Iq (n:Nat) (b:Ty) (g:Ty):Option Bool :=
 if decide (0<(b.words.length:Int)) then
  (DD n b.words (fun (y:ByteArray)=>FI n y b g)).bind fun q =>
  some (!q)
 else
  if decide (0<(g.words.length:Int)) then
   if decide (b.max=0) then
    (BX n g.words (⟨#[]⟩:ByteArray)).bind fun h =>
    some (h)
   else
    some (false)
  else
   some (Ek b g)
theorem VU (w0:World) (n:Nat) (B:Am) (Rw:Aq) (L:Ar) (a0:Ty) (a1:Ty) (r:Bool) (h:Iq n a0 a1=some r) :
  ACalls Tryz.prog w0 109 [.agg (a0.cs),.agg (a1.cs)] ⟨B,Rw,L⟩ fun x st=>x = .val (.bool r)∧st=⟨B,Rw,L⟩:=by
 rw [Iq] at h
 refine hd [.tmp 4] Tryz.func109 Tryz.ntmps109 fun M0 W0 o j i b t l hs=>?_
 simp only [AG]
 refine rg [2,3] hs ?_
 apply An;intro K2 k
 apply Ao
 refine rg [2,3,5] hs ?_
 refine BN h hs ?_ ?_<;>intro hs h
 ·obtain ⟨q,f,h⟩:=bind_some h
  refine rc 2 [4] hs ?_;intro K5 c
  refine As _ (Nx w0 n _ _ _ a0.words 189 [.box B.length 0,.box (B.length+1) 0] (fun (g:ByteArray)=>FI n g a0 a1) (fun g r p s e d m=>by exact S7 w0 n _ _ _ g _ a0 (ED d (ef hs)) _ a1 (ED d (ef hs)) _ p) _ f) (hv hs) ?_
  refine ne hs c ?_
  clear c
  exact rt h hs b l
 exact go (tg (a:=([2,3,15],(([4],()),[4],()),[2,3],[4],()))) h hs o j i b l (q2 (FR w0 n) (IP w0)) (q1 k)
def BZ (rec:Ty→Ty→Option Bool) (n:Nat) (h:Ty) (b:Ty) (g:Bool):Option Bool :=
 if g then
  (GV n h b).bind fun y15 =>
  some (y15)
 else
  if decide (b.kind=1) then
   some (true)
  else
   if decide (b.kind=4) then
    (Iq n h b).bind fun y22 =>
    some (y22)
   else
    if decide (b.kind=8) then
     if Ek h b then
      if decide (h.max=0) then
       some (true)
      else
       (B1 h.elem 0).bind fun q =>
       (B1 b.elem 0).bind fun y =>
       (rec q y).bind fun y30 =>
       some (y30)
     else
      some (false)
    else
     if decide (b.kind=9) then
      (A5 n b.fields (fun (x0:Int × ByteArray × Int × Ty × List Vl)=>Dv rec n x0 h)).bind fun y34 =>
      some (!y34)
     else
      if decide (b.kind=10) then
       (A5 n h.fields (fun (x0:Int × ByteArray × Int × Ty × List Vl)=>Dw rec n x0 b)).bind fun y38 =>
       some (!y38)
      else
       some (Ek h b)
def Gy (rec:Ty→Ty→Option Bool) (n:Nat) (g:Ty) (b:Ty):Option Bool :=
 if !(DC g.kind b.kind) then
  some (false)
 else
  if decide (b.kind=2) then
   BZ rec n g b true
  else
   BZ rec n g b (decide (b.kind=3))
def AN:Nat→Ty→Ty→Option Bool
 | 0,_,_=>none
 | n+1,g,b=>Gy (AN n) n g b
def I6 (w0:World) (F:Ty→Ty→Option Bool):Prop:=∀ (B:Am) (Rw:Aq) (L:Ar) (g:Ty) (b:Ty) (r:Bool),F g b=some r→ACalls Tryz.prog w0 43 [.agg (g.cs),.agg (b.cs)] ⟨B,Rw,L⟩ fun x st=>x = .val (.bool r)∧st=⟨B,Rw,L⟩
theorem O4 (w0:World) (rec:Ty→Ty→Option Bool) (ih:I6 w0 rec) (n:Nat):I6 w0 (Gy rec n):=by
 intro B Rw L a0 a1 r h
 rw [Gy] at h
 refine hd [.tmp 4] Tryz.func43 Tryz.ntmps43 fun M0 W0 o f d b D g hs=>?_
 simp only [AG]
 refine rg [2,3] hs ?_
 apply An;intro K2 s
 refine rc 2 [2,3,10] hs ?_;intro K3 p
 refine As _ (Jd w0 _ _ _ a0.kind a1.kind) (hv hs) ?_
 refine ne hs p ?_
 clear p
 refine BN h hs ?_ ?_<;>intro hs h
 ·refine rg [4] hs ?_
  exact rt h hs b g
 refine sk [2,3] hs s ?_
 clear s
 apply An;intro K6 v
 refine rg [2,3,12] hs ?_
 apply Ao
 refine AA (fun e st=>∃ (c:Bool),Ck e st B Rw L [(2,true,.box B.length 0),(3,true,.box (B.length+1) 0),(12,true,Ak a1.kind),(13,true,.val (.bool c))] [a0.cs,a1.cs] [] (BZ rec n a0 a1 c=some r)) ?_ ?_
 ·intro K10 t
  exact go (tg (a:=([2,3,12,13],([2,3,12,13],()),[2,3,12,13],()))) h hs o f d b g trivial (q1 t)
 ·clear h;rintro e st ⟨c,Xk9,Rk9,rfl,rfl,g,h⟩
  rw [BZ] at h
  refine td o f d b g ?_
  refine BN h hs ?_ ?_<;>intro hs h
  ·exact go (tg (a:=([4],()))) h hs o f d b g (q1 (Tq w0 n)) trivial
  refine rg [2,3,12,19] hs ?_
  refine BN h hs ?_ ?_<;>intro hs h
  ·refine rg [4] hs ?_
   exact rt h hs b g
  refine rg [2,3,12,21] hs ?_
  refine BN h hs ?_ ?_<;>intro hs h
  ·exact go (tg (a:=([4],()))) h hs o f d b g (q1 (VU w0 n)) trivial
  refine rg [2,3,12,26] hs ?_
  refine BN h hs ?_ ?_<;>intro hs h
  ·exact go (tg (a:=((([20,4],()),[20,4],()),[20,4],()))) h hs o f d b g (q2 (IP w0) ih) trivial
  refine rg [2,3,12,47] hs ?_
  refine BN h hs ?_ ?_<;>intro hs h
  ·obtain ⟨y,q,h⟩:=bind_some h
   refine rc 2 [4] hs ?_;intro K33 i
   refine As _ (DN w0 n _ _ _ a1.fields 112 [.box B.length 0] (fun (l:Int × ByteArray × Int × Ty × List Vl)=>Dv rec n l a0) (fun l r x C m k w=>by exact Pq w0 rec ih n _ _ _ l _ a0 (ED k (ef hs)) _ x) _ q) (hv hs) ?_
   refine ne hs i ?_
   clear i
   exact rt h hs b g
  refine rg [2,3,54] hs ?_
  refine BN h hs ?_ ?_<;>intro hs h
  ·obtain ⟨z,u,h⟩:=bind_some h
   refine rc 2 [4] hs ?_;intro K37 j
   refine As _ (DN w0 n _ _ _ a0.fields 114 [.box (B.length+1) 0] (fun (l:Int × ByteArray × Int × Ty × List Vl)=>Dw rec n l a1) (fun l r x C m k w=>by exact O9 w0 rec ih n _ _ _ l _ a1 (ED k (ef hs)) _ x) _ u) (hv hs) ?_
   refine ne hs j ?_
   clear j
   exact rt h hs b g
  exact go (tg (a:=([2,3],[4],()))) h hs o f d b g (q1 (IP w0)) (q1 v)
theorem D6 (w0:World):∀ n:Nat,I6 w0 (AN n)
 | 0=>fun _ _ _ _ _ _ h=>(nomatch h)
 | n+1=>O4 w0 (AN n) (D6 w0 n) n
def GY (g:Ty) (b:Ty):Bool :=
 (decide (b.min≤g.min))&&(decide (g.max≤b.max))
theorem ZM (w0:World) (B:Am) (Rw:Aq) (L:Ar) (a0:Ty) (a1:Ty) (r:Bool) (h:GY a0 a1=r) :
  ACalls Tryz.prog w0 50 [.agg (a0.cs),.agg (a1.cs)] ⟨B,Rw,L⟩ fun x st=>x = .val (.bool r)∧st=⟨B,Rw,L⟩:=by
 rw [GY] at h
 refine hd [.tmp 4] Tryz.func50 Tryz.ntmps50 fun M0 W0 e c b a f d hs=>?_
 simp only [AG]
 refine rg [2,3] hs ?_
 refine rg [4] hs ?_
 exact rT h hs a d
theorem Ja (w0:World) (B:Am) (Rw:Aq) (L:Ar) (a0:Ty) (a1:Ty) :
  ACalls Tryz.prog w0 50 [.agg (a0.cs),.agg (a1.cs)] ⟨B,Rw,L⟩ fun x st=>x = .val (.bool (GY a0 a1))∧st=⟨B,Rw,L⟩:=ZM w0 B Rw L a0 a1 _ rfl
def Nc (rec:Ty→Ty→Option Bool) (n:Nat) (g:Ty) (b:Ty):Option Bool :=
 if decide (0<(g.words.length:Int)) then
  some (true)
 else
  if decide (0<(b.words.length:Int)) then
   if decide (g.max=0) then
    (MH n (⟨#[]⟩:ByteArray) b).bind fun h =>
    some (h)
   else
    some (false)
  else
   some (GY g b)
def Sv (rec:Ty→Ty→Option Bool) (n:Nat)  : Option Bool :=
 some (true)
def Si (rec:Ty→Ty→Option Bool) (n:Nat)  : Option Bool :=
 some (true)
def SU (rec:Ty→Ty→Option Bool) (n:Nat) (g:Ty) (b:Ty):Option Bool :=
 some (GY g b)
def G8 (rec:Ty→Ty→Option Bool) (n:Nat) (g:Ty) (h:Ty):Nat→Int→Option Bool
 | 0,_=>none
 | m+1,b =>
  if decide (b<(g.words.length:Int)) then
   (B1 g.words b).bind fun y =>
   (MH n y h).bind fun q =>
   if !q then
    some (false)
   else
    if BM (b+1) then
     (G8 rec n g h m) (b+1)
    else none
  else
   Nc rec n g h 
def IF (rec:Ty→Ty→Option Bool) (n:Nat) (y:Ty) (a1:Ty):Nat→Int→Option Bool
 | 0,_=>none
 | m+1,b =>
  if decide (b<(y.fields.length:Int)) then
   (B1 y.fields b).bind fun h =>
   (Gt n a1 h.1).bind fun g =>
   if !g.2 then
    some (false)
   else
    (rec h.2.2.2.1 g.1.2.2.2.1).bind fun q =>
    if !q then
     some (false)
    else
     if BM (b+1) then
      (IF rec n y a1 m) (b+1)
     else none
  else
   Sv rec n 
def Gp (rec:Ty→Ty→Option Bool) (n:Nat) (a0:Ty) (y:Ty):Nat→Int→Option Bool
 | 0,_=>none
 | m+1,b =>
  if decide (b<(y.fields.length:Int)) then
   (B1 y.fields b).bind fun h =>
   (Gt n a0 h.1).bind fun g =>
   if (!g.2)&&(decide (h.2.2.1=1)) then
    some (false)
   else
    if g.2 then
     (rec g.1.2.2.2.1 h.2.2.2.1).bind fun q =>
     if (!q)||((decide (h.2.2.1=1))&&(decide (g.1.2.2.1=2))) then
      some (false)
     else
      if BM (b+1) then
       (Gp rec n a0 y m) (b+1)
      else none
    else
     if BM (b+1) then
      (Gp rec n a0 y m) (b+1)
     else none
  else
   Si rec n 
def TN (rec:Ty→Ty→Option Bool) (n:Nat) (g:Ty) (b:Ty):Option Bool :=
 if (decide (0≤(A1 g)))&&(decide (0≤(A1 b))) then
  if BM ((A1 b)-(A1 g)) then
   (Gu n g.min ((A1 b)-(A1 g))).bind fun y7 =>
   if BM ((A1 b)-(A1 g)) then
    (Gu n g.max ((A1 b)-(A1 g))).bind fun h =>
    if (decide ((A1 b)<(A1 g)))&&(!(decide (g.min=g.max))) then
     some (false)
    else
     some (((y7.2&&h.2)&&(Bo y7.1 b))&&(Bo h.1 b))
   else none
  else none
 else
  if !(decide (g.kind=b.kind)) then
   some (false)
  else
   if decide (b.kind=1) then
    some (true)
   else
    if decide (b.kind=4) then
     G8 rec n g b n 0
    else
     if decide (b.kind=8) then
      if GY g b then
       if decide (g.max=0) then
        some (true)
       else
        (B1 g.elem 0).bind fun x60 =>
        (B1 b.elem 0).bind fun q =>
        (rec x60 q).bind fun y =>
        some (y)
      else
       some (false)
     else
      if decide (b.kind=10) then
       IF rec n g b n 0
      else
       if decide (b.kind=9) then
        Gp rec n g b n 0
       else
        SU rec n g b 
def HE:Nat→Ty→Ty→Option Bool
 | 0,_,_=>none
 | n+1,g,b=>TN (HE n) n g b
def WW (w0:World) (F:Ty→Ty→Option Bool):Prop:=∀ (B:Am) (Rw:Aq) (L:Ar) (g:Ty) (b:Ty) (r:Bool),F g b=some r→ACalls Tryz.prog w0 12 [.agg (g.cs),.agg (b.cs)] ⟨B,Rw,L⟩ fun x st=>x = .val (.bool r)∧st=⟨B,Rw,L⟩
theorem Za9 (w0:World) (rec:Ty→Ty→Option Bool) (ih:WW w0 rec) (n:Nat):WW w0 (TN rec n):=by
 intro B Rw L a0 a1 r h
 rw [TN] at h
 refine hd [.tmp 4] Tryz.func12 Tryz.ntmps12 fun M0 W0 p i d b hu c hs=>?_
 simp only [AG]
 refine rg [2,3] hs ?_
 apply An;intro K2 ao
 have av:=Ad and_self @imp_self
 have hs:=Ad av hs
 refine rc 3 [2,3,24] hs ?_;intro K3 ag
 refine As _ (Da w0 _ _ _ a0) (hv hs) ?_
 refine nc hs ?_
 refine EF _ (fun _=>Da w0 _ _ _ a1) (hv hs) ?_
 refine ne hs ag ?_
 clear ag
 refine BN h hs ?_ ?_<;>intro hs h
 ·have C:=hs.1
  obtain ⟨a7,h⟩:=Au h
  obtain ⟨y7,a5,h⟩:=bind_some h
  apply An;intro K5 aq
  refine dk 13 4 1 [2,3,5,6] hs Oo ?_
  refine As _ (Da w0 _ _ _ a1) (hv hs) ?_
  refine nc hs ?_
  refine As _ (Da w0 _ _ _ a0) (hv hs) ?_
  refine nc hs ?_
  refine As _ (Qd w0 n _ _ _ a0.min ((A1 a1)-(A1 a0)) _ a5) (hv hs) ?_
  refine dn hs aq ?_
  clear aq
  obtain ⟨a6,h⟩:=Au h
  obtain ⟨az,af,h⟩:=bind_some h
  apply An;intro K8 ar
  refine dk 13 4 1 [2,3,5,6,7,8] hs Oo ?_
  refine As _ (Da w0 _ _ _ a1) (hv hs) ?_
  refine nc hs ?_
  refine As _ (Da w0 _ _ _ a0) (hv hs) ?_
  refine nc hs ?_
  refine As _ (Qd w0 n _ _ _ a0.max ((A1 a1)-(A1 a0)) _ af) (hv hs) ?_
  refine dn hs ar ?_
  clear ar
  apply An;intro K11 G
  apply An;intro K12 V
  refine dk 12 3 1 [3,5,6,7,8,58] hs Oo ?_
  refine As _ (Da w0 _ _ _ a1) (hv hs) ?_
  refine nc hs ?_
  refine As _ (Da w0 _ _ _ a0) (hv hs) ?_
  refine dn hs V ?_
  clear V
  refine BN h hs ?_ ?_<;>intro hs h
  ·refine rg [4] hs ?_
   exact rt h hs b c
  refine sk [3,5,6,7,8] hs G ?_
  clear G
  have av:=Ad and_self @imp_self
  refine rc 3 [4] hs ?_;intro K15 K
  refine EF _ (fun _=>Gw w0 _ _ _ y7.1 a1) (hv hs) ?_
  refine nc hs ?_
  refine EF _ (fun _=>Gw w0 _ _ _ az.1 a1) (hv hs) ?_
  refine ne hs K ?_
  clear K
  exact rt h hs b c
 have C:=hs.1
 refine sk [2,3] hs ao ?_
 clear ao
 apply An;intro K16 O
 refine rg [2,3,77] hs ?_
 refine BN h hs ?_ ?_<;>intro hs h
 ·have v:=hs.1
  refine rg [4] hs ?_
  exact rt h hs b c
 have v:=hs.1
 refine sk [2,3] hs O ?_
 clear O
 refine AA (fun e st=>Ck e st B Rw L [(2,true,.box B.length 0),(3,true,.box (B.length+1) 0)] [a0.cs,a1.cs] [] (SU rec n a0 a1  = some r)) ?_ ?_
 ·intro K22 aj
  refine rg [2,3,79] hs ?_
  apply Ao
  refine rg [2,3,79,80] hs ?_
  refine BN h hs ?_ ?_<;>intro hs h
  ·have t:=hs.1
   refine rg [4] hs ?_
   exact rt h hs b c
  have t:=hs.1
  refine rg [2,3,79,82] hs ?_
  refine BN h hs ?_ ?_<;>intro hs h
  ·have u:=hs.1
   refine AA (fun e st=>Ck e st B Rw L [(2,true,.box B.length 0),(3,true,.box (B.length+1) 0)] [a0.cs,a1.cs] [] (Nc rec n a0 a1  = some r)) ?_ ?_
   ·intro K31 ak
    refine rg [2,3,9] hs ?_
    apply Ao
    refine AL (fun m e st=>∃ (l:Int),Ck e st B Rw L [(2,true,.box B.length 0),(3,true,.box (B.length+1) 0),(9,true,Ak l)] [a0.cs,a1.cs] [] (G8 rec n a0 a1 m l=some r)) n ⟨0,([]),Rw,ef hs,ef hs,c,h⟩ ?_
    rintro ml33 e st ⟨l,Xl33,Rl33,rfl,rfl,c,h⟩ Ul33 Vl33
    cases ml33 with
    | zero=>cases h
    | succ ml33 =>
    rw [G8] at h
    exact go (tg (a:=([2,3,9,88],([2,3,9],[8,2,3,9,98],([4],()),[2,3,9],[2,3,9],()),[2,3],()))) h hs p i d b c (q1 (RV w0 n)) (q2 ak (fun e s=>Vl33 ml33 e s (Nat.lt_succ_self _)))
   ·clear h;rintro e st ⟨Xk30,Rk30,rfl,rfl,c,h⟩
    rw [Nc] at h
    refine td p i d b c ?_
    apply An;intro K44 H
    refine rg [2,3,102] hs ?_
    refine BN h hs ?_ ?_<;>intro hs h
    ·refine rg [4] hs ?_
     exact rt h hs b c
    refine sk [2,3] hs H ?_
    clear H
    apply An;intro K48 ae
    refine rg [2,3,106] hs ?_
    refine BN h hs ?_ ?_<;>intro hs h
    ·apply An;intro K51 z
     rcases Bool.eq_false_or_eq_true (decide (a0.max=0)) with hf52 | hf52
     ·replace h:=CP h hf52
      exact go (tg (a:=([4],()))) h (Ad hf52 hs) p i d b c (q1 (RV w0 n)) (q1 z)
     ·replace h:=CO h hf52
      have hs:=Ad hf52 hs
      refine rk 2 [4] hs ?_
      refine JE ?_
      refine ne hs z ?_
      clear z
      exact rt h hs b c
    exact go (tg (a:=([2,3],[4],()))) h hs p i d b c (q1 (Ja w0)) (q1 ae)
  have u:=hs.1
  refine rg [2,3,79,117] hs ?_
  refine BN h hs ?_ ?_<;>intro hs h
  ·have w:=hs.1
   apply An;intro K57 o
   rcases Bool.eq_false_or_eq_true (GY a0 a1) with hf58 | hf58
   ·replace h:=CP h hf58
    rcases Bool.eq_false_or_eq_true (decide (a0.max=0)) with hf59 | hf59
    ·replace h:=CP h hf59
     have hs:=Ad hf58 hs
     have hs:=Ad hf59 hs
     refine dk 20 3 1 [4] hs Oo ?_
     refine As _ (Ja w0 _ _ _ a0 a1) (hv hs) ?_
     refine nc hs ?_
     refine JE ?_
     refine dn hs o ?_
     clear o
     exact rt h hs b c
    ·replace h:=CO h hf59
     exact go (tg (a:=([20,4],()))) h (Ad hf59 (Ad hf58 hs)) p i d b c (q2 (Ja w0) ih) (q1 o)
   ·replace h:=CO h hf58
    have hs:=Ad hf58 hs
    refine dk 20 3 1 [4] hs Oo ?_
    refine As _ (Ja w0 _ _ _ a0 a1) (hv hs) ?_
    refine nc hs ?_
    refine JE ?_
    refine dn hs o ?_
    clear o
    exact rt h hs b c
  have w:=hs.1
  refine rg [2,3,79,138] hs ?_
  refine BN h hs ?_ ?_<;>intro hs h
  ·have x:=hs.1
   refine AA (fun e st=>Ck e st B Rw L [] [a0.cs,a1.cs] [] (Sv rec n  = some r)) ?_ ?_
   ·intro K67 au
    refine rg [2,3,10] hs ?_
    apply Ao
    refine AL (fun m e st=>∃ (k:Int),Ck e st B Rw L [(2,true,.box B.length 0),(3,true,.box (B.length+1) 0),(10,true,Ak k)] [a0.cs,a1.cs] [] (IF rec n a0 a1 m k=some r)) n ⟨0,([]),Rw,ef hs,ef hs,c,h⟩ ?_
    rintro ml69 e st ⟨k,Xl69,Rl69,rfl,rfl,c,h⟩ Ul69 Vl69
    cases ml69 with
    | zero=>cases h
    | succ ml69 =>
    rw [IF] at h
    refine td p i d b c ?_
    apply An;intro K70 J
    refine rg [2,3,10,144] hs ?_
    refine BN h hs ?_ ?_<;>intro hs h
    rotate_left
    ·have y:=hs.1
     refine sx [] hs au ?_
     exact ⟨([]),Rl69,ef hs,ef hs,c,h⟩
    have y:=hs.1
    refine sk [2,3,10] hs J ?_
    clear J
    apply An;intro K73 ai
    apply Ao
    apply An;intro K74 F
    obtain ⟨ax,ay,a2,g,h⟩:=ix ET h
    obtain ⟨aw,ap,h⟩:=bind_some h
    apply G5 Oo [11,12] [2,3,10,11,12] kr (fun s=>∃ (X:Am) (rows:Aq),s=⟨B++([a0.cs,a1.cs]++X),rows,L⟩) 3 (B.length+2)
    ·simp +decide only [go_sem,Nat.reduceAdd]
    ·rintro s ⟨X,rows,rfl⟩
     refine ⟨2,?_⟩
     rw [Ap];simp +decide only [go_sem,Nat.reduceAdd,EI,C,v,t,u,w,x,y,g]
     have hs:=Ad g hs
     (repeat' apply Ad)<;>first | refine As _ (JY w0 n _ _ _ a1 ax.1 _ ap) (hv hs) ?_ | exact cl
     rw [Ap];simp +decide only [go_sem,Nat.reduceAdd,C,v,t,u,w,x,y,g]
     (repeat' apply Ad)<;>first | rfl | exact cl
    ·exact gd (tg (a:=(11,12,[2,3,10,11,12]))) (Ad g hs)
    simp +decide only [go_sem,Nat.reduceAdd,C,v,t,u,w,x,y,g]
    (repeat' apply Ad)<;>first | refine F _ _ ?_ | exact cl
    clear F
    apply An;intro K77 N
    rcases Bool.eq_false_or_eq_true (!aw.2) with hf78 | hf78
    ·replace h:=CP h hf78
     have hs:=Ad g hs
     have hs:=Ad hf78 hs
     refine dk 14 2 1 [2,3,10,171] hs Oo ?_
     refine JE ?_
     exact go (tg (a:=([4],()))) h hs p i d b c trivial (q1 N)
    ·replace h:=CO h hf78
     exact go (tg (a:=([14,2,3,10,171],([4],()),[2,3,10],[2,3,10],()))) h (Ad hf78 (Ad g hs)) p i d b c (q1 ih) (q3 N ai (fun e s=>Vl69 ml69 e s (Nat.lt_succ_self _)))
   ·clear h;rintro e st ⟨Xk66,Rk66,rfl,rfl,c,h⟩
    rw [Sv] at h
    refine td p i d b c ?_
    refine rg [4] hs ?_
    exact rt h hs b c
  have x:=hs.1
  refine rg [2,3,172] hs ?_
  refine BN h hs ?_ ?_<;>intro hs h
  ·refine AA (fun e st=>Ck e st B Rw L [] [a0.cs,a1.cs] [] (Si rec n  = some r)) ?_ ?_
   ·intro K90 ah
    refine rg [2,3,13] hs ?_
    apply Ao
    refine AL (fun m e st=>∃ (j:Int),Ck e st B Rw L [(2,true,.box B.length 0),(3,true,.box (B.length+1) 0),(13,true,Ak j)] [a0.cs,a1.cs] [] (Gp rec n a0 a1 m j=some r)) n ⟨0,([]),Rw,ef hs,ef hs,c,h⟩ ?_
    rintro ml92 e st ⟨j,Xl92,Rl92,rfl,rfl,c,h⟩ Ul92 Vl92
    cases ml92 with
    | zero=>cases h
    | succ ml92 =>
    rw [Gp] at h
    refine td p i d b c ?_
    apply An;intro K93 D
    refine rg [2,3,13,178] hs ?_
    refine BN h hs ?_ ?_<;>intro hs h
    rotate_left
    ·refine sx [] hs ah ?_
     exact ⟨([]),Rl92,ef hs,ef hs,c,h⟩
    refine sk [2,3,13] hs D ?_
    clear D
    apply An;intro K96 Q
    apply Ao
    obtain ⟨ad,am,h⟩:=bind_some h
    obtain ⟨a3,a4,Z⟩:=B9 am
    have aa:=C5 (f:=ET) Z
    have hs:=Ad aa hs
    refine rg [2,3,13,14] hs ?_
    obtain ⟨U,Y,h⟩:=bind_some h
    refine rc 2 [2,3,13,14,15,16] hs ?_;intro K99 E
    refine As _ (JY w0 n _ _ _ a0 ad.1 _ Y) (hv hs) ?_
    refine ne hs E ?_
    clear E
    apply An;intro K101 q
    rcases Bool.eq_false_or_eq_true ((!U.2)&&(decide (ad.2.2.1=1))) with hf102 | hf102
    ·replace h:=CP h hf102
     have hs:=Ad hf102 hs
     refine rk 2 [2,3,13,220] hs ?_
     refine JE ?_
     exact go (tg (a:=([4],()))) h hs p i d b c trivial (q1 q)
    ·replace h:=CO h hf102
     rcases Bool.eq_false_or_eq_true (U.2) with hf105 | hf105
     ·replace h:=CP h hf105
      exact go (tg (a:=([2,3,13,220],([4],()),[2,3,13],[2,3,13],()))) h (Ad hf105 (Ad hf102 hs)) p i d b c (q1 ih) (q3 q Q (fun e s=>Vl92 ml92 e s (Nat.lt_succ_self _)))
     ·replace h:=CO h hf105
      have ab:(decide (ad.2.2.1=1))=false:=by simpa [hf105] using hf102
      have hs:=Ad hf102 hs
      have hs:=Ad hf105 hs
      have hs:=Ad ab hs
      refine rk 2 [2,3,13,220] hs ?_
      refine JE ?_
      exact go (tg (a:=([2,3,13],[2,3,13],()))) h hs p i d b c trivial (q3 q Q (fun e s=>Vl92 ml92 e s (Nat.lt_succ_self _)))
   ·clear h;rintro e st ⟨Xk89,Rk89,rfl,rfl,c,h⟩
    rw [Si] at h
    refine td p i d b c ?_
    refine rg [4] hs ?_
    exact rt h hs b c
  refine sk [2,3] hs aj ?_
  exact ⟨([]),Rw,ef hs,ef hs,c,h⟩
 ·clear h;rintro e st ⟨Xk21,Rk21,rfl,rfl,c,h⟩
  rw [SU] at h
  exact go (tg (a:=([4],()))) h hs p i d b c (q1 (Ja w0)) trivial
theorem Zl (w0:World):∀ n:Nat,WW w0 (HE n)
 | 0=>fun _ _ _ _ _ _ h=>(nomatch h)
 | n+1=>Za9 w0 (HE n) (Zl w0 n) n
def ZeX (a b:Ty):Bool:=match Nz a.min a.scale b.scale,Nz a.max a.scale b.scale with
 | some x,some y=>On x b&&On y b&&(decide (a.scale≤b.scale)||decide (a.min=a.max))
 | _,_=>false
def Ye (a b:Ty):Bool:=decide (b.min≤a.min)&&decide (a.max≤b.max)
def Zce (a b:Ty):Bool:=if a.words≠[] then a.words.all fun w=>Es w b else if b.words≠[] then decide (a.max=0)&&Es ⟨#[]⟩ b else Ye a b
def Fe:Nat→Ty→Ty→Bool
 | 0,_,_=>false
 | d+1,a,b =>
  if (a.kind=2∨a.kind=3)∧(b.kind=2∨b.kind=3) then ZeX a b
  else if a.kind≠b.kind then false
  else if b.kind=1 then true
  else if b.kind=4 then Zce a b
  else if b.kind=8 then Ye a b&&(decide (a.max=0)||(match a.elem,b.elem with | [x],[y]=>Fe d x y | _,_=>false))
  else if b.kind=9 then b.fields.all fun g=>match Gx a.fields g.1 with | none => !decide (g.2.2.1=1) | some p=>Fe d p.2.2.2.1 g.2.2.2.1 && !(decide (g.2.2.1=1)&&decide (p.2.2.1=2))
  else if b.kind=10 then a.fields.all fun p=>match Gx b.fields p.1 with | none=>false | some g=>Fe d p.2.2.2.1 g.2.2.2.1
  else Ye a b
theorem Zgw {t:Ty} (o:t.Own) (h:t.kind=2∨t.kind=3):(-999999999999999≤t.min∧t.min≤999999999999999)∧(-999999999999999≤t.max∧t.max≤999999999999999):=by
 obtain ⟨_,_,c⟩:=o.bounds (by omega) (by omega)
 have:=V9 o h
 omega
theorem ZjW (n:Nat) (a b:Ty) (oa:a.Own) (ob:b.Own) (ha:a.kind=2∨a.kind=3) (hb:b.kind=2∨b.kind=3) (hn:200<n):GV n a b=some (ZeX a b):=by
 have f:=oa.scale
 have e:=ob.scale
 obtain ⟨d,c⟩:=Zgw oa ha
 rw [GV,SO n _ _ _ d (by omega) (by omega) hn,Ae,SO n _ _ _ c (by omega) (by omega) hn,Ae,ZeX]
 cases Nz a.min a.scale b.scale with
 | none=>simp
 | some x =>
  cases Nz a.max a.scale b.scale with
  | none=>simp
  | some y=>simp [On,BH,Bool.and_assoc]
def okN (b:Ty):Option Int→Bool
 | some m=>On m b
 | none=>false
theorem ZbA {o:Option Int} {y:Int × Bool} {b:Ty} (ob:b.Own) (hb:b.kind=2∨b.kind=3) (h:ZjX o y):(y.2&&Bo y.1 b)=okN b o:=by
 have a:=V9 ob hb
 cases o with
 | some m =>
  have h:y=(m,true):=h
  subst h;rfl
 | none =>
  rcases h with h | ⟨h,h2⟩
  ·rw [h];rfl
  ·rw [h,Bool.true_and]
   show Bo y.1 b=false
   rw [Bool.eq_false_iff]
   intro w
   have:On y.1 b=true:=w
   rw [H3] at this
   omega
theorem Zie (n:Nat) (a b:Ty) (oa:a.Own) (ob:b.Own) (ha:a.kind=2∨a.kind=3) (hb:b.kind=2∨b.kind=3) (hn:200<n) :
  ((Gu n a.min (b.scale-a.scale)).bind fun y7=>if BM (b.scale-a.scale) then (Gu n a.max (b.scale-a.scale)).bind fun y10=>if (decide (b.scale<a.scale) && !decide (a.min=a.max))=true then some false else some (((y7.2&&y10.2)&&Bo y7.1 b)&&Bo y10.1 b) else none)=some (ZeX a b):=by
 have t:=oa.scale
 have o:=ob.scale
 obtain ⟨k,m⟩:=Zgw oa ha
 obtain ⟨y,g,j⟩:=WN n a.min a.scale b.scale k (by omega) (by omega) hn
 obtain ⟨z,i,f⟩:=WN n a.max a.scale b.scale m (by omega) (by omega) hn
 have h:=ZbA ob hb j
 have l:=ZbA ob hb f
 rw [g,Ae,Ah (by unfold BM;omega),i,Ae,ZeX]
 have d:(((y.2&&z.2)&&Bo y.1 b)&&Bo z.1 b)=((y.2&&Bo y.1 b)&&(z.2&&Bo z.1 b)):=by
  generalize y.2=p;generalize z.2=q;generalize Bo y.1 b=r;generalize Bo z.1 b=s
  revert p q r s;decide
 rw [d,h,l]
 by_cases c:b.scale<a.scale∧a.min≠a.max
 ·rw [Ah (by rw [Bool.and_eq_true,decide_eq_true_eq,Bool.not_eq_true',decide_eq_false_iff_not];exact c),Af (show ¬ a.scale≤b.scale by omega),Af c.2]
  cases Nz a.min a.scale b.scale with
  | none=>rfl
  | some x=>cases Nz a.max a.scale b.scale<;>simp [okN]
 ·rw [Ai (by rw [Bool.and_eq_true,decide_eq_true_eq,Bool.not_eq_true',decide_eq_false_iff_not];exact c)]
  have e:(decide (a.scale≤b.scale)||decide (a.min=a.max))=true:=by
   rw [Bool.or_eq_true,decide_eq_true_eq,decide_eq_true_eq]
   by_cases q:a.min=a.max
   ·exact .inr q
   ·left
    have:¬ b.scale<a.scale:=fun z=>c ⟨z,q⟩
    omega
  rw [e]
  cases Nz a.min a.scale b.scale with
  | none=>rfl
  | some x=>cases Nz a.max a.scale b.scale<;>simp [okN]
theorem ZdN (n:Nat) (a b:Ty) (w:ByteArray) (ha:a.kind=4) (hb:b.kind=4) (hl:b.words.length≤1000000000) (hn:b.words.length+1<n):AU n a b (A4 w)=some (A4 w,Es w b):=by
 obtain ⟨n,rfl⟩:∃ m,n=m+1:=⟨n-1,by omega⟩
 have c:(A4 w).text=w:=rfl
 rw [AU,GT,MM (.inl (by omega)),Ai (by decide),Af (show ¬ b.kind=2 by omega),Ai (by decide),Af (show ¬ b.kind=3 by omega),B7,Ai (by decide),Af (show ¬ b.kind=6 by omega),Ai (by decide),Af (show ¬ b.kind=7 by omega),B8,Ai (by decide),Af (show ¬ b.kind=5 by omega),Ai (by decide),Ag hb,Ah rfl,Es]
 by_cases q:b.words=[]
 ·rw [Ah q,q,Ai (by decide)];rfl
 ·have d:0<b.words.length:=List.length_pos_iff.2 q
  rw [Ai q,Ah (by rw [decide_eq_true_eq];omega),Ld n _ b hl (by omega),Ae,c]
theorem WX (n:Nat) (l:List ByteArray) (f:ByteArray→Option Bool) (p:ByteArray→Bool) (hf:∀ x∈l,f x=some (p x)) (hl:l.length≤1000000000) (hn:l.length<n):DD n l f=some (l.any p):=by
 have b:∀ (k m i:Nat),i+k=l.length→k<m→CE n l f m i=some (O0 p l i):=by
  intro k
  induction k with
  | zero =>
   intro m i c d
   obtain ⟨m,rfl⟩:∃ q,m=q+1:=⟨m-1,by omega⟩
   rw [CE,AC,Ac,MD p l i (by omega)];rfl
  | succ k ih =>
   intro m i c d
   obtain ⟨m,rfl⟩:∃ q,m=q+1:=⟨m-1,by omega⟩
   have a:i<l.length:=by omega
   rw [CE,AC,Ag a,Ah rfl,AM a,Ae,hf _ (List.getElem_mem a),Ae,J1 p l i a]
   cases p l[i] with
   | true=>rfl
   | false =>
    rw [Ai (by decide),Ah (AK (by omega)),Ai (show ¬ (false=true) by decide)]
    exact ih m (i+1) (by omega) (by omega)
 have e:FP n l f=some (O0 p l 0):=b l.length n 0 (by omega) hn
 rw [DD,e,Ae,L1]
theorem ZjR (n:Nat) (a b:Ty) (ha:a.kind=4) (hb:b.kind=4) (la:a.words.length≤1048576) (lb:b.words.length≤1048576) (hn:1048580<n):Iq n a b=some (Zce a b):=by
 rw [Iq,Zce]
 by_cases q:a.words=[]
 ·rw [q,Ai (by decide),Ai (show ¬ (([]:List ByteArray)≠[]) from fun h=>h rfl)]
  by_cases r:b.words=[]
  ·rw [r,Ai (by decide),Ai (show ¬ (([]:List ByteArray)≠[]) from fun h=>h rfl)];rfl
  ·have f:0<b.words.length:=List.length_pos_iff.2 r
   rw [Ah r,Ah (by rw [decide_eq_true_eq];omega)]
   by_cases z:a.max=0
   ·rw [Ag z,Ah rfl,Ld n _ b (by omega) (by omega),Es,Ai r,Bool.true_and];rfl
   ·rw [Af z,Ai (by decide),Bool.false_and]
 ·have d:0<a.words.length:=List.length_pos_iff.2 q
  rw [Ah q,Ah (by rw [decide_eq_true_eq];omega),WX n a.words (fun c=>FI n c a b) (fun w => !Es w b) (fun x e=>by rw [FI,ZdN n a b x ha hb (by omega) (by omega)];rfl) (by omega) (by omega),Ae,List.not_any_eq_all_not]
  simp
theorem Zfp (rec:Ty→Ty→Option Bool) (n:Nat) (a b:Ty) (la:a.words.length≤1048576) (lb:b.words.length≤1048576) (hn:1048580<n):∀ (k m i:Nat),i+k=a.words.length→k<m →
  G8 rec n a b m i=if ((a.words.drop i).all fun w=>Es w b)=true then Nc rec n a b else some false:=by
 intro k
 induction k with
 | zero =>
  intro m i d e
  obtain ⟨m,rfl⟩:∃ q,m=q+1:=⟨m-1,by omega⟩
  rw [G8,AC,Ac,Ai (show ¬ (false=true) by decide),List.drop_eq_nil_of_le (by omega),List.all_nil,Ah (show true=true from rfl)]
 | succ k ih =>
  intro m i d e
  obtain ⟨m,rfl⟩:∃ q,m=q+1:=⟨m-1,by omega⟩
  have c:i<a.words.length:=by omega
  rw [G8,AC,Ag c,Ah rfl,AM c,Ae,Zav n _ b (by omega) (by omega),Ae,List.drop_eq_getElem_cons c,List.all_cons]
  cases Es a.words[i] b with
  | false=>rw [Ah (show (!false)=true from rfl),Bool.false_and,Ai (show ¬ (false=true) by decide)]
  | true =>
   rw [Ai (show ¬ ((!true)=true) by decide),Ah (AK (by omega)),Bool.true_and]
   exact ih m (i+1) (by omega) (by omega)
theorem Zh9 (rec:Ty→Ty→Option Bool) (n:Nat) (a b:Ty) (la:a.words.length≤1048576) (lb:b.words.length≤1048576) (hn:1048580<n):G8 rec n a b n 0=some (Zce a b):=by
 have e:=Zfp rec n a b la lb hn a.words.length n 0 (by omega) (by omega)
 have c:G8 rec n a b n 0=_:=e
 rw [c,List.drop_zero,Zce,Nc]
 by_cases q:a.words=[]
 ·rw [q,List.all_nil,Ah rfl,Ai (by decide),Ai (show ¬ (([]:List ByteArray)≠[]) from fun h=>h rfl)]
  by_cases r:b.words=[]
  ·rw [r,Ai (by decide),Ai (show ¬ (([]:List ByteArray)≠[]) from fun h=>h rfl)];rfl
  ·have d:0<b.words.length:=List.length_pos_iff.2 r
   rw [Ah r,Ah (by rw [decide_eq_true_eq];omega)]
   by_cases z:a.max=0
   ·rw [Ag z,Ah rfl,Zav n _ b (by omega) (by omega),Bool.true_and];rfl
   ·rw [Af z,Ai (by decide),Bool.false_and]
 ·have f:0<a.words.length:=List.length_pos_iff.2 q
  rw [Ah q]
  cases h:a.words.all fun w=>Es w b with
  | false=>rfl
  | true=>rw [Ah rfl,Ah (by rw [decide_eq_true_eq];omega)]
def Yu (f:Ty→Ty→Bool) (a:Ty) (g:TF):Bool:=match Gx a.fields g.1 with | none => !decide (g.2.2.1=1) | some p=>f p.2.2.2.1 g.2.2.2.1 && !(decide (g.2.2.1=1)&&decide (p.2.2.1=2))
def Yw (f:Ty→Ty→Bool) (b:Ty) (p:TF):Bool:=match Gx b.fields p.1 with | none=>false | some g=>f p.2.2.2.1 g.2.2.2.1
theorem ZbT (rec:Ty→Ty→Option Bool) (f:Ty→Ty→Bool) (n:Nat) (a b:Ty) (la:a.fields.length≤1000000) (lb:b.fields.length≤1000000) (hn:1048580<n) (hr:∀ g∈b.fields,∀ p,Gx a.fields g.1=some p→rec p.2.2.2.1 g.2.2.2.1=some (f p.2.2.2.1 g.2.2.2.1)):∀ (k m i:Nat),i+k=b.fields.length→k<m →
  Gp rec n a b m i=some ((b.fields.drop i).all (Yu f a))
 | k,0,i,_,h=>absurd h (Nat.not_lt_zero _)
 | 0,m+1,i,hi,_=>by
  rw [Gp,AC,Ac,Ai (by decide),List.drop_eq_nil_of_le (by omega),List.all_nil];rfl
 | k+1,m+1,i,hi,hm=>by
  have d:i<b.fields.length:=by omega
  have j:=List.getElem_mem d
  have ih:=ZbT rec f n a b la lb hn hr k m (i+1) (by omega) (by omega)
  rw [Gp,AC,Ag d,Ah rfl,AM d,Ae,NE n a _ (by omega) (by omega),Ae,List.drop_eq_getElem_cons d,List.all_cons,Yu]
  cases q:Gx a.fields b.fields[i].1 with
  | none =>
   by_cases c:b.fields[i].2.2.1=1
   ·rw [Ag c,Ah (by rfl)];rfl
   ·rw [Af c,Ai (by simp),Ai (by simp),Ah (AK (by omega))]
    simpa using ih
  | some p =>
   rw [Ai (by simp),Ah Option.isSome_some,Option.getD_some,hr _ j p q,Ae]
   simp only
   cases hf:f p.2.2.2.1 b.fields[i].2.2.2.1 with
   | false=>rw [Ah (by rfl)];simp [hf]
   | true =>
    by_cases c:b.fields[i].2.2.1=1∧p.2.2.1=2
    ·rw [Ag c.1,Ag c.2,Ah (by rfl)];simp [hf]
    ·have e:(decide (b.fields[i].2.2.1=1)&&decide (p.2.2.1=2))=false:=by
      rw [Bool.eq_false_iff];intro z;rw [Bool.and_eq_true,decide_eq_true_eq,decide_eq_true_eq] at z;exact c z
     rw [e,Ai (by decide),Ah (AK (by omega))]
     refine (show Gp rec n a b m ((i:Int)+1)=_ from ih).trans ?_
     simp [hf]
theorem Zbb (rec:Ty→Ty→Option Bool) (f:Ty→Ty→Bool) (n:Nat) (a b:Ty) (la:a.fields.length≤1000000) (lb:b.fields.length≤1000000) (hn:1048580<n) (hr:∀ p∈a.fields,∀ g,Gx b.fields p.1=some g→rec p.2.2.2.1 g.2.2.2.1=some (f p.2.2.2.1 g.2.2.2.1)):∀ (k m i:Nat),i+k=a.fields.length→k<m →
  IF rec n a b m i=some ((a.fields.drop i).all (Yw f b))
 | k,0,i,_,h=>absurd h (Nat.not_lt_zero _)
 | 0,m+1,i,hi,_=>by
  rw [IF,AC,Ac,Ai (by decide),List.drop_eq_nil_of_le (by omega),List.all_nil];rfl
 | k+1,m+1,i,hi,hm=>by
  have c:i<a.fields.length:=by omega
  have d:=List.getElem_mem c
  have ih:=Zbb rec f n a b la lb hn hr k m (i+1) (by omega) (by omega)
  rw [IF,AC,Ag c,Ah rfl,AM c,Ae,NE n b _ (by omega) (by omega),Ae,List.drop_eq_getElem_cons c,List.all_cons,Yw]
  cases q:Gx b.fields a.fields[i].1 with
  | none=>rw [Ah (by rfl)];rfl
  | some g =>
   rw [Ai (by simp),Option.getD_some,hr _ d g q,Ae]
   simp only
   cases hf:f a.fields[i].2.2.2.1 g.2.2.2.1 with
   | false=>rfl
   | true =>
    rw [Ai (by decide),Ah (AK (by omega)),Bool.true_and]
    exact ih
theorem Zdk {α:Type} (l:List α) (p:α→Bool):(!l.any fun x => !p x)=l.all p:=by rw [List.not_any_eq_all_not];simp
theorem X4:∀ (d n:Nat) (a b:Ty),a.small→b.small→a.Good→b.Good→a.depth≤d→d+2000000<n→AN n a b=some (Fe d a b)∧HE n a b=some (Fe d a b)
 | 0,n,a,b,_,_,_,_,h,_=>by have:=a.depth_eq;omega
 | d+1,0,a,b,_,_,_,_,_,h=>absurd h (by omega)
 | d+1,n+1,a,b,sa,sb,ga,gb,hd,hn=>by
  have o:=ga.own
  have l:=gb.own
  have U:=a.lens
  have Q:=b.lens
  have G:=sa.1
  have J:=sb.1
  have D:=(a.ok_eq.1 sa.2.2).1
  have C:=(b.ok_eq.1 sb.2.2).1
  rw [AN,Gy,HE,TN,Fe]
  by_cases num:(a.kind=2∨a.kind=3)∧(b.kind=2∨b.kind=3)
  ·have s:(if decide (b.kind=2)=true then BZ (AN n) n a b true else BZ (AN n) n a b (decide (b.kind=3)))=BZ (AN n) n a b true:=by
    rcases num.2 with q | q
    ·rw [Ag q,Ah rfl]
    ·rw [Ag q];exact ite_self _
   have N:=o.scale
   have H:=l.scale
   have k:=Zie n a b o l num.1 num.2 (by omega)
   rw [Ah num,MM (.inr num),Ai (by decide),s,BZ,Ah rfl,ZjW n a b o l num.1 num.2 (by omega),Uh o num.1,Uh l num.2,Ag N.1,Ag H.1,Ah (by rfl),Ah (by unfold BM;omega)]
   exact ⟨rfl,k⟩
  have w:(decide (0≤A1 a)&&decide (0≤A1 b))=false:=by
   rw [Bool.eq_false_iff]
   intro q
   rw [Bool.and_eq_true,decide_eq_true_eq,decide_eq_true_eq] at q
   exact num ⟨Q2 q.1,Q2 q.2⟩
  rw [Ai num,w,Ai (show ¬ (false=true) by decide)]
  by_cases ne:a.kind=b.kind
  rotate_left
  ·rw [Ah ne,Sl ne num,Ah (by rfl),Af ne,Ah (by rfl)]
   exact ⟨rfl,rfl⟩
  have v:¬ b.kind=2:=fun q=>num ⟨by omega,.inl q⟩
  have t:¬ b.kind=3:=fun q=>num ⟨by omega,.inr q⟩
  rw [Ai (show ¬ a.kind≠b.kind from fun q=>q ne),MM (.inl ne),Ai (show ¬ ((!true)=true) by decide),Af v,Ai (show ¬ (false=true) by decide),Af t,BZ,Ai (show ¬ (false=true) by decide),Ag ne,Ai (show ¬ ((!true)=true) by decide)]
  by_cases k1:b.kind=1
  ·rw [Ah k1,Ag k1,Ah rfl,Ah rfl]
   exact ⟨rfl,rfl⟩
  rw [Ai k1,Af k1,Ai (show ¬ (false=true) by decide),Ai (show ¬ (false=true) by decide)]
  by_cases k4:b.kind=4
  ·rw [Ah k4,Ag k4,Ah rfl,Ah rfl,ZjR n a b (by omega) k4 D C (by omega),Zh9 _ n a b D C (by omega)]
   exact ⟨rfl,rfl⟩
  rw [Ai k4,Af k4,Ai (show ¬ (false=true) by decide),Ai (show ¬ (false=true) by decide)]
  by_cases k8:b.kind=8
  ·obtain ⟨x,F⟩:=o.elem (by omega)
   obtain ⟨y,E⟩:=l.elem k8
   have j:x∈a.elem:=by rw [F];simp
   have m:y∈b.elem:=by rw [E];simp
   obtain ⟨K,O⟩:=X4 d n x y (Ty.small_elem sa j) (Ty.small_elem sb m) (Ea ga j) (Ea gb m) (by have:=Ty.depth_elem j;omega) (by omega)
   rw [Ah k8,Ag k8,Ah rfl,Ah rfl,F,E,show B1 [x] 0=some x from rfl,show B1 [y] 0=some y from rfl,Ae,Ae,Ae,Ae,K,O,show Ek a b=Ye a b from rfl,show GY a b=Ye a b from rfl]
   cases Ye a b with
   | false=>exact ⟨rfl,rfl⟩
   | true =>
    by_cases z:a.max=0
    ·rw [Ag z];exact ⟨rfl,rfl⟩
    ·rw [Af z];exact ⟨rfl,rfl⟩
  rw [Ai k8,Af k8,Ai (show ¬ (false=true) by decide),Ai (show ¬ (false=true) by decide)]
  by_cases k9:b.kind=9
  ·have ih:∀ g∈b.fields,∀ p,Gx a.fields g.1=some p→AN n p.2.2.2.1 g.2.2.2.1=some (Fe d p.2.2.2.1 g.2.2.2.1)∧HE n p.2.2.2.1 g.2.2.2.1=some (Fe d p.2.2.2.1 g.2.2.2.1):=fun g e p c=>by
    have i:p∈a.fields:=List.mem_of_find?_eq_some c
    exact X4 d n _ _ (Ty.small_field sa i) (Ty.small_field sb e) (A9 ga i) (A9 gb e) (by have:=Ty.depth_field i;omega) (by omega)
   have s:=Pz n b.fields (fun u=>Dv (AN n) n u a) (fun g => !Yu (Fe d) a g) (fun g e=>by
    rw [Dv,Gq,NS n a.fields _ (by omega) (by omega),Ae,Yu]
    cases q:Gx a.fields g.1 with
    | none=>rfl
    | some p=>rw [Ai (by simp),Option.getD_some,(ih g e p q).1];rfl) (by omega) (by omega)
   have k:=ZbT (HE n) (Fe d) n a b (by omega) (by omega) (by omega) (fun g e p c=>(ih g e p c).2) b.fields.length n 0 (by omega) (by omega)
   rw [List.drop_zero] at k
   have f:Gp (HE n) n a b n 0=_:=k
   rw [Ah k9,Ag k9,Ah rfl,s,Ae,Af (show ¬ b.kind=10 by omega),Ai (show ¬ (false=true) by decide),Ah rfl,f,Zdk]
   exact ⟨rfl,rfl⟩
  rw [Ai k9,Af k9,Ai (show ¬ (false=true) by decide)]
  by_cases k10:b.kind=10
  ·have ih:∀ p∈a.fields,∀ g,Gx b.fields p.1=some g→AN n p.2.2.2.1 g.2.2.2.1=some (Fe d p.2.2.2.1 g.2.2.2.1)∧HE n p.2.2.2.1 g.2.2.2.1=some (Fe d p.2.2.2.1 g.2.2.2.1):=fun p c g e=>by
    have r:g∈b.fields:=List.mem_of_find?_eq_some e
    exact X4 d n _ _ (Ty.small_field sa c) (Ty.small_field sb r) (A9 ga c) (A9 gb r) (by have:=Ty.depth_field c;omega) (by omega)
   have s:=Pz n a.fields (fun u=>Dw (AN n) n u b) (fun p => !Yw (Fe d) b p) (fun p c=>by
    rw [Dw,FM,NS n b.fields _ (by omega) (by omega),Ae,Yw]
    cases q:Gx b.fields p.1 with
    | none=>rfl
    | some g=>rw [Ah (by rfl),Option.getD_some,(ih p c g q).1];rfl) (by omega) (by omega)
   have k:=Zbb (HE n) (Fe d) n a b (by omega) (by omega) (by omega) (fun p c g e=>(ih p c g e).2) a.fields.length n 0 (by omega) (by omega)
   rw [List.drop_zero] at k
   have f:IF (HE n) n a b n 0=_:=k
   rw [Ah k10,Ag k10,Ah rfl,Ah rfl,s,Ae,f,Zdk]
   exact ⟨rfl,rfl⟩
  ·rw [Ai k10,Af k10,Ai (show ¬ (false=true) by decide),Ai (show ¬ (false=true) by decide),Ai (show ¬ (false=true) by decide)]
   exact ⟨rfl,rfl⟩
theorem ZfI {t:Ty} {v:Vl} (h:((t.words.any fun x=>Eb x v.text)||(decide ((t.words.length:Int)=0)&&RS t v.text.size))=true):Es v.text t=true:=by
 rw [Es]
 by_cases q:t.words=[]
 ·rw [Ah q]
  rw [q,List.any_nil,Bool.false_or,Bool.and_eq_true] at h
  exact h.2
 ·rw [Ai q]
  have a:0<t.words.length:=List.length_pos_iff.2 q
  rw [Af (show ¬ (t.words.length:Int)=0 by omega),Bool.false_and,Bool.or_false] at h
  exact h
theorem OQ:∀ (d e:Nat) (t:Ty) (x:Vl),t.Good→x.Good→t.depth≤e→FB d t x=true→Zbh e t x
 | 0,e,t,x,_,_,_,h=>by simp [FB] at h
 | d+1,0,t,x,_,_,hd,_=>by have:=t.depth_eq;omega
 | d+1,e+1,t,x,gt,gx,hd,h=>by
  have o:=gt.own
  have j:=RX (GR gx)
  have w:=o.kind
  rw [FB] at h
  by_cases hk:t.kind=x.kind
  rotate_left
  ·rw [Ah hk] at h;cases h
  rw [Ai (fun q=>q hk)] at h
  have g:=KZ w hk.symm j
  by_cases k2:t.kind=2∨t.kind=6∨t.kind=7
  ·rw [Ah k2] at h
   exact Oz (by omega) (by omega) (by omega) (by rw [Du,Ai g,Ah k2];exact h)
  rw [Ai k2] at h
  by_cases k3:t.kind=3
  ·rw [Ah k3] at h
   exact Oz (by omega) (by omega) (by omega) (by rw [Du,Ai g,Ai k2,Ah k3];exact h)
  rw [Ai k3] at h
  by_cases k4:t.kind=4
  ·rw [Ah k4] at h
   exact Oz (by omega) (by omega) (by omega) (by rw [Du,Ai g,Ai k2,Ai k3,Ah k4];exact ZfI h)
  rw [Ai k4] at h
  by_cases k5:t.kind=5
  ·rw [Ah k5] at h
   exact Oz (by omega) (by omega) (by omega) (by rw [Du,Ai g,Ai k2,Ai k3,Ai k4,Ah k5];exact h)
  rw [Ai k5] at h
  by_cases k8:t.kind=8
  ·rw [Ah k8,Bool.and_eq_true,List.all_eq_true] at h
   obtain ⟨y,n⟩:=o.elem k8
   have a:y∈t.elem:=by rw [n];simp
   refine ZeK k8 (by omega) j n h.2 fun u s=>?_
   have f:=h.1 u s
   rw [List.all_eq_true] at f
   exact OQ d e y u (Ea gt a) (E4 gx (by rw [Bn,Ah (.inl (by omega))];exact s)) (by have:=Ty.depth_elem a;omega) (f y a)
  rw [Ai k8] at h
  by_cases k10:t.kind=10
  ·rw [Ah k10] at h
   obtain ⟨z,i⟩:=UV gx (by omega)
   cases c:A7 t x.text with
   | none=>rw [c] at h;cases h
   | some p =>
    rw [c,i] at h
    have b:=(BC c).1
    have h:FB d p.2.2.2.1 z=true:=by simpa using h
    exact Zd6 k10 (by omega) j c i (OQ d e _ z (A9 gt b) (E4 gx (by rw [Bn,Ah (.inr (by omega)),i];simp)) (by have:=Ty.depth_field b;omega) h)
  rw [Ai k10] at h
  by_cases k9:t.kind=9
  ·rw [Ah k9,Bool.and_eq_true,List.all_eq_true] at h
   obtain ⟨r,m⟩:=h
   rw [Bool.not_eq_true',List.any_eq_false] at m
   refine Zfy k9 (by omega) j (fun p b=>?_) fun q k=>?_
   ·cases c:DG x p.2.1 with
    | none =>
     right
     refine ⟨rfl,?_⟩
     have l:=m p b
     have v:Qf x p.2.1=false:=by
      cases q:Qf x p.2.1 with
      | false=>rfl
      | true =>
       rw [Qf,List.any_eq_true] at q
       obtain ⟨z,i,e⟩:=q
       rw [DG,Option.map_eq_none_iff,List.find?_eq_none] at c
       exact absurd e (c z i)
     rw [Zg,v] at l
     by_cases q:p.2.2.1=2
     ·exact q
     ·rw [Af q] at l;exact absurd rfl l
    | some y =>
     left
     refine ⟨y,rfl,?_⟩
     obtain ⟨q,k,C,rfl⟩:=IC c
     have:=r q k
     rw [C,G9 (HM _ _ _ o.apart).1 b] at this
     exact OQ d e _ _ (A9 gt b) (E4 gx (by rw [Bn,Aa,Ab];exact List.mem_map_of_mem k)) (by have:=Ty.depth_field b;omega) this
   ·have:=r q k
    cases c:A7 t q.1 with
    | none=>rw [c] at this;cases this
    | some p=>rfl
  ·exact Oz k8 k9 k10 (by rw [Du,Ai g,Ai k2,Ai k3,Ai k4,Ai k5,Ai k8,Ai k9,Ai k10])
def Ef (n:Nat) (q:Ty) (g:Ty):Option Int :=
 (Bz n q).bind fun b =>
 if !(decide (b=0)) then
  some (b)
 else
  (Bz n g).bind fun h =>
  some (h)
theorem LU (w0:World) (hT:Lib.Utf8Tabs 2 3 w0) (n:Nat) (B:Am) (Rw:Aq) (L:Ar) (a0:Ty) (a1:Ty) (r:Int) (h:Ef n a0 a1=some r) :
  ACalls Tryz.prog w0 42 [.agg (a0.cs),.agg (a1.cs)] ⟨B,Rw,L⟩ fun x st=>x=Ak r∧st=⟨B,Rw,L⟩:=by
 rw [Ef] at h
 refine hd [.tmp 4] Tryz.func42 Tryz.ntmps42 fun M0 W0 e d c b g f hs=>?_
 simp only [AG]
 exact go (tg (a:=([2,3],[3,5],[3,5,9],([4],()),[3],[4],()))) h hs e d c b f (q1 (PQ w0 hT n)) trivial
def FD (n:Nat) (q:Ty) (a1:Ty) (a2:Vl):Option (Vl × Int) :=
 (Ef n q a1).bind fun y4 =>
 if !(decide (y4=0)) then
  some ((Vl.mk 0 0 0 (⟨#[]⟩:ByteArray) ([]) ([]),y4))
 else
  (GN n q a2).bind fun g =>
  if !(decide (g.2=0)) then
   some ((Vl.mk 0 0 0 (⟨#[]⟩:ByteArray) ([]) ([]),g.2))
  else
   (AU n q a1 g.1).bind fun b =>
   if !b.2 then
    some ((Vl.mk 0 0 0 (⟨#[]⟩:ByteArray) ([]) ([]),20))
   else
    (GU n b.1).bind fun h =>
    if !(decide (h=0)) then
     some ((Vl.mk 0 0 0 (⟨#[]⟩:ByteArray) ([]) ([]),9))
    else
     (Bm n b.1).bind fun y =>
     some ((y,0))
theorem NM (w0:World) (hP:Pow10 w0) (hT:Lib.Utf8Tabs 2 3 w0) (n:Nat) (B:Am) (Rw:Aq) (L:Ar) (a0:Ty) (a1:Ty) (a2:Vl) (r:Vl × Int) (h:FD n a0 a1 a2=some r) :
  ACalls Tryz.prog w0 18 [.agg (a0.cs),.agg (a1.cs),.agg (a2.cs)] ⟨B,Rw,L⟩ fun x st=>x = .tup [.agg (r.1.cs),Ak r.2]∧st=⟨B,Rw,L⟩:=by
 rw [FD] at h
 refine hd [.cell 6 34,.tmp 7] Tryz.func18 Tryz.ntmps18 fun M0 W0 e d c b g f hs=>?_
 simp only [AG]
 exact go (tg (a:=([3,4,5,6],[3,4,5,6,8],[3,4,5,6,8,16],([6,7],()),[3,4,5,6],[3,4,5,6,9],[3,4,5,6,9,26],([6,7],()),[3,4,5,6],[6,10,11],[6,10,36],([6,7],()),[6,10,40],([6,7],()),[6,10],[6,7],()))) h hs e d c b f (Ad (LU w0 hT n) (Ad (P0 w0 hP hT n) (q3 (F6 w0 n) (SV w0 hT n) (DO w0 n)))) trivial
def UpR (t1 t2:Ty) (v:Vl):Vl × Int:=if Du 12 t1 (C4 12 t1 v)=true then (match LN 12 t1 t2 (C4 12 t1 v) with | none=>(nilV,20) | some y=>if OR y=0 then (y,0) else (nilV,9)) else (nilV,18)
theorem ZcO (n:Nat) (t1 t2:Ty) (v:Vl) (hn:10000000000≤n) (q1:t1.small) (q2:t2.small) (vok:v.ok) (hv:v.size≤1048576) (e1:Bz n t1=some 0) (e2:Bz n t2=some 0) (g1:t1.Fine 8) (g2:t2.Fine 8):FD n t1 t2 v=some (UpR t1 t2 v):=by
 have j:∀ c:Int,c≠0→(!decide (c=0))=true:=fun c h=>by rw [Af h];rfl
 have b:(!decide ((0:Int)=0))=false:=by decide
 have d:Ef n t1 t2=some 0:=by rw [Ef,e1,Ae,b,Ai (show ¬ (false=true) by decide),e2];rfl
 have l:=VS n t1 v q1 vok hv (by omega)
 obtain ⟨m,i⟩:=Tj 12 t1 v q1 vok hv
 have r:=v.depth_size
 rw [FD,d,Ae,b,Ai (show ¬ (false=true) by decide),l,Ae,UpR]
 by_cases hf:Du 12 t1 (C4 12 t1 v)=true
 rotate_left
 ·rw [Ai hf,Ai hf,Ah (show (!decide ((nilV,(18:Int)).2=0))=true by decide)]
 rw [Ah hf,Ah hf,b,Ai (show ¬ (false=true) by decide)]
 obtain ⟨f,q,k,s,a,p⟩:=Zb 12 n (v.depth+1048576) 8 t1 t2 (C4 12 t1 v) q1 q2 g1.good g2 m i hf (by omega)
 rw [k,Ae]
 cases o:LN 12 t1 t2 (C4 12 t1 v) with
 | none =>
  rw [o] at a
  have x1:f.2=false:=a.1
  rw [x1,Ah (by rfl)]
 | some y =>
  rw [o] at a
  have x1:f=(y,true):=a.1
  obtain ⟨_,g,e⟩:=a
  subst x1
  have e:y.depth≤v.depth+1048576+1048576:=e
  rw [Ai (by simp),Zc6 n y (by omega) (by omega) g,Ae]
  by_cases c:OR y=0
  ·rw [c,b,Ai (show ¬ (false=true) by decide),JP n y g (by omega),Ae];simp only [c,if_true]
  ·rw [Ah (j _ c)];simp only [c,if_false]
theorem Z1 {l:List TF} {k:Int} {p:TF} (h:Gx l k=some p):p∈l∧p.1=k:=⟨List.mem_of_find?_eq_some h,of_decide_eq_true (List.find?_some (p:=fun x:TF=>decide (x.1=k)) h)⟩
theorem G7 {v:Vl} (i s t l f:Bool) (h:bare i s t l f v=true):(i=false→v.int=0)∧(s=false→v.scale=0)∧(t=false→v.text=⟨#[]⟩)∧(l=false→v.list=[])∧(f=false→v.fields=[]):=by
 simp only [bare,Bool.and_eq_true,Bool.or_eq_true,decide_eq_true_eq,Db] at h
 obtain ⟨⟨⟨⟨h1,h2⟩,h3⟩,h4⟩,h5⟩:=h
 refine ⟨fun q=>?_,fun q=>?_,fun q=>?_,fun q=>?_,fun q=>?_⟩
 ·subst q;rcases h1 with h | h;cases h;exact h
 ·subst q;rcases h2 with h | h;cases h;exact h
 ·subst q;rcases h3 with h | h;cases h;exact h
 ·subst q;rcases h4 with h | h;cases h;exact List.length_eq_zero_iff.1 h
 ·subst q;rcases h5 with h | h;cases h;exact List.length_eq_zero_iff.1 h
theorem To {α:Type} (f:α→Nat):∀ (xs ys:List α),xs.Nodup→(∀ x∈xs,x∈ys)→(xs.map f).sum≤(ys.map f).sum
 | [],ys,_,_=>by simp
 | x::xs,ys,hn,h=>by
  obtain ⟨s,t,rfl⟩:=List.append_of_mem (h x (List.mem_cons_self ..))
  rw [List.nodup_cons] at hn
  have:=To f xs (s++t) hn.2 fun z a=>by
   have b:=h z (List.mem_cons_of_mem _ a)
   rcases List.mem_append.1 b with q | q
   ·exact List.mem_append_left _ q
   ·rcases List.mem_cons.1 q with rfl | q
    ·exact absurd a hn.1
    ·exact List.mem_append_right _ q
  simp only [List.map_append,List.sum_append,List.map_cons,List.sum_cons] at this ⊢
  omega
theorem QX:∀ (d:Nat) (t:Ty) (v:Vl),Du d t v=true→v.depth≤t.depth
 | 0,t,v,h=>by simp [Du] at h
 | d+1,t,v,hf=>by
  obtain ⟨w,E,G,a⟩:=Lq hf
  have D:=KZ ⟨E,G⟩ w a
  have F:=t.depth_eq
  have g:=v.depth_eq
  rw [Du,Ai D] at hf
  have flat:v.list=[]→v.fields=[]→v.depth≤t.depth:=fun e f=>by rw [g,e,f,F,GE,Gz];omega
  by_cases k8:t.kind=8
  ·rw [Aa,Aa,Aa,Aa,Ah k8,Bool.and_eq_true,List.all_eq_true] at hf
   rw [AW,Aa,Aa,Aa,Aa,Aa,Ab] at a
   have b:=(G7 _ _ _ _ _ a).2.2.2.2 rfl
   have:=(Ie v.list (t.depth-1)).2 fun u H=>by
    have:=hf.2 u H
    cases he:t.elem with
    | nil=>rw [he] at this;cases this
    | cons x r =>
     cases r with
     | nil =>
      rw [he] at this
      have e:=QX d x u this
      have f:=Ty.depth_elem (t:=t) (x:=x) (by rw [he];simp)
      omega
     | cons y r=>rw [he] at this;cases this
   rw [g,b,Gz];omega
  by_cases k9:t.kind=9
  ·rw [Aa,Aa,Aa,Aa,Ai k8,Ah k9,Bool.and_eq_true,List.all_eq_true,List.all_eq_true] at hf
   have C:=Ky a (by omega)
   rw [AW,Aa,Aa,Aa,Aa,Aa,Aa,Ab,Bool.and_eq_true] at a
   have j:=(G7 _ _ _ _ _ a.2).2.2.2.1 rfl
   have:=(Jn v.fields (t.depth-1)).2 fun q l=>by
    have:=hf.2 q l
    cases c:A7 t q.1 with
    | none=>rw [c] at this;cases this
    | some p =>
     obtain ⟨m,o⟩:=BC c
     have e:=hf.1 p m
     rw [o,Jm C l] at e
     have f:=QX d _ _ e
     have z:=Ty.depth_field m
     omega
   rw [g,j,GE];omega
  by_cases k10:t.kind=10
  ·rw [Aa,Aa,Aa,Aa,Ai k8,Ai k9,Ah k10] at hf
   have one:=Nq a (by omega)
   rw [AW,Aa,Aa,Aa,Aa,Aa,Aa,Aa,Ab,Bool.and_eq_true] at a
   have b:=(G7 _ _ _ _ _ a.2).2.2.2.2 rfl
   obtain ⟨x,n⟩:=List.length_eq_one_iff.1 one
   cases c:A7 t v.text with
   | none=>rw [c] at hf;simp at hf
   | some p =>
    rw [c,n] at hf
    have f:=QX d _ x hf
    have z:=Ty.depth_field (BC c).1
    rw [g,n,b,GE,GE,Gz];omega
  ·have:v.list=[]∧v.fields=[]:=by
    have k:∃ i s t,bare i s t false false v=true:=by
     rw [AW] at a
     split at a
     ·rw [Bool.and_eq_true] at a;exact ⟨_,_,_,a.2⟩
     split at a
     ·exact ⟨_,_,_,a⟩
     split at a
     ·exact ⟨_,_,_,a⟩
     split at a
     ·rw [Bool.and_eq_true] at a;exact ⟨_,_,_,a.2⟩
     split at a
     ·exact ⟨_,_,_,a⟩
     rw [Aa,Aa,Aa] at a
     exact ⟨_,_,_,a⟩
    obtain ⟨i,s,t,k⟩:=k
    obtain ⟨_,_,_,J,K⟩:=G7 _ _ _ _ _ k
    exact ⟨J rfl,K rfl⟩
   exact flat this.1 this.2
theorem ZaV (n:Nat) (v:Vl) (hn:v.size<n) (hs:v.size≤1000000000):MY n v=some v:=by
 have c:=IM v
 rw [MY]
 have:=ZgO n v ⟨by omega,by omega⟩ (by omega) ⟨fun x a=>FZ n x (by have:=v.list_size x a;omega) (by have:=v.list_size x a;omega),fun p b=>FZ n p.2 (by have:=v.field_size p b;omega) (by have:=v.field_size p b;omega)⟩ v.list.length n 0 (by omega) (by omega)
 rw [List.take_zero] at this
 exact this
theorem Zbn (n:Nat) (l:List (ByteArray × Vl)) (f:ByteArray × Vl→Option Bool) (p:ByteArray × Vl→Bool) (hf:∀ x∈l,f x=some (p x)) (hl:l.length≤1000000000):∀ (k m i:Nat),i+k=l.length→k<m→CN n l f m i=some (O0 p l i)
 | k,0,i,_,h=>absurd h (Nat.not_lt_zero _)
 | 0,m+1,i,hi,_=>by
  rw [CN,AC,Ac,MD p l i (by omega)]
  rfl
 | k+1,m+1,i,hi,hm=>by
  have a:i<l.length:=by omega
  rw [CN,AC,Ag a,J1 p l i a]
  simp only [if_true,AM a,Ae,hf _ (List.getElem_mem a)]
  by_cases h:p l[i]=true
  ·rw [Ah h,Ah h]
  ·rw [Ai h,Ai h,Ah (AK (by omega))]
   exact Zbn n l f p hf hl k m (i+1) (by omega) (by omega)
theorem Zkd {l:List (ByteArray × Vl)} (hs:SS l) {i:Nat} (hi:i<l.length) (x:Vl):SS (l.set i (l[i].1,x)):=by
 unfold SS at *
 have e:(l.set i (l[i].1,x)).map Prod.fst=l.map Prod.fst:=by
  apply List.ext_getElem
  ·simp
  ·intro j d f
   simp only [List.getElem_map,List.getElem_set]
   split
   ·rename_i q;subst q;rfl
   ·rfl
 have c:∀ m:List (ByteArray × Vl),m.Pairwise (fun a b=>E6 a.1 b.1<0)↔(m.map Prod.fst).Pairwise (fun a b=>E6 a b<0):=fun m=>by rw [List.pairwise_map]
 rw [c,e,←c]
 exact hs
theorem Zd9 (n:Nat) (v x:Vl) (w:ByteArray) (hn:v.size+10≤n) (hs:v.size≤1000000) (hx:x.size+10≤n) (hxs:x.size≤1000000) (hk:v.kind=9) (hw:w.size≤maxLen) (hw2:Ft w=true) (hx2:A3 x=false) (ss:SS v.fields) :
  (Qf v w=false∧64≤v.fields.length∧Ia n v w x=some (Vl.mk 0 0 0 ⟨#[]⟩ [] [],9)) ∨
  (∃ fs,Ia n v w x=some (Vl.mk v.kind v.int v.scale v.text v.list fs,0)∧SS fs∧(w,x)∈fs∧(∀ q∈fs,q=(w,x)∨q∈v.fields)∧(∀ q∈v.fields,q.1≠w→q∈fs)∧Bi fs≤Bi v.fields+x.size∧(Qf v w=false→fs.length=v.fields.length+1)∧(Qf v w=true→fs.length=v.fields.length)):=by
 have hl:=ML v
 have e:BW n v.fields (fun x=>some (F7 x w))=some (O0 (fun x:ByteArray × Vl=>Eb x.1 w) v.fields 0):=UE n v.fields _ _ (fun x _=>rfl) (by omega) v.fields.length n 0 (by omega) (by omega)
 have m:=FZ n x (by omega) (by omega)
 have o:=ZaV n v (by omega) (by omega)
 rw [Ia,JF,e]
 simp only [Ae]
 rw [Ag hk,Ai (by decide),Ah hw,hw2,Ai (by decide),hx2,Ai (by decide)]
 cases h:Qf v w with
 | true =>
  have d:=h
  unfold Qf at d
  rcases Ot (fun x:ByteArray × Vl=>Eb x.1 w) v.fields v.fields.length 0 (by omega) with q | ⟨i,hi,q,q2⟩
  ·have:=L1 (fun x:ByteArray × Vl=>Eb x.1 w) v.fields
   rw [q,d] at this
   cases this
  ·right
   have en:v.fields[i].1=w:=(Db _ _).1 q2
   refine ⟨v.fields.set i (v.fields[i].1,x),?_,Zkd ss hi x,?_,fun p f=>?_,fun p f ne=>?_,?_,fun q=>by simp at q,fun _=>by simp⟩
   ·rw [q,Af (show ¬ ((i:Nat):Int)<0 by omega),Bool.false_and,Ai (by decide),o,Ae,Ah (Ag (by omega)),m,Ae,AM hi,Ae,Int.toNat_natCast]
   ·rw [en];exact List.mem_iff_getElem.2 ⟨i,by simpa using hi,by simp⟩
   ·rcases List.mem_or_eq_of_mem_set f with z | z
    ·exact .inr z
    ·left;rw [z,en]
   ·obtain ⟨j,g,rfl⟩:=List.mem_iff_getElem.1 f
    refine List.mem_iff_getElem.2 ⟨j,by simpa using g,?_⟩
    rw [List.getElem_set,Ai]
    intro z;subst z;exact ne en
   ·have:∀ (l:List (ByteArray × Vl)) (i:Nat) (y:ByteArray × Vl),Bi (l.set i y)≤Bi l+y.2.size:=by
     intro l
     induction l with
     | nil=>intro i y;simp [Bi]
     | cons a r ih =>
      intro i y
      cases i with
      | zero=>simp only [List.set_cons_zero,Bi];omega
      | succ i=>simp only [List.set_cons_succ,Bi];have:=ih i y;omega
    exact this _ _ _
 | false =>
  have d:=h
  unfold Qf at d
  have nin:inN v.fields w=false:=by
   rw [Bool.eq_false_iff]
   intro q
   obtain ⟨p,f,e1⟩:=MF.1 q
   rw [List.any_eq_false] at d
   exact d p f ((Db _ _).2 e1)
  have hf:O0 (fun x:ByteArray × Vl=>Eb x.1 w) v.fields 0<0:=by
   have:=Zan (fun x:ByteArray × Vl=>Eb x.1 w) v.fields
   rw [d] at this
   exact of_decide_eq_true this
  rw [Ag hf,Bool.true_and]
  by_cases h64:64≤(v.fields.length:Int)
  ·left
   rw [Ag h64,Ah rfl]
   exact ⟨rfl,by omega,rfl⟩
  ·right
   rw [Af h64,Ai (by decide),o,Ae,Ai (by rw [decide_eq_true_eq];omega)]
   have e2:FT n v.fields (fun x0=>some (DR x0 w))=some (O0 (fun x0:ByteArray × Vl=>DR x0 w) v.fields 0):=Zbn n v.fields _ _ (fun x _=>rfl) (by omega) v.fields.length n 0 (by omega) (by omega)
   have s:∀ j:Nat,j≤v.fields.length→j=S9 v.fields w→KU n w x v j v.fields=some (Vl.mk v.kind v.int v.scale v.text v.list (RA v.fields w x),0):=fun j h1 J=>by
    rw [KU,m,Ae,Ah ⟨⟨by omega,by omega⟩,by omega,by omega⟩,RA,←J]
   have b:∀ p∈v.fields,DR p w=false→E6 p.1 w<0:=fun p f q=>by
    rw [DR,Bool.not_eq_false',Bool.or_eq_true,Rn,decide_eq_true_eq] at q
    rcases q with q | q
    ·exact q
    ·rw [MF.2 ⟨p,f,(Db _ _).1 q⟩] at nin;cases nin
   have D:∀ fs,Ia n v w x=Ia n v w x→fs=RA v.fields w x→SS fs∧(w,x)∈fs∧(∀ q∈fs,q=(w,x)∨q∈v.fields)∧(∀ q∈v.fields,q.1≠w→q∈fs)∧Bi fs≤Bi v.fields+x.size∧fs.length=v.fields.length+1:=fun fs _ hfs=>by
    subst hfs
    have C:=Rh v.fields w x
    refine ⟨Z9 ss nin x,C.mem_iff.2 (List.mem_cons_self ..),fun q E=>List.mem_cons.1 (C.mem_iff.1 E),fun q E _=>C.mem_iff.2 (List.mem_cons_of_mem _ E),?_,WR _ _ _⟩
    rw [NI C,Bi];omega
   obtain ⟨U,N,Z,V,K,Q⟩:=D _ rfl rfl
   refine ⟨RA v.fields w x,?_,U,N,Z,V,K,fun _=>Q,fun q=>by cases q⟩
   rw [e2,Ae]
   rcases Ot (fun x0:ByteArray × Vl=>DR x0 w) v.fields v.fields.length 0 (by omega) with q | ⟨i,hi,q,q2⟩
   ·rw [q,Ah (by decide)]
    have c:(v.fields.any fun x0:ByteArray × Vl=>DR x0 w)=false:=by
     have:=L1 (fun x0:ByteArray × Vl=>DR x0 w) v.fields
     rw [q] at this
     cases z:(v.fields.any fun x0:ByteArray × Vl=>DR x0 w) with
     | false=>rfl
     | true=>rw [z] at this;cases this
    rw [List.any_eq_false] at c
    exact s _ (Nat.le_refl _) (Rq (Nat.le_refl _) (fun j g=>b _ (List.getElem_mem _) (by rw [Bool.eq_false_iff];exact c _ (List.getElem_mem _))) fun z=>absurd z (Nat.lt_irrefl _))
   ·rw [q,Ai (by rw [decide_eq_true_eq];omega)]
    refine s i (by omega) (Rq (by omega) (fun j g=>?_) fun z=>?_)
    ·have F:j<v.fields.length:=by omega
     refine b _ (List.getElem_mem _) ?_
     rw [Bool.eq_false_iff]
     intro w1
     -- the first such one is at i
     have Y:=List.pairwise_iff_getElem.1 ss j i F hi g
     have H:=WM (fun x0:ByteArray × Vl=>DR x0 w) v.fields
     rw [q,AM hi] at H
     have O:=List.find?_eq_some_iff_getElem.1 H
     obtain ⟨_,k,t,u,G⟩:=O
     have:k=i:=by
      have:=List.pairwise_iff_getElem.1 ss
      rcases Nat.lt_trichotomy k i with z | z | z
      ·have:=this k i t hi z;rw [u,JB] at this;exact absurd this (by decide)
      ·exact z
      ·have:=this i k hi t z;rw [u,JB] at this;exact absurd this (by decide)
     subst this
     have:=G j g
     rw [w1] at this
     cases this
    ·rw [DR,Bool.not_eq_true',Bool.or_eq_false_iff,Rn,decide_eq_false_iff_not] at q2
     exact q2.1
end Go.Proofs.YtmcnjijeocmkgaaGreatDoor
