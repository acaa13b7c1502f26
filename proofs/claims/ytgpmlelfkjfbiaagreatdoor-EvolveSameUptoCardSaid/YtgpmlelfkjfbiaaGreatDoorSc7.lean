/-
  Part 7 of the proof: rules and walks that the claim's last text uses.
-/
import Derived.Test.YtgpmlelfkjfbiaaGreatDoorSc6
set_option linter.unusedSimpArgs false
set_option linter.unusedVariables false
set_option maxRecDepth 100000
set_option maxHeartbeats 4000000
namespace Go.Proofs.YtgpmlelfkjfbiaaGreatDoor
open Go Go.RowKit Go.Ev
theorem Zc2:∀ (d:Nat) (a b:Ty) (v y:Vl),1≤b.kind→v.kind≠0→UA d a b v=some y→y.kind≠0
 | 0,a,b,v,y,_,_,h=>by simp [UA] at h
 | d+1,a,b,v,y,hb,hv,h=>by
  rw [UA] at h
  split at h
  ·obtain ⟨m,_,h⟩:=Option.bind_eq_some_iff.1 h
   split at h
   ·cases h;show b.kind≠0;omega
   ·cases h
  split at h
  ·cases h
  split at h
  ·split at h
   ·cases h;exact hv
   ·cases h
  split at h
  ·split at h
   ·cases h;exact hv
   ·cases h
  split at h
  ·split at h
   ·cases h;exact hv
   ·cases h
  split at h
  ·split at h
   ·obtain ⟨m,_,h⟩:=Option.bind_eq_some_iff.1 h
    split at h
    ·cases h;simp [Vl.kind]
    ·cases h
   ·cases h
  split at h
  ·obtain ⟨m,_,h⟩:=Option.map_eq_some_iff.1 h
   cases h;simp [Vl.kind]
  split at h
  ·split at h
   ·split at h
    ·obtain ⟨m,_,h⟩:=Option.map_eq_some_iff.1 h
     cases h;simp [Vl.kind]
    ·cases h
   ·cases h
  ·cases h;exact hv
theorem Tf:∀ {d:Nat} {t:Ty} {v:Vl},IY d t v=true→v.kind=t.kind∧1≤t.kind∧t.kind≤10∧DD v=true
 | 0,t,v,h=>by simp [IY] at h
 | d+1,t,v,h=>by
  rw [IY] at h
  by_cases c:(t.kind<1∨10<t.kind)∨v.kind≠t.kind∨DD v=false
  ·rw [Ae c] at h;cases h
  ·have q:v.kind=t.kind:=by
    by_cases q:v.kind=t.kind
    ·exact q
    ·exact absurd (.inr (.inl q)) c
   have w:DD v=true:=by
    cases w:DD v with
    | true=>rfl
    | false=>exact absurd (.inr (.inr w)) c
   have z:¬ (t.kind<1∨10<t.kind):=fun z=>c (.inl z)
   exact ⟨q,by omega,by omega,w⟩
theorem OW {t:Ty} (h:0≤A1 t):t.kind=2∨t.kind=3:=by
 rw [A1] at h
 by_cases a:t.kind=2
 ·exact .inl a
 rw [Ac a,Af (by decide)] at h
 by_cases b:t.kind=3
 ·exact .inr b
 rw [Ac b,Af (by decide)] at h
 omega
theorem QE {t:Ty} (o:t.Own) (h:t.kind=2∨t.kind=3):A1 t=t.scale:=by
 rw [A1]
 by_cases a:t.kind=2
 ·rw [Ad a,Ae rfl,o.noscale (by omega)]
 ·rw [Ac a,Af (by decide),Ad (by omega),Ae rfl]
theorem SO {t:Ty} (o:t.Own) (h:t.kind=2∨t.kind=3) : -999999999999999≤t.min∧t.max≤999999999999999:=by
 obtain ⟨a,b,_⟩:=o.bounds (by omega) (by omega)
 have e:AO t.kind=(-999999999999999,999999999999999):=by rcases h with h | h<;>rw [h]<;>decide
 rw [e] at a b
 exact ⟨a,b⟩
theorem WX {n:Int} {t:Ty}:NM n t=true↔t.min≤n∧n≤t.max:=by rw [NM,Bool.and_eq_true,decide_eq_true_eq,decide_eq_true_eq]
theorem ZhL (n D:Nat) (a b:Ty) (x:Int) (oa:a.Own) (ob:b.Own) (hD:1≤D) (hn:200<n) (ha:a.kind=2∨a.kind=3) (hb:b.kind=2∨b.kind=3) (hx:NM x a=true) :
  ∃ r1 r2,((Di n x a.scale b.scale).bind fun y17=>some (Vl.mk b.kind y17.1 b.scale ⟨#[]⟩ [] [],y17.2&&Bh y17.1 b))=some r1∧((GL n x (b.scale-a.scale)).bind fun y7=>some (Vl.mk b.kind y7.1 b.scale ⟨#[]⟩ [] [],y7.2&&Bd y7.1 b))=some r2 ∧
   Js D ((MZ x a.scale b.scale).bind fun m=>if NM m b=true then some (Vl.mk b.kind m b.scale ⟨#[]⟩ [] []) else none) r1∧Js D ((MZ x a.scale b.scale).bind fun m=>if NM m b=true then some (Vl.mk b.kind m b.scale ⟨#[]⟩ [] []) else none) r2:=by
 have i:=SO oa ha
 have d:=SO ob hb
 have g:=oa.scale
 have f:=ob.scale
 have hx:=WX.1 hx
 have z:(⟨#[]⟩:ByteArray).size≤1048576:=by decide
 obtain ⟨y,c,hsh⟩:=Tu n x a.scale b.scale (by omega) (by omega) (by omega) hn
 rw [PS n x a.scale b.scale (by omega) (by omega) (by omega) hn,Ab,c,Ab]
 refine ⟨_,_,rfl,rfl,?_⟩
 cases q:MZ x a.scale b.scale with
 | none =>
  rw [q] at hsh
  have e:(y.2&&Bd y.1 b)=false:=by
   rcases hsh with h | ⟨h,h2⟩
   ·rw [h];rfl
   ·rw [h,Bool.true_and,Bool.eq_false_iff]
    intro w
    have:NM y.1 b=true:=w
    rw [WX] at this
    omega
  exact ⟨⟨rfl,NT _ _ _ _ z,by rw [KB];exact hD⟩,⟨e,NT _ _ _ _ z,by rw [KB];exact hD⟩⟩
 | some m =>
  rw [q] at hsh
  have hsh:y=(m,true):=hsh
  subst hsh
  refine ⟨?_,?_⟩
  ·exact O9 (NT _ _ _ _ z) (by rw [KB];exact hD)
  ·exact O9 (NT _ _ _ _ z) (by rw [KB];exact hD)
theorem R9 (q:TF→Bool) (w:ByteArray):∀ l:List TF,(l.map fun p=>p.2.1).Nodup→l.find? (fun p=>DK p.2.1 w&&q p)=match l.find? (fun p=>DK p.2.1 w) with | none=>none | some p=>if q p=true then some p else none
 | [],_=>rfl
 | p::r,h=>by
  rw [List.map_cons,List.nodup_cons] at h
  rw [List.find?_cons,List.find?_cons]
  cases c:DK p.2.1 w with
  | false=>rw [Bool.false_and];exact R9 q w r h.2
  | true =>
   rw [Bool.true_and]
   cases z:q p with
   | true=>simp [z]
   | false =>
    simp only [z,Bool.false_eq_true,if_false]
    rw [List.find?_eq_none]
    intro x b a
    rw [Bool.and_eq_true,E3] at a
    exact h.1 (List.mem_map.2 ⟨x,b,by rw [a.1,(E3 _ _).1 c]⟩)
theorem ZaH (rec:Ty→Ty→Vl→Option (Vl × Bool)) (n:Nat) (a b:Ty) (v:Vl) (ha:a.fields.length≤1000000000) (hb:b.fields.length≤1000000000) (hn:b.fields.length<n):∀ (k m i:Nat),i+k=a.fields.length→k<m →
  L9 rec n a b v m i=match (a.fields.drop i).find? (fun p=>DK p.2.1 v.text&&(Fv b.fields p.1).isSome) with
   | none=>some (nilV,false)
   | some p=>(Cb v.list 0).bind fun x=>(rec p.2.2.2.1 ((Fv b.fields p.1).getD MN).2.2.2.1 x).bind fun y=>some (Vl.mk 10 0 0 ((Fv b.fields p.1).getD MN).2.1 [y.1] [],y.2)
 | k,0,i,_,h=>absurd h (Nat.not_lt_zero _)
 | 0,m+1,i,hi,_=>by
  rw [L9,As,Ac (by omega),Af (by decide),List.drop_eq_nil_of_le (by omega)];rfl
 | k+1,m+1,i,hi,hm=>by
  have d:i<a.fields.length:=by omega
  rw [L9,As,Ad d,Ae rfl,Ax d,Ab,Jb n b _ hb hn,Ab,List.drop_eq_getElem_cons d,List.find?_cons]
  cases c:DK a.fields[i].2.1 v.text&&(Fv b.fields a.fields[i].1).isSome with
  | true =>
   rw [Af (by rw [←Bool.not_and,c];decide)]
  | false =>
   rw [Ae (by rw [←Bool.not_and,c];rfl),Ae (Aw (by omega))]
   exact ZaH rec n a b v ha hb hn k m (i+1) (by omega) (by omega)
theorem J6 {a b:Int} (h:a=b∨((a=2∨a=3)∧(b=2∨b=3))):Dn a b=true:=by
 simp only [Dn,DF,Bool.or_eq_true,Bool.and_eq_true,decide_eq_true_eq]
 exact h
theorem UD {a b:Int} (h:¬ a=b) (h2:¬ ((a=2∨a=3)∧(b=2∨b=3))):Dn a b=false:=by
 rw [Bool.eq_false_iff]
 intro q
 simp only [Dn,DF,Bool.or_eq_true,Bool.and_eq_true,decide_eq_true_eq] at q
 exact q.elim h h2
theorem JV {D:Nat} {o:Option Vl} {A B:Option (Vl × Bool)} {r1 r2:Vl × Bool} (h1:A=some r1) (h2:B=some r2) (h3:Js D o r1) (h4:Js D o r2):∃ r1 r2,A=some r1∧B=some r2∧Js D o r1∧Js D o r2:=⟨r1,r2,h1,h2,h3,h4⟩
theorem Zar:∀ (d n K e:Nat) (a b:Ty) (v:Vl),a.small→b.small→a.Good→b.Fine e→v.Nar→v.depth≤K→IY d a v=true→K+3100000000+d<n →
  ∃ r1 r2,AG n a b v=some r1∧I7 n a b v=some r2∧Js (K+1048576) (UA d a b v) r1∧Js (K+1048576) (UA d a b v) r2
 | 0,n,K,e,a,b,v,_,_,_,_,_,_,h,_=>by simp [IY] at h
 | d+1,0,K,e,a,b,v,_,_,_,_,_,_,_,h=>absurd h (by omega)
 | d+1,n+1,K,0,a,b,v,_,_,_,h,_,_,_,_=>by cases h
 | d+1,n+1,0,e+1,a,b,v,_,_,_,_,_,h,_,_=>by have:=v.depth_eq;omega
 | d+1,n+1,K+1,e+1,a,b,v,sa,sb,ga,fb,hv,hvd,i,hn=>by
  have V:=ga.own
  have H:=fb.good.own
  have la:=a.lens
  have lb:=b.lens
  have aj:=sa.1
  have ak:=sb.1
  obtain ⟨v1,v2,v3,v4,v5⟩:=hv.inv
  obtain ⟨hk,_,_,ah⟩:=Tf i
  have c0:¬ ((a.kind<1∨10<a.kind)∨v.kind≠a.kind∨DD v=false):=by
   rintro (q | q | q)
   ·omega
   ·exact q hk
   ·rw [ah] at q;cases q
  rw [IY,Af c0] at i
  rw [AG,Fq,I7,Z9,UA]
  by_cases num:(a.kind=2∨a.kind=3)∧(b.kind=2∨b.kind=3)
  ·have f:NM v.int a=true:=by
    rcases num.1 with q | q
    ·rwa [Ae (.inl q)] at i
    ·rw [Af (by omega),Ae q,Bool.and_eq_true] at i
     exact i.2
   have C:(if decide (b.kind=2)=true then BC (AG n) n a b v true else BC (AG n) n a b v (decide (b.kind=3)))=BC (AG n) n a b v true:=by
    rcases num.2 with q | q
    ·rw [Ad q,Ae rfl]
    ·rw [Ad q];exact ite_self _
   have s1:=V.scale
   have s2:=H.scale
   rw [Ae num,J6 (.inr num),Af (by decide),C,BC,Ae rfl,QE V num.1,QE H num.2,Ad s1.1,Ad s2.1,Ae (by rfl),Ae (by unfold BV;omega)]
   exact ZhL n _ a b v.int V H (by omega) (by omega) num.1 num.2 f
  have ai:(decide (0≤A1 a)&&decide (0≤A1 b))=false:=by
   rw [Bool.eq_false_iff]
   intro q
   rw [Bool.and_eq_true,decide_eq_true_eq,decide_eq_true_eq] at q
   exact num ⟨OW q.1,OW q.2⟩
  rw [Af num,ai,Af (show ¬ (false=true) by decide)]
  by_cases ne:a.kind=b.kind
  rotate_left
  ·rw [Ae ne,UD ne num,Ae (by rfl),Ac ne,Ae (by rfl)]
   exact JV rfl rfl (Ja (by omega) rfl) (Ja (by omega) rfl)
  have ag:¬ b.kind=2:=fun q=>num ⟨by omega,.inl q⟩
  have ae:¬ b.kind=3:=fun q=>num ⟨by omega,.inr q⟩
  have t:v.depth≤K+1+1048576:=by omega
  rw [Af (show ¬ a.kind≠b.kind from fun q=>q ne),J6 (.inl ne),Af (show ¬ ((!true)=true) by decide),Ac ag,Af (show ¬ (false=true) by decide),Ac ae,BC,Af (show ¬ (false=true) by decide),Ad ne,Af (show ¬ ((!true)=true) by decide)]
  by_cases k67:b.kind=6∨b.kind=7
  ·have C:(if decide (b.kind=6)=true then BB (AG n) n a b v true else BB (AG n) n a b v (decide (b.kind=7)))=BB (AG n) n a b v true:=by
    rcases k67 with q | q
    ·rw [Ad q,Ae rfl]
    ·rw [Ad q];exact ite_self _
   have O:(if decide (b.kind=6)=true then Hg (I7 n) n a b v true else Hg (I7 n) n a b v (decide (b.kind=7)))=Hg (I7 n) n a b v true:=by
    rcases k67 with q | q
    ·rw [Ad q,Ae rfl]
    ·rw [Ad q];exact ite_self _
   rw [Ae k67,C,BB,Ae rfl,Ac (by omega),Af (by decide),Ac (by omega),Af (by decide),Ac (by omega),Af (by decide),O,Hg,Ae rfl]
   exact JV rfl rfl (O9 hv t) (O9 hv t)
  have n6:¬ b.kind=6:=fun q=>k67 (.inl q)
  have n7:¬ b.kind=7:=fun q=>k67 (.inr q)
  rw [Af k67,Ac n6,Af (show ¬ (false=true) by decide),Ac n7,BB,Af (show ¬ (false=true) by decide),Af (show ¬ (false=true) by decide)]
  by_cases k5:b.kind=5
  ·rw [Ae k5,Ad k5,Ae rfl,Ac (by omega),Af (by decide),Ac (by omega),Af (by decide),Ae rfl]
   exact JV rfl rfl (O9 hv t) (O9 hv t)
  rw [Af k5,Ac k5,Af (show ¬ (false=true) by decide),Af (show ¬ (false=true) by decide)]
  by_cases k4:b.kind=4
  ·have bw:=(b.ok_eq.1 sb.2.2).1
   rw [Ae k4,Ad k4,Ae rfl,Ac (show ¬ b.kind=1 by omega),Af (show ¬ (false=true) by decide),Ae rfl,WB n v.text b (by omega) (by omega),Ab]
   refine JV (r1:=(v,Jl v.text b)) ?_ rfl (O9 hv t) (O9 hv t)
   rw [Jl]
   by_cases q:b.words=[]
   ·rw [Ae q,q,Af (by decide)];rfl
   ·have q0:0<b.words.length:=List.length_pos_iff.2 q
    rw [Af q,Ae (by rw [decide_eq_true_eq];omega),I2 n _ b (by omega) (by omega),Ab]
  rw [Af k4,Ac k4,Af (show ¬ (false=true) by decide),Af (show ¬ (false=true) by decide)]
  by_cases k8:b.kind=8
  ·obtain ⟨x,f⟩:=V.elem (by omega)
   obtain ⟨y,N⟩:=H.elem k8
   have j:x∈a.elem:=by rw [f];simp
   have ad:y∈b.elem:=by rw [N];simp
   rw [Af (by omega),Af (by omega),Af (by omega),Af (by omega),Ae (by omega),Bool.and_eq_true,List.all_eq_true] at i
   have U:∀ u∈v.list,IY d x u=true:=fun u s=>by have:=i.2 u s;rw [f] at this;exact this
   have ih:=fun u (s:u∈v.list)=>Zar d n K e x y u (Ty.small_elem sa j) (Ty.small_elem sb ad) (ET ga j) (fb.elem ad) (v4 u s) (by have:=Vl.depth_list s;omega) (U u s) (by omega)
   obtain ⟨r1,C,u1⟩:=Zdc (AG n) n (K+1048576) a b x y v (UA d x y) f N (by omega) (by omega) (fun u s=>by obtain ⟨r1,r2,J,D,m,E⟩:=ih u s;exact ⟨r1,J,m⟩) v.list.length n 0 [] (by omega) (by omega) rfl (by simp)
   obtain ⟨r2,O,u2⟩:=Zaf (I7 n) n (K+1048576) a b x y v (UA d x y) f N (by omega) (by omega) (fun u s=>by obtain ⟨r1,r2,J,D,m,E⟩:=ih u s;exact ⟨r2,D,E⟩) v.list.length n 0 [] (by omega) (by omega) rfl (by simp)
   rw [Ae k8,Ad k8,Ae rfl,Ac (by omega),Af (by decide),Hg,Af (by decide),Ad k8,Ae rfl,f,N]
   rw [List.drop_zero] at u1 u2
   exact JV C O (by rw [Nat.add_right_comm];exact u1) (by rw [Nat.add_right_comm];exact u2)
  rw [Af k8,Ac k8,Af (show ¬ (false=true) by decide)]
  by_cases k9:b.kind=9
  ·rw [Af (by omega),Af (by omega),Af (by omega),Af (by omega),Af (by omega),Ae (by omega),Bool.and_eq_true,List.all_eq_true] at i
   have fx:∀ p∈a.fields,∀ x,Eb v p.2.1=some x→IY d p.2.2.2.1 x=true:=fun p F x f=>by have:=i.1 p F;rw [f] at this;exact this
   have ih:∀ g∈b.fields,∀ p,Fv a.fields g.1=some p→∀ x,Eb v p.2.1=some x→(∃ r1 r2,AG n p.2.2.2.1 g.2.2.2.1 x=some r1∧I7 n p.2.2.2.1 g.2.2.2.1 x=some r2∧Js (K+1048576) (UA d p.2.2.2.1 g.2.2.2.1 x) r1∧Js (K+1048576) (UA d p.2.2.2.1 g.2.2.2.1 x) r2)∧∀ y,UA d p.2.2.2.1 g.2.2.2.1 x=some y→y.kind≠0:=fun g k p F x f=>by
    have l:p∈a.fields:=List.mem_of_find?_eq_some F
    have Z:=fx p l x f
    obtain ⟨q,hq,_,rfl⟩:=PI f
    have fk:=Tf Z
    have gk:=(BK fb.good k).own.kind
    exact ⟨Zar d n K e _ _ _ (Ty.small_field sa l) (Ty.small_field sb k) (BK ga l) (fb.field k) (v5 q hq).2 (by have:=Vl.depth_fld hq;omega) Z (by omega),fun y N=>Zc2 d _ _ _ y gk.1 (by omega) N⟩
   have hc:∀ q∈v.fields,BN n q.2=some q.2:=fun q hq=>HW n q.2 (v5 q hq).2 (by have:=Vl.depth_fld hq;omega)
   have Y:=(b.ok_eq.1 sb.2.2).2.2.2
   have Q:∀ g∈b.fields,g.2.2.1=3→∃ x,g.2.2.2.2=[x]∧x.Nar∧x.depth≤K+1048576∧x.kind≠0:=fun g k m=>by
    obtain ⟨x,f⟩:=List.length_eq_one_iff.1 ((H.each g k).2.2.2.2.1 m)
    have j:x∈g.2.2.2.2:=by rw [f];simp
    obtain ⟨z1,z2,z3⟩:=(Y g k).2.2.2 x j
    have:=Zq (N8 (fb.dfl k x j).1)
    exact ⟨x,f,Oe x.size x (Nat.le_refl _) (by omega) z3,by omega,by omega⟩
   have H1:RecH (AG n) n (K+1048576) a b v (UA d):=⟨by omega,by omega,by omega,by omega,by omega,by omega,hc,fun g k=>(Y g k).1,fun g k p F x f=>by obtain ⟨⟨r1,r2,J,D,m,E⟩,h5⟩:=ih g k p F x f;exact ⟨r1,J,m,h5⟩,Q⟩
   have H2:RecH (I7 n) n (K+1048576) a b v (UA d):=⟨by omega,by omega,by omega,by omega,by omega,by omega,hc,fun g k=>(Y g k).1,fun g k p F x f=>by obtain ⟨⟨r1,r2,J,D,m,E⟩,h5⟩:=ih g k p F x f;exact ⟨r2,D,E,h5⟩,Q⟩
   have A0:Acc (K+1048576) b 0 []:=⟨Nat.le_refl _,by simp,by rw [List.map_nil,List.nil_append,List.drop_zero];exact (OJ _ _ _ H.apart).1⟩
   obtain ⟨r1,C,u1⟩:=Zgz H1 b.fields.length n 0 [] (by omega) (by omega) A0
   obtain ⟨r2,O,u2⟩:=ZaJ H2 b.fields.length n 0 [] (by omega) (by omega) A0
   rw [show BZ []=[] from List.length_eq_zero_iff.1 (by rw [Gh];rfl)] at O
   have af:Ei (AG n) n a b v=some r1:=C
   rw [Ae k9,Ad k9,Ae rfl,af,Ab,Ac (by omega),Af (by decide),Hg,Af (by decide),Ac (by omega),Af (by decide),Ac (by omega),Af (by decide),V4]
   rw [List.drop_zero] at u1 u2
   exact JV rfl O (by rw [Nat.add_right_comm];exact u1) (by rw [Nat.add_right_comm];exact u2)
  rw [Af k9,Ac k9,Af (show ¬ (false=true) by decide)]
  by_cases k10:b.kind=10
  ·rw [Af (by omega),Af (by omega),Af (by omega),Af (by omega),Af (by omega),Af (by omega),Ae (by omega)] at i
   rw [Ae k10,Ad k10,Ae rfl,Ac (by omega),Af (by decide),Hg,Af (by decide),Ac k8,Af (by decide),Ad k10,Ae rfl,P5 n a v.text (by omega) sa (by omega),Ab]
   have w:=ZaH (I7 n) n a b v (by omega) (by omega) (by omega) a.fields.length n 0 (by omega) (by omega)
   rw [List.drop_zero,R9 (fun p=>(Fv b.fields p.1).isSome) v.text a.fields (OJ _ _ _ V.apart).1] at w
   cases c:B5 a v.text with
   | none=>rw [c] at i;simp at i
   | some p =>
    have c':a.fields.find? (fun p=>DK p.2.1 v.text)=some p:=c
    cases hl:v.list with
    | nil=>rw [c,hl] at i;simp at i
    | cons x xs =>
     rw [c,hl] at i
     have i:IY d p.2.2.2.1 x=true:=i
     have j:x∈v.list:=by rw [hl];simp
     have l:=(EE c).1
     rw [c',hl] at w
     simp only [Option.getD_some]
     rw [M4 n b.fields _ (by omega) (by omega),Ab]
     cases g:Fv b.fields p.1 with
     | none =>
      simp only [g,Option.isSome_none,Bool.false_eq_true,if_false] at w
      rw [Ae (by rfl)]
      exact JV rfl w (Ja (by omega) rfl) (Ja (by omega) rfl)
     | some q =>
      have G:q∈b.fields:=List.mem_of_find?_eq_some g
      simp only [g,Option.isSome_some,if_true,Option.getD_some] at w
      obtain ⟨r1,r2,J,D,m,E⟩:=Zar d n K e p.2.2.2.1 q.2.2.2.1 x (Ty.small_field sa l) (Ty.small_field sb G) (BK ga l) (fb.field G) (v4 x j) (by have:=Vl.depth_list j;omega) i (by omega)
      have Y:=((b.ok_eq.1 sb.2.2).2.2.2 q G).1
      have aa:∀ {o:Option Vl} {r:Vl × Bool},Js (K+1048576) o r→(Vl.mk 10 0 0 q.2.1 [r.1] []).Nar∧(Vl.mk 10 0 0 q.2.1 [r.1] []).depth≤K+1+1048576:=fun {o r} u=>by
       refine ⟨.mk _ (by simp [Vl.list]) (by simp [Vl.fields]) Y (fun z hz=>?_) (by simp [Vl.fields]) (by simp [Vl.fields]),?_⟩
       ·have hz:z∈[r.1]:=hz
        rw [List.mem_singleton] at hz;subst hz;exact u.2.1
       ·have:=u.2.2
        simp only [Vl.depth,Hz,He];omega
      have fin:∀ {o:Option Vl} {r:Vl × Bool},Js (K+1048576) o r→Js (K+1+1048576) (o.map fun y=>Vl.mk 10 0 0 q.2.1 [y] []) (Vl.mk 10 0 0 q.2.1 [r.1] [],r.2):=fun {o r} u=>by
       obtain ⟨b1,b2⟩:=aa u
       refine ⟨?_,b1,b2⟩
       have u1:=u.1
       cases o with
       | none=>exact u1
       | some y =>
        have u1:r=(y,true):=u1
        subst u1;rfl
      rw [show Cb (x::xs) 0=some x from rfl,Ab,D,Ab] at w
      have ab:Jy n q.2.1 r1.1=some (Vl.mk 10 0 0 q.2.1 [r1.1] []):=by
       obtain ⟨b1,b2⟩:=aa m
       rw [Jy,HW n _ b1 (by omega)];rfl
      rw [Af (by simp),show Cb (x::xs) 0=some x from rfl,Ab,Option.getD_some,J,Ab,ab,Ab]
      simp only [g]
      exact JV rfl w (fin m) (fin E)
  ·have k1:b.kind=1:=by have:=H.kind;omega
   rw [Af k10,Ac k10,Af (show ¬ (false=true) by decide),GA,Ad k1,Ae rfl]
   exact JV rfl rfl ⟨rfl,hv,t⟩ ⟨rfl,hv,t⟩
theorem Uo:∀ (l:List ByteArray) (o:Option ByteArray),SG o l=0→∀ w∈l,E8 w=true
 | [],_,_,w,hw=>by simp at hw
 | x::r,o,h,w,hw=>by
  have a:E8 x=true∧SG (some x) r=0:=by
   by_cases h0:E8 x=true
   ·refine ⟨h0,?_⟩
    cases o with
    | none=>rw [SG,Ae h0] at h;exact h
    | some p =>
     rw [SG,Ae h0] at h
     by_cases h1:DK x p=true
     ·rw [Ae h1] at h;exact absurd h (by decide)
     rw [Af h1] at h
     by_cases h2:Wq x p=true
     ·rw [Ae h2] at h;exact absurd h (by decide)
     rw [Af h2] at h;exact h
   ·cases o with
    | none=>rw [SG,Af h0] at h;exact absurd h (by decide)
    | some p=>rw [SG,Af h0] at h;exact absurd h (by decide)
  rcases List.mem_cons.1 hw with rfl | hw
  ·exact a.1
  ·exact Uo r _ a.2 w hw
structure Vl.Own (v:Vl):Prop where
 kind:1≤v.kind∧v.kind≤10
 nolist:v.kind≠8→v.kind≠10→v.list=[]
 nofields:v.kind≠9→v.fields=[]
 text:v.text.size≤1024
 names:∀ p∈v.fields,p.1.size≤32
theorem Vl.own_of {v:Vl} (h:FK v=0):v.Own:=by
 obtain ⟨g,c⟩:=O0 h
 have f:B1 v=false:=Zbv (by omega)
 have n:v.kind≠8→v.kind≠10→v.list=[]:=fun q k=>by
  rcases Nat.eq_zero_or_pos v.list.length with e | e
  ·exact List.length_eq_zero_iff.1 e
  ·exfalso;apply c;rw [Dh];simp [q,k];omega
 have d:v.kind≠9→v.fields=[]:=fun q=>by
  rcases Nat.eq_zero_or_pos v.fields.length with e | e
  ·exact List.length_eq_zero_iff.1 e
  ·exfalso;apply c;rw [Dh];simp [q];omega
 have j:v.kind≠4→v.kind≠5→v.kind≠10→v.text.size=0:=fun m i l=>by
  cases hs:DK v.text ⟨#[]⟩ with
  | true=>exact Zbb hs
  | false=>exfalso;apply c;rw [Dh];simp [m,i,l,hs]
 rw [FK,f,Af (by decide),Af g,Af c] at h
 have nm:v.kind=9→∀ p∈v.fields,p.1.size≤32:=fun b p a=>by
  rw [Af (by omega),Af (by omega),Af (by omega),Af (by omega),Af (by omega),Af (by omega),Af (by omega),Af (by omega),Ae b] at h
  by_cases q:64<v.fields.length
  ·rw [Ae q] at h;exact absurd h (by decide)
  rw [Af q] at h
  exact XS (Uo _ _ h p.1 (List.mem_map_of_mem a))
 refine ⟨by omega,n,d,?_,fun p a=>?_⟩
 ·by_cases k4:v.kind=4
  ·rw [Af (by omega),Af (by omega),Af (by omega),Ae k4] at h
   by_cases q:1024<v.text.size
   ·rw [Ae q] at h;exact absurd h (by decide)
   ·omega
  by_cases k5:v.kind=5
  ·rw [Af (by omega),Af (by omega),Af (by omega),Af (by omega),Ae k5] at h
   by_cases q:1024<v.text.size
   ·rw [Ae q] at h;exact absurd h (by decide)
   ·omega
  by_cases k10:v.kind=10
  ·rw [Af (by omega),Af (by omega),Af (by omega),Af (by omega),Af (by omega),Af (by omega),Af (by omega),Af (by omega),Af (by omega)] at h
   by_cases q:E8 v.text=true
   ·have:=XS q;omega
   ·rw [Af q] at h;exact absurd h (by decide)
  ·have:=j k4 k5 k10;omega
 ·by_cases b:v.kind=9
  ·exact nm b p a
  ·rw [d b] at a;simp at a
theorem Vl.Good.own {v:Vl} (h:v.Good):v.Own:=Vl.own_of (L6 h)
theorem VU:∀ (k:Nat) (v:Vl) (lv:Nat),v.size≤k→v.Good→(Fa lv v).length=v.size
 | 0,v,lv,h,_=>absurd h (by have:=v.size_eq;omega)
 | k+1,v,lv,h,g=>by
  have own:=g.own
  rw [ML,List.length_cons,List.length_flatMap]
  have b:((BL v).map fun x=>(Fa (lv+1) x).length)=(BL v).map Vl.size:=List.map_congr_left fun x a=>VU k x (lv+1) (by have:=IV a;omega) (M6 g a)
  rw [b]
  have c:=v.size_eq
  by_cases k8:v.kind=8∨v.kind=10
  ·rw [BL,Ae k8,←T9]
   rw [own.nofields (by omega)] at c
   simp only [F9] at c
   omega
  by_cases k9:v.kind=9
  ·rw [BL,Af k8,Ae k9,List.map_map]
   have:=TU v.fields
   have e:(v.fields.map (Vl.size∘fun x=>x.2)).sum=F9 v.fields:=this.symm
   rw [own.nolist (by omega) (by omega)] at c
   simp only [GF] at c
   omega
  ·rw [BL,Af k8,Af k9]
   rw [own.nolist (by omega) (by omega),own.nofields k9] at c
   simp only [GF,F9] at c
   simp;omega
theorem Vl.depth_part {v x:Vl} (h:x∈BL v):x.depth<v.depth:=by
 have e:=v.depth_eq
 rcases OY h with hx | ⟨p,hp,rfl⟩
 ·have:=(HQ v.list (Hz v.list)).1 (Nat.le_refl _) x hx;omega
 ·have:=(IW v.fields (He v.fields)).1 (Nat.le_refl _) p hp;omega
theorem ZZ (k i s:Int) (t:ByteArray) (L:List Vl) (F:List (ByteArray × Vl)) (B:Nat) (ht:t.size≤1048576) (hL:L.length≤100000000) (hF:F.length≤100000000) (h1:∀ x∈L,x.Nar∧x.depth≤B) (h2:∀ p∈F,p.1.size≤1048576∧p.2.Nar∧p.2.depth≤B):(Vl.mk k i s t L F).Nar∧(Vl.mk k i s t L F).depth≤B+1:=by
 refine ⟨.mk _ hL hF ht (fun x d=>(h1 x d).1) (fun p c=>(h2 p c).1) (fun p c=>(h2 p c).2.1),?_⟩
 have a:=(HQ L B).2 fun x d=>(h1 x d).2
 have b:=(IW F B).2 fun p c=>(h2 p c).2.2
 simp only [Vl.depth];omega
theorem X8:∀ (ps:List TF) (l:List (ByteArray × Vl)),(PK ps l).length≤l.length+ps.length∧∀ q∈PK ps l,q∈l∨∃ p∈ps,q.1=p.2.1∧q.2∈p.2.2.2.2
 | [],l=>⟨Nat.le_refl _,fun q e => .inl e⟩
 | p::ps,l=>by
  have d:∀ f,f.length≤l.length+1→(∀ q∈f,q∈l∨(q.1=p.2.1∧q.2∈p.2.2.2.2))→(PK ps f).length≤l.length+(p::ps).length∧∀ q∈PK ps f,q∈l∨∃ x∈p::ps,q.1=x.2.1∧q.2∈x.2.2.2.2:=fun f j i=>by
   obtain ⟨a,b⟩:=X8 ps f
   refine ⟨by rw [List.length_cons];omega,fun q e=>?_⟩
   rcases b q e with h | ⟨x,g,h⟩
   ·rcases i q h with h | h
    ·exact .inl h
    ·exact .inr ⟨p,List.mem_cons_self .., h⟩
   ·exact .inr ⟨x,List.mem_cons_of_mem _ g,h⟩
  rw [PK]
  cases c:ZeR p with
  | none=>exact d l (by omega) fun q e => .inl e
  | some x =>
   have g:x∈p.2.2.2.2:=by
    rw [ZeR] at c
    split at c
    ·exact List.mem_of_getElem? c
    ·cases c
   simp only
   split
   ·exact d l (by omega) fun q e => .inl e
   ·refine d _ (by rw [Yc];omega) fun q e=>?_
    rcases List.mem_cons.1 ((Ru l p.2.1 x).mem_iff.1 e) with rfl | h
    ·exact .inr ⟨rfl,g⟩
    ·exact .inl h
theorem N7:∀ (d:Nat) (t:Ty) (v:Vl),t.small→v.ok→v.size≤1048576→(CQ d t v).Nar∧(CQ d t v).depth≤v.depth+1048576
 | 0,t,v,_,hv,hs=>⟨Oe v.size v (Nat.le_refl _) hs hv,by rw [CQ];omega⟩
 | d+1,t,v,ht,hv,hs=>by
  have f:v.Nar∧v.depth≤v.depth+1048576:=⟨Oe v.size v (Nat.le_refl _) hs hv,by omega⟩
  have N:=HZ v
  have G:=t.lens
  have O:=ht.1
  obtain ⟨m,C,l⟩:=v.ok_eq.1 hv
  obtain ⟨H,V,Q,w⟩:=t.ok_eq.1 ht.2.2
  have K:=v.depth_eq
  have n:∀ u∈v.list,u.Nar∧u.depth≤v.depth-1+1048576:=fun u i=>⟨Oe u.size u (Nat.le_refl _) (by have:=v.list_size u i;omega) (C u i),by have:=Vl.depth_list i;omega⟩
  have k:∀ q∈v.fields,q.1.size≤1048576∧q.2.Nar∧q.2.depth≤v.depth-1+1048576:=fun q g=>⟨(l q g).1,Oe q.2.size q.2 (Nat.le_refl _) (by have:=v.field_size q g;omega) (l q g).2,by have:=Vl.depth_fld g;omega⟩
  have cl:∀ x,x.small→∀ u∈v.list,(CQ d x u).Nar∧(CQ d x u).depth≤v.depth-1+1048576:=fun x hx u i=>by
   obtain ⟨a,b⟩:=N7 d x u hx (C u i) (by have:=v.list_size u i;omega)
   exact ⟨a,by have:=Vl.depth_list i;omega⟩
  have E:∀ x,x.small→∀ q∈v.fields,(CQ d x q.2).Nar∧(CQ d x q.2).depth≤v.depth-1+1048576:=fun x hx q g=>by
   obtain ⟨a,b⟩:=N7 d x q.2 hx (l q g).2 (by have:=v.field_size q g;omega)
   exact ⟨a,by have:=Vl.depth_fld g;omega⟩
  have up:v.depth-1+1048576+1=v.depth+1048576:=by omega
  rw [CQ]
  split
  ·exact f
  split
  ·rename_i k9
   have o:ER (CQ d) t v=WE v (v.fields.map fun q=>match B5 t q.1 with | some p=>(q.1,CQ d p.2.2.2.1 q.2) | none=>q):=by rw [ER,Af (by omega),Ae k9];rfl
   have F:∀ q∈(ER (CQ d) t v).fields,q.1.size≤1048576∧q.2.Nar∧q.2.depth≤v.depth-1+1048576:=fun q g=>by
    rw [o] at g
    obtain ⟨z,r,rfl⟩:=List.mem_map.1 (show q∈v.fields.map _ from g)
    cases c:B5 t z.1 with
    | none=>exact k z r
    | some p=>exact ⟨(l z r).1,E _ (Ty.small_field ht (EE c).1) z r⟩
   have s:(ER (CQ d) t v).fields.length=v.fields.length:=by rw [o];exact List.length_map _
   obtain ⟨a1,a2⟩:=X8 t.fields (ER (CQ d) t v).fields
   have:=ZZ v.kind v.int v.scale v.text v.list (PK t.fields (ER (CQ d) t v).fields) (v.depth-1+1048576) m (by omega) (by omega) n (fun q g=>by
    rcases a2 q g with h | ⟨p,hp,h1,h2⟩
    ·exact F q h
    ·obtain ⟨U,J,D⟩:=(w p hp).2.2.2 q.2 h2
     exact ⟨by rw [h1];exact (w p hp).1,Oe q.2.size q.2 (Nat.le_refl _) (by omega) D,by omega⟩)
   rw [up] at this
   have e:WE (ER (CQ d) t v) (PK t.fields (ER (CQ d) t v).fields)=Vl.mk v.kind v.int v.scale v.text v.list (PK t.fields (ER (CQ d) t v).fields):=by rw [o];rfl
   rw [e]
   exact this
  ·rename_i k9
   rw [ER]
   split
   ·split
    ·rename_i x he
     have j:x∈t.elem:=by rw [he];simp
     have:=ZZ v.kind v.int v.scale v.text (v.list.map (CQ d x)) v.fields (v.depth-1+1048576) m (by rw [List.length_map];omega) (by omega) (fun y hy=>by
      obtain ⟨u,i,rfl⟩:=List.mem_map.1 hy
      exact cl x (Ty.small_elem ht j) u i) k
     rw [up] at this
     exact this
    ·exact f
   ·split
    ·split
     ·rename_i p x xs hp hx
      have j:x∈v.list:=by rw [hx];simp
      have:=ZZ v.kind v.int v.scale v.text [CQ d p.2.2.2.1 x] v.fields (v.depth-1+1048576) m (by simp) (by omega) (fun y hy=>by
       rw [List.mem_singleton] at hy;subst hy
       exact cl _ (Ty.small_field ht (EE hp).1) x j) k
      rw [up] at this
      exact this
     ·exact f
    ·exact f
theorem Zaj:∀ (k:Nat) (v:Vl) (lv:Nat),v.size≤k→v.Nar→∀ p∈Fa lv v,p.2.Nar
 | 0,v,lv,h,_,_,_=>absurd h (by have:=v.size_eq;omega)
 | k+1,v,lv,h,hv,p,hp=>by
  rw [ML] at hp
  rcases List.mem_cons.1 hp with rfl | hp
  ·exact hv
  ·obtain ⟨x,a,hp⟩:=List.mem_flatMap.1 hp
   have:=IV a
   exact Zaj k x (lv+1) (by omega) (by
    rcases OY a with h | ⟨q,hq,rfl⟩
    ·exact hv.list h
    ·exact hv.field hq) p hp
theorem US (n:Nat) (v:Vl) (hn:1000000000≤n) (hs:v.depth<4611686018427387904) (hv:v.Nar):EX n v=some (NZ v):=by
 rw [EX,Ae ⟨hs,hv.wide⟩]
 exact Rz n (by omega) _ 0 (fun p a=>by
  have h:=Zaj v.size v 1 (Nat.le_refl _) hv p a
  have b:=h.inv
  exact ⟨h.ok,by omega,by omega⟩) (by omega) (by omega)
theorem Yj:∀ (l:List (Nat × Vl)) (c:Int),c≤4096→RX l c=0→c+l.length≤4096
 | [],c,hc,_=>by simpa using hc
 | p::r,c,hc,h=>by
  rw [RX] at h
  split at h
  ·cases h
  split at h
  ·cases h
  split at h
  ·have:=Yj r (c+1) (by omega) h
   rw [List.length_cons];omega
  ·rename_i h0;exact absurd h h0
theorem ZdA {v:Vl} (h:NZ v=0):v.size≤4096:=by
 have a:=Yj (Fa 1 v) 0 (by omega) h
 have b:=VU v.size v 1 (Nat.le_refl _) (N8 h)
 omega
theorem SA (n:Nat) (t:Ty) (v:Vl) (ht:t.small) (hv:v.ok) (hs:v.size≤1048576) (hn:2100000000≤n):Ft n t v=some (if IY 12 t (CQ 12 t v)=true then (CQ 12 t v,0) else (nilV,18)):=by
 obtain ⟨c,e⟩:=N7 12 t v ht hv hs
 have d:=v.depth_size
 have b:=ht.1
 have a:=ht.2.2
 rw [Ft,LA 12 n t v ht.2.1 b hs hv (by omega),Ab,Ze5 n 12 t _ ht.2.1 (by omega) b a c (by omega) (by omega),Ab]
 cases IY 12 t (CQ 12 t v) with
 | false=>rfl
 | true=>rw [Af (by decide),HW n _ c (by omega),Ab,Ae rfl]
def LL (n:Nat)  : Option Int :=
 some (0)
def E6 (n:Nat) (h:List Int):Nat→Int→Option Int
 | 0,_=>none
 | m+1,b =>
  if decide (b<(h.length:Int)) then
   (Cb h b).bind fun g =>
   if !(decide (g=0)) then
    some (g)
   else
    if BV (b+1) then
     (E6 n h m) (b+1)
    else none
  else
   LL n 
def Ij (n:Nat) (b:List Int):Option Int :=
 E6 n b n 0
theorem Pg (w0:World) (n:Nat) (B:List (List AV)) (Rw:List RowA) (L:List LoopA) (a0:List Int) (r:Int) (h:Ij n a0=some r) :
  ACalls Tryz.prog w0 142 [.list (a0.map Yf) .none] ⟨B,Rw,L⟩ fun x st=>x = .val (.int .i64 r)∧st=⟨B,Rw,L⟩:=by
 rw [Ij] at h
 refine hd [.tmp 2] Tryz.func142 Tryz.ntmps142 fun M0 W0 u k l a y c hs=>?_
 simp only [Au]
 refine rg [0] hs ?_
 refine rg [0,3] hs ?_
 refine Av (fun e st=>Ck e st B Rw L [(3,true,.val (.int .i64 0))] [] [] (LL n  = some r)) ?_ ?_
 ·intro K5 q
  refine rg [3,6,7,8] hs ?_
  apply Ak
  refine AC (fun m e st=>∃ (b:Int),Ck e st B Rw L [(3,true,.val (.int .i64 0)),(6,true,.list (a0.map Yf) .none),(7,true,.val (.int .i64 (a0.length:Int))),(8,true,.val (.int .i64 b))] [] [] (E6 n a0 m b=some r)) n ⟨0,([]),Rw,ef hs,ef hs,c,h⟩ ?_
  rintro ml7 e st ⟨b,Xl7,Rl7,rfl,rfl,c,h⟩ Ul7 Vl7
  cases ml7 with
  | zero=>cases h
  | succ ml7 =>
  rw [E6] at h
  refine td u k l a c ?_
  refine rg [3,6,7,8,9] hs ?_
  apply Ah;intro K9 j
  refine AL h hs (fun hs h=>?_) (fun hs h=>?_)
  rotate_left
  ·refine sx [3] hs q ?_
   exact ⟨([]),Rl7,ef hs,ef hs,c,h⟩
  refine sk [3,6,7,8] hs j ?_
  clear j
  apply Ah;intro K11 d
  apply Ak
  obtain ⟨w,o,h⟩:=bind_some h
  obtain ⟨t,p,i⟩:=AA o
  have g:=AB (f:=Yf) i
  have hs:=Aa g hs
  refine rg [3,5,6,7,8] hs ?_
  refine rg [3,5,6,7,8,14] hs ?_
  refine AL h hs (fun hs h=>?_) (fun hs h=>?_)
  ·refine rg [2] hs ?_
   exact rt h hs a c
  refine sk [3,6,7,8] hs d ?_
  clear d
  obtain ⟨v,h⟩:=Aj h
  refine rl [3,6,7,8] hs (fun e s=>Vl7 ml7 e s (Nat.lt_succ_self _)) ?_
  exact ⟨(b+1),([]),Rl7,ef hs,ef hs,c,h⟩
 ·clear h;rintro e st ⟨Xk4,Rk4,rfl,rfl,c,h⟩
  rw [LL] at h
  refine td u k l a c ?_
  refine rg [2] hs ?_
  exact rt h hs a c
def Gw (n:Nat)  : Option Bool :=
 some (true)
def Ef (n:Nat) (q:List Vl) (a1:List Vl) (y:Vl→Vl→Option Bool):Nat→Int→Option Bool
 | 0,_=>none
 | m+1,b =>
  if decide (b<(q.length:Int)) then
   (Cb q b).bind fun s =>
   (Cb a1 b).bind fun g =>
   (y s g).bind fun h =>
   if !h then
    some (false)
   else
    if BV (b+1) then
     (Ef n q a1 y m) (b+1)
    else none
  else
   Gw n 
def GZ (n:Nat) (g:List Vl) (b:List Vl) (h:Vl→Vl→Option Bool):Option Bool :=
 if !(decide ((g.length:Int)=(b.length:Int))) then
  some (false)
 else
  Ef n g b h n 0
theorem NG (w0:World) (n:Nat) (B:List (List AV)) (Rw:List RowA) (L:List LoopA) (a0:List Vl) (a1:List Vl) (fa2:FuncId) (ca2:List AV) (a2:Vl→Vl→Option Bool) (ha2:∀ (x0:Vl) (x1:Vl) r,a2 x0 x1=some r→∀ B' rows,B <+: B'→Rw <+: rows→ACalls Tryz.prog w0 fa2 ([.agg (x0.cs),.agg (x1.cs)]++ca2) ⟨B',rows,L⟩ fun v s=>v = .val (.bool r)∧s=⟨B',rows,L⟩) (r:Bool) (h:GZ n a0 a1 a2=some r) :
  ACalls Tryz.prog w0 208 [.list (a0.map Bo) .none,.list (a1.map Bo) .none,.clo fa2 ca2] ⟨B,Rw,L⟩ fun x st=>x = .val (.bool r)∧st=⟨B,Rw,L⟩:=by
 rw [GZ] at h
 refine hd [.tmp 6] Tryz.func208 Tryz.ntmps208 fun M0 W0 N q w b O d hs=>?_
 simp only [Au]
 have c:=Ci (O (.clo fa2 ca2) (by simp))
 refine rg [0,1,2] hs ?_
 apply Ah;intro K2 C
 refine rg [0,1,2,14] hs ?_
 refine AL h hs (fun hs h=>?_) (fun hs h=>?_)
 ·refine rg [6] hs ?_
  exact rt h hs b d
 refine sk [0,1,2] hs C ?_
 clear C
 refine Av (fun e st=>Ck e st B Rw L [] [] [] (Gw n  = some r)) ?_ ?_
 ·intro K8 J
  refine rg [1,2,15,16,17] hs ?_
  apply Ak
  refine AC (fun m e st=>∃ (a:Int),Ck e st B Rw L [(1,true,.list (a1.map Bo) .none),(2,true,.clo fa2 ca2),(15,true,.list (a0.map Bo) .none),(16,true,.val (.int .i64 (a0.length:Int))),(17,true,.val (.int .i64 a))] [] [] (Ef n a0 a1 a2 m a=some r)) n ⟨0,([]),Rw,ef hs,ef hs,d,h⟩ ?_
  rintro ml10 e st ⟨a,Xl10,Rl10,rfl,rfl,d,h⟩ Ul10 Vl10
  cases ml10 with
  | zero=>cases h
  | succ ml10 =>
  rw [Ef] at h
  refine AP N q w rfl b d (I5 c d) (I5 c d) ?_
  refine rg [1,2,15,16,17,18] hs ?_
  apply Ah;intro K12 j
  refine AL h hs (fun hs h=>?_) (fun hs h=>?_)
  rotate_left
  ·refine sx [] hs J ?_
   exact ⟨([]),Rl10,ef hs,ef hs,d,h⟩
  refine sk [1,2,15,16,17] hs j ?_
  clear j
  apply Ah;intro K14 i
  apply Ak
  obtain ⟨y,u,h⟩:=bind_some h
  obtain ⟨H,F,l⟩:=AA u
  have k:=AB (f:=Bo) l
  have hs:=Aa k hs
  refine rg [1,2,7,8,15,16,17] hs ?_
  obtain ⟨t,z,h⟩:=bind_some h
  obtain ⟨E,G,o⟩:=AA z
  have p:=AB (f:=Bo) o
  have hs:=Aa p hs
  refine rg [1,2,8,9,15,16,17] hs ?_
  obtain ⟨Q,D,h⟩:=bind_some h
  refine rc 2 [1,2,15,16,17,30] hs ?_;intro K19 g
  refine F6 _ (ha2 y t _ D _ _ px d.pre) (hv hs) ?_
  refine ne hs g ?_
  clear g
  refine AL h hs (fun hs h=>?_) (fun hs h=>?_)
  ·refine rg [6] hs ?_
   exact rt h hs b d
  refine sk [1,2,15,16,17] hs i ?_
  clear i
  obtain ⟨K,h⟩:=Aj h
  refine rl [1,2,15,16,17] hs (fun e s=>Vl10 ml10 e s (Nat.lt_succ_self _)) ?_
  exact ⟨(a+1),([y.cs,t.cs]),Rl10,ef hs,ef hs,d,h⟩
 ·clear h;rintro e st ⟨Xk7,Rk7,rfl,rfl,d,h⟩
  rw [Gw] at h
  refine AP N q w rfl b d (I5 c d) (I5 c d) ?_
  refine rg [6] hs ?_
  exact rt h hs b d
def D6 (n:Nat) (g:List (ByteArray × Vl)) (b:List (ByteArray × Vl)):Option Int :=
 if decide ((g.length:Int)<(b.length:Int)) then
  some ((-1))
 else
  some (0)
def BJ (n:Nat) (q:List (ByteArray × Vl)) (h:List (ByteArray × Vl)) (a2:(ByteArray × Vl)→(ByteArray × Vl)→Option Int):Nat→Int→Option Int
 | 0,_=>none
 | m+1,b =>
  if decide (b<(q.length:Int)) then
   (Cb q b).bind fun y =>
   if decide ((h.length:Int)≤b) then
    some (1)
   else
    (Cb h b).bind fun s =>
    (a2 y s).bind fun g =>
    if !(decide (g=0)) then
     some (g)
    else
     if BV (b+1) then
      (BJ n q h a2 m) (b+1)
     else none
  else
   D6 n q h 
def Eg (n:Nat) (g:List (ByteArray × Vl)) (b:List (ByteArray × Vl)) (h:(ByteArray × Vl)→(ByteArray × Vl)→Option Int):Option Int :=
 BJ n g b h n 0
theorem MB (w0:World) (n:Nat) (B:List (List AV)) (Rw:List RowA) (L:List LoopA) (a0:List (ByteArray × Vl)) (a1:List (ByteArray × Vl)) (fa2:FuncId) (ca2:List AV) (a2:(ByteArray × Vl)→(ByteArray × Vl)→Option Int) (ha2:∀ (x0:ByteArray × Vl) (x1:ByteArray × Vl) r,a2 x0 x1=some r→∀ B' rows,B <+: B'→Rw <+: rows→ACalls Tryz.prog w0 fa2 ([.agg (.val (.string x0.1)::(x0.2.cs)),.agg (.val (.string x1.1)::(x1.2.cs))]++ca2) ⟨B',rows,L⟩ fun v s=>v = .val (.int .i64 r)∧s=⟨B',rows,L⟩) (r:Int) (h:Eg n a0 a1 a2=some r) :
  ACalls Tryz.prog w0 145 [.list (a0.map B9) .none,.list (a1.map B9) .none,.clo fa2 ca2] ⟨B,Rw,L⟩ fun x st=>x = .val (.int .i64 r)∧st=⟨B,Rw,L⟩:=by
 rw [Eg] at h
 refine hd [.tmp 6] Tryz.func145 Tryz.ntmps145 fun M0 W0 N w D a Q d hs=>?_
 simp only [Au]
 have c:=Ci (Q (.clo fa2 ca2) (by simp))
 refine rg [0,1,2] hs ?_
 refine Av (fun e st=>Ck e st B Rw L [(0,true,.list (a0.map B9) .none),(1,true,.list (a1.map B9) .none)] [] [] (D6 n a0 a1  = some r)) ?_ ?_
 ·intro K4 J
  refine rg [0,1,2,11,12,13] hs ?_
  apply Ak
  refine AC (fun m e st=>∃ (b:Int),Ck e st B Rw L [(0,true,.list (a0.map B9) .none),(1,true,.list (a1.map B9) .none),(2,true,.clo fa2 ca2),(11,true,.list (a0.map B9) .none),(12,true,.val (.int .i64 (a0.length:Int))),(13,true,.val (.int .i64 b))] [] [] (BJ n a0 a1 a2 m b=some r)) n ⟨0,([]),Rw,ef hs,ef hs,d,h⟩ ?_
  rintro ml6 e st ⟨b,Xl6,Rl6,rfl,rfl,d,h⟩ Ul6 Vl6
  cases ml6 with
  | zero=>cases h
  | succ ml6 =>
  rw [BJ] at h
  refine AP N w D rfl a d (I5 c d) (I5 c d) ?_
  refine rg [0,1,2,11,12,13,14] hs ?_
  apply Ah;intro K8 C
  refine AL h hs (fun hs h=>?_) (fun hs h=>?_)
  rotate_left
  ·refine sx [0,1] hs J ?_
   exact ⟨([]),Rl6,ef hs,ef hs,d,h⟩
  refine sk [0,1,2,11,12,13] hs C ?_
  clear C
  apply Ah;intro K10 g
  apply Ak
  obtain ⟨l,y,h⟩:=bind_some h
  obtain ⟨G,K,q⟩:=AA y
  have p:=AB (f:=B9) q
  have hs:=Aa p hs
  refine rg [0,1,2,7,8,11,12,13] hs ?_
  apply Ah;intro K13 j
  refine rg [0,1,2,7,8,11,12,13,21] hs ?_
  refine AL h hs (fun hs h=>?_) (fun hs h=>?_)
  ·refine rg [6] hs ?_
   exact rt h hs a d
  refine sk [0,1,2,7,8,11,12,13] hs j ?_
  clear j
  obtain ⟨o,E,h⟩:=bind_some h
  obtain ⟨F,H,t⟩:=AA E
  have u:=AB (f:=B9) t
  have hs:=Aa u hs
  refine rg [0,1,2,8,9,11,12,13] hs ?_
  obtain ⟨U,z,h⟩:=bind_some h
  refine rc 2 [0,1,2,10,11,12,13] hs ?_;intro K19 i
  refine F6 _ (ha2 l o _ z _ _ px d.pre) (hv hs) ?_
  refine ne hs i ?_
  clear i
  refine rg [0,1,2,10,11,12,13,31] hs ?_
  refine AL h hs (fun hs h=>?_) (fun hs h=>?_)
  ·refine rg [6] hs ?_
   exact rt h hs a d
  refine sk [0,1,2,11,12,13] hs g ?_
  clear g
  obtain ⟨O,h⟩:=Aj h
  refine rl [0,1,2,11,12,13] hs (fun e s=>Vl6 ml6 e s (Nat.lt_succ_self _)) ?_
  exact ⟨(b+1),([.val (.string l.1)::(l.2.cs),.val (.string o.1)::(o.2.cs)]),Rl6,ef hs,ef hs,d,h⟩
 ·clear h;rintro e st ⟨Xk3,Rk3,rfl,rfl,d,h⟩
  rw [D6] at h
  refine AP N w D rfl a d (I5 c d) (I5 c d) ?_
  apply Ah;intro K25 k
  refine rg [38] hs ?_
  refine AL h hs (fun hs h=>?_) (fun hs h=>?_)
  ·refine rg [6] hs ?_
   exact rt h hs a d
  refine sk [] hs k ?_
  clear k
  refine rg [6] hs ?_
  exact rt h hs a d
def D4 (n:Nat) (g:List Vl) (b:List Vl):Option Int :=
 if decide ((g.length:Int)<(b.length:Int)) then
  some ((-1))
 else
  some (0)
def BI (n:Nat) (q:List Vl) (h:List Vl) (a2:Vl→Vl→Option Int):Nat→Int→Option Int
 | 0,_=>none
 | m+1,b =>
  if decide (b<(q.length:Int)) then
   (Cb q b).bind fun y =>
   if decide ((h.length:Int)≤b) then
    some (1)
   else
    (Cb h b).bind fun s =>
    (a2 y s).bind fun g =>
    if !(decide (g=0)) then
     some (g)
    else
     if BV (b+1) then
      (BI n q h a2 m) (b+1)
     else none
  else
   D4 n q h 
def Eh (n:Nat) (g:List Vl) (b:List Vl) (h:Vl→Vl→Option Int):Option Int :=
 BI n g b h n 0
theorem MA (w0:World) (n:Nat) (B:List (List AV)) (Rw:List RowA) (L:List LoopA) (a0:List Vl) (a1:List Vl) (fa2:FuncId) (ca2:List AV) (a2:Vl→Vl→Option Int) (ha2:∀ (x0:Vl) (x1:Vl) r,a2 x0 x1=some r→∀ B' rows,B <+: B'→Rw <+: rows→ACalls Tryz.prog w0 fa2 ([.agg (x0.cs),.agg (x1.cs)]++ca2) ⟨B',rows,L⟩ fun v s=>v = .val (.int .i64 r)∧s=⟨B',rows,L⟩) (r:Int) (h:Eh n a0 a1 a2=some r) :
  ACalls Tryz.prog w0 144 [.list (a0.map Bo) .none,.list (a1.map Bo) .none,.clo fa2 ca2] ⟨B,Rw,L⟩ fun x st=>x = .val (.int .i64 r)∧st=⟨B,Rw,L⟩:=by
 rw [Eh] at h
 refine hd [.tmp 6] Tryz.func144 Tryz.ntmps144 fun M0 W0 N t D a Q d hs=>?_
 simp only [Au]
 have c:=Ci (Q (.clo fa2 ca2) (by simp))
 refine rg [0,1,2] hs ?_
 refine Av (fun e st=>Ck e st B Rw L [(0,true,.list (a0.map Bo) .none),(1,true,.list (a1.map Bo) .none)] [] [] (D4 n a0 a1  = some r)) ?_ ?_
 ·intro K4 J
  refine rg [0,1,2,11,12,13] hs ?_
  apply Ak
  refine AC (fun m e st=>∃ (b:Int),Ck e st B Rw L [(0,true,.list (a0.map Bo) .none),(1,true,.list (a1.map Bo) .none),(2,true,.clo fa2 ca2),(11,true,.list (a0.map Bo) .none),(12,true,.val (.int .i64 (a0.length:Int))),(13,true,.val (.int .i64 b))] [] [] (BI n a0 a1 a2 m b=some r)) n ⟨0,([]),Rw,ef hs,ef hs,d,h⟩ ?_
  rintro ml6 e st ⟨b,Xl6,Rl6,rfl,rfl,d,h⟩ Ul6 Vl6
  cases ml6 with
  | zero=>cases h
  | succ ml6 =>
  rw [BI] at h
  refine AP N t D rfl a d (I5 c d) (I5 c d) ?_
  refine rg [0,1,2,11,12,13,14] hs ?_
  apply Ah;intro K8 C
  refine AL h hs (fun hs h=>?_) (fun hs h=>?_)
  rotate_left
  ·refine sx [0,1] hs J ?_
   exact ⟨([]),Rl6,ef hs,ef hs,d,h⟩
  refine sk [0,1,2,11,12,13] hs C ?_
  clear C
  apply Ah;intro K10 g
  apply Ak
  obtain ⟨u,y,h⟩:=bind_some h
  obtain ⟨G,K,o⟩:=AA y
  have l:=AB (f:=Bo) o
  have hs:=Aa l hs
  refine rg [0,1,2,7,8,11,12,13] hs ?_
  apply Ah;intro K13 j
  refine rg [0,1,2,7,8,11,12,13,21] hs ?_
  refine AL h hs (fun hs h=>?_) (fun hs h=>?_)
  ·refine rg [6] hs ?_
   exact rt h hs a d
  refine sk [0,1,2,7,8,11,12,13] hs j ?_
  clear j
  obtain ⟨w,E,h⟩:=bind_some h
  obtain ⟨F,H,p⟩:=AA E
  have q:=AB (f:=Bo) p
  have hs:=Aa q hs
  refine rg [0,1,2,8,9,11,12,13] hs ?_
  obtain ⟨U,z,h⟩:=bind_some h
  refine rc 2 [0,1,2,10,11,12,13] hs ?_;intro K19 i
  refine F6 _ (ha2 u w _ z _ _ px d.pre) (hv hs) ?_
  refine ne hs i ?_
  clear i
  refine rg [0,1,2,10,11,12,13,31] hs ?_
  refine AL h hs (fun hs h=>?_) (fun hs h=>?_)
  ·refine rg [6] hs ?_
   exact rt h hs a d
  refine sk [0,1,2,11,12,13] hs g ?_
  clear g
  obtain ⟨O,h⟩:=Aj h
  refine rl [0,1,2,11,12,13] hs (fun e s=>Vl6 ml6 e s (Nat.lt_succ_self _)) ?_
  exact ⟨(b+1),([u.cs,w.cs]),Rl6,ef hs,ef hs,d,h⟩
 ·clear h;rintro e st ⟨Xk3,Rk3,rfl,rfl,d,h⟩
  rw [D4] at h
  refine AP N t D rfl a d (I5 c d) (I5 c d) ?_
  apply Ah;intro K25 k
  refine rg [38] hs ?_
  refine AL h hs (fun hs h=>?_) (fun hs h=>?_)
  ·refine rg [6] hs ?_
   exact rt h hs a d
  refine sk [] hs k ?_
  clear k
  refine rg [6] hs ?_
  exact rt h hs a d
def Gq (rec:Vl→Vl→Option Int) (n:Nat) (g:ByteArray × Vl) (b:ByteArray × Vl):Option Int :=
 (rec g.2 b.2).bind fun h =>
 (Ij n ([EM g.1 b.1,h])).bind fun q =>
 some (q)
theorem UZ (w0:World) (rec:Vl→Vl→Option Int) (ih:∀ (B:List (List AV)) (Rw:List RowA) (L:List LoopA) (a0:Vl) (a1:Vl) (r:Int) (h:rec a0 a1=some r),ACalls Tryz.prog w0 83 [.agg (a0.cs),.agg (a1.cs)] ⟨B,Rw,L⟩ fun x st=>x = .val (.int .i64 r)∧st=⟨B,Rw,L⟩) (n:Nat) (B:List (List AV)) (Rw:List RowA) (L:List LoopA) (a0:ByteArray × Vl) (a1:ByteArray × Vl) (r:Int) (h:Gq rec n a0 a1=some r) :
  ACalls Tryz.prog w0 146 [.agg (.val (.string a0.1)::(a0.2.cs)),.agg (.val (.string a1.1)::(a1.2.cs))] ⟨B,Rw,L⟩ fun x st=>x = .val (.int .i64 r)∧st=⟨B,Rw,L⟩:=by
 rw [Gq] at h
 refine hd [.tmp 4] Tryz.func146 Tryz.ntmps146 fun M0 W0 l g f a j e hs=>?_
 simp only [Au]
 refine rg [2,3] hs ?_
 obtain ⟨i,d,h⟩:=bind_some h
 obtain ⟨k,c,h⟩:=bind_some h
 apply Ah;intro K2 b
 refine dk 13 4 1 [4] hs Iw ?_
 refine Ai _ (Nr w0 _ _ _ a0.1 a1.1) (hv hs) ?_
 refine nc hs ?_
 refine Ai _ (ih _ _ _ a0.2 a1.2 _ d) (hv hs) ?_
 refine nc hs ?_
 refine Ai _ (Pg w0 n _ _ _ ([EM a0.1 a1.1,i]) _ c) (hv hs) ?_
 refine dn hs b ?_
 clear b
 exact rt h hs a e
def Lp (rec:Vl→Vl→Option Int) (n:Nat) (g:Vl) (b:Vl):Option Int :=
 (Eh n g.list b.list (fun (q:Vl) (h:Vl)=>rec q h)).bind fun y3 =>
 (Eg n g.fields b.fields (fun (q:ByteArray × Vl) (h:ByteArray × Vl)=>Gq rec n q h)).bind fun s =>
 (Ij n ([if g.kind<b.kind then -1 else if g.kind=b.kind then 0 else 1,if g.int<b.int then -1 else if g.int=b.int then 0 else 1,if g.scale<b.scale then -1 else if g.scale=b.scale then 0 else 1,EM g.text b.text,y3,s])).bind fun y =>
 some (y)
def FO:Nat→Vl→Vl→Option Int
 | 0,_,_=>none
 | n+1,g,b=>Lp (FO n) n g b
def NN (w0:World) (F:Vl→Vl→Option Int):Prop:=∀ (B:List (List AV)) (Rw:List RowA) (L:List LoopA) (g:Vl) (b:Vl) (r:Int),F g b=some r→ACalls Tryz.prog w0 83 [.agg (g.cs),.agg (b.cs)] ⟨B,Rw,L⟩ fun x st=>x = .val (.int .i64 r)∧st=⟨B,Rw,L⟩
theorem To (w0:World) (rec:Vl→Vl→Option Int) (ih:NN w0 rec) (n:Nat):NN w0 (Lp rec n):=by
 intro B Rw L a0 a1 r h
 rw [Lp] at h
 refine hd [.tmp 4] Tryz.func83 Tryz.ntmps83 fun M0 W0 v m q b w o hs=>?_
 simp only [Au]
 refine rg [2,3] hs ?_
 obtain ⟨s,j,h⟩:=bind_some h
 obtain ⟨p,f,h⟩:=bind_some h
 obtain ⟨u,i,h⟩:=bind_some h
 apply Ah;intro K2 e
 refine dk 33 8 1 [4] (al hs) Iw ?_
 refine Ai _ (P1 w0 _ _ _ a0.kind a1.kind) (hv (al hs)) ?_
 refine nc (al hs) ?_
 refine Ai _ (P1 w0 _ _ _ a0.int a1.int) (hv (al hs)) ?_
 refine nc (al hs) ?_
 refine Ai _ (P1 w0 _ _ _ a0.scale a1.scale) (hv (al hs)) ?_
 refine nc (al hs) ?_
 refine Ai _ (Nr w0 _ _ _ a0.text a1.text) (hv (al hs)) ?_
 refine nc (al hs) ?_
 refine Ai _ (MA w0 n _ _ _ a0.list a1.list 83 [] (fun (c:Vl) (a:Vl)=>rec c a) (fun c a r g t d k l=>by exact ih _ _ _ c a _ g) _ j) (hv (al hs)) ?_
 refine nc (al hs) ?_
 refine Ai _ (MB w0 n _ _ _ a0.fields a1.fields 146 [] (fun (c:ByteArray × Vl) (a:ByteArray × Vl)=>Gq rec n c a) (fun c a r g t d k l=>by exact UZ w0 rec ih n _ _ _ c a _ g) _ f) (hv (al hs)) ?_
 refine nc (al hs) ?_
 refine Ai _ (Pg w0 n _ _ _ ([if a0.kind<a1.kind then -1 else if a0.kind=a1.kind then 0 else 1,if a0.int<a1.int then -1 else if a0.int=a1.int then 0 else 1,if a0.scale<a1.scale then -1 else if a0.scale=a1.scale then 0 else 1,EM a0.text a1.text,s,p]) _ i) (hv (al hs)) ?_
 refine dn (al hs) e ?_
 clear e
 exact rt h hs b o
theorem Qq (w0:World):∀ n:Nat,NN w0 (FO n)
 | 0=>fun _ _ _ _ _ _ h=>(nomatch h)
 | n+1=>To w0 (FO n) (Qq w0 n) n
def FD (n:Nat) (h:Vl) (b:Vl):Option Bool :=
 (FO n h b).bind fun g =>
 some (decide (g=0))
theorem MQ (w0:World) (n:Nat) (B:List (List AV)) (Rw:List RowA) (L:List LoopA) (a0:Vl) (a1:Vl) (r:Bool) (h:FD n a0 a1=some r) :
  ACalls Tryz.prog w0 32 [.agg (a0.cs),.agg (a1.cs)] ⟨B,Rw,L⟩ fun x st=>x = .val (.bool r)∧st=⟨B,Rw,L⟩:=by
 rw [FD] at h
 refine hd [.tmp 4] Tryz.func32 Tryz.ntmps32 fun M0 W0 j f e a g d hs=>?_
 simp only [Au]
 refine rg [2,3] hs ?_
 obtain ⟨i,c,h⟩:=bind_some h
 refine rc 2 [4] hs ?_;intro K2 b
 refine Ai _ (Qq w0 n _ _ _ a0 a1 _ c) (hv hs) ?_
 refine ne hs b ?_
 clear b
 exact rt h hs a d
def Le (rec:Ty→Ty→Option Bool) (n:Nat) (g:Int × ByteArray × Int × Ty × List Vl) (b:Int × ByteArray × Int × Ty × List Vl):Option Bool :=
 if ((decide (g.1=b.1))&&(DK g.2.1 b.2.1))&&(decide (g.2.2.1=b.2.2.1)) then
  (rec g.2.2.2.1 b.2.2.2.1).bind fun y =>
  if y then
   (GZ n g.2.2.2.2 b.2.2.2.2 (fun (s:Vl) (q:Vl)=>FD n s q)).bind fun h =>
   some (h)
  else
   some (false)
 else
  some (false)
theorem WU (w0:World) (rec:Ty→Ty→Option Bool) (ih:∀ (B:List (List AV)) (Rw:List RowA) (L:List LoopA) (a0:Ty) (a1:Ty) (r:Bool) (h:rec a0 a1=some r),ACalls Tryz.prog w0 163 [.agg (a0.cs),.agg (a1.cs)] ⟨B,Rw,L⟩ fun x st=>x = .val (.bool r)∧st=⟨B,Rw,L⟩) (n:Nat) (B:List (List AV)) (Rw:List RowA) (L:List LoopA) (a0:Int × ByteArray × Int × Ty × List Vl) (a1:Int × ByteArray × Int × Ty × List Vl) (r:Bool) (h:Le rec n a0 a1=some r) :
  ACalls Tryz.prog w0 207 [.agg (.val (.int .i64 a0.1)::(.val (.string a0.2.1)::(.val (.int .i64 a0.2.2.1)::((a0.2.2.2.1.cs)++([.list (a0.2.2.2.2.map Bo) .none]))))),.agg (.val (.int .i64 a1.1)::(.val (.string a1.2.1)::(.val (.int .i64 a1.2.2.1)::((a1.2.2.2.1.cs)++([.list (a1.2.2.2.2.map Bo) .none])))))] ⟨B,Rw,L⟩ fun x st=>x = .val (.bool r)∧st=⟨B,Rw,L⟩:=by
 rw [Le] at h
 refine hd [.tmp 4] Tryz.func207 Tryz.ntmps207 fun M0 W0 u l k a t f hs=>?_
 simp only [Au]
 refine rg [2,3] hs ?_
 apply Ah;intro K2 b
 rcases Bool.eq_false_or_eq_true (((decide (a0.1=a1.1))&&(DK a0.2.1 a1.2.1))&&(decide (a0.2.2.1=a1.2.2.1))) with hf3 | hf3
 ·replace h:=AY h hf3
  obtain ⟨j,c,h⟩:=bind_some h
  rcases Bool.eq_false_or_eq_true (j) with hf5 | hf5
  ·replace h:=AY h hf5
   obtain ⟨q,g,h⟩:=bind_some h
   have hs:=Aa hf3 hs
   have hs:=Aa hf5 hs
   refine rk 3 [4] (al hs) ?_
   refine Ai _ (ih _ _ _ a0.2.2.2.1 a1.2.2.2.1 _ c) (hv (al hs)) ?_
   refine nc (al hs) ?_
   refine Ai _ (NG w0 n _ _ _ a0.2.2.2.2 a1.2.2.2.2 32 [] (fun (e:Vl) (d:Vl)=>FD n e d) (fun e d r p s i m o=>by exact MQ w0 n _ _ _ e d _ p) _ g) (hv (al hs)) ?_
   refine ne (al hs) b ?_
   clear b
   exact rt h hs a f
  ·replace h:=AZ h hf5
   have hs:=Aa hf3 hs
   have hs:=Aa hf5 hs
   refine rk 3 [4] (al hs) ?_
   refine Ai _ (ih _ _ _ a0.2.2.2.1 a1.2.2.2.1 _ c) (hv (al hs)) ?_
   refine nc (al hs) ?_
   refine Az ?_
   refine ne (al hs) b ?_
   clear b
   exact rt h hs a f
 ·replace h:=AZ h hf3
  have hs:=Aa hf3 hs
  refine rk 3 [4] (al hs) ?_
  refine Az ?_
  refine nc (al hs) ?_
  refine Az ?_
  refine ne (al hs) b ?_
  clear b
  exact rt h hs a f
def GT (n:Nat)  : Option Bool :=
 some (true)
def EL (n:Nat) (q:List Ty) (a1:List Ty) (y:Ty→Ty→Option Bool):Nat→Int→Option Bool
 | 0,_=>none
 | m+1,b =>
  if decide (b<(q.length:Int)) then
   (Cb q b).bind fun s =>
   (Cb a1 b).bind fun g =>
   (y s g).bind fun h =>
   if !h then
    some (false)
   else
    if BV (b+1) then
     (EL n q a1 y m) (b+1)
    else none
  else
   GT n 
def Ho (n:Nat) (g:List Ty) (b:List Ty) (h:Ty→Ty→Option Bool):Option Bool :=
 if !(decide ((g.length:Int)=(b.length:Int))) then
  some (false)
 else
  EL n g b h n 0
theorem Jk (w0:World) (n:Nat) (B:List (List AV)) (Rw:List RowA) (L:List LoopA) (a0:List Ty) (a1:List Ty) (fa2:FuncId) (ca2:List AV) (a2:Ty→Ty→Option Bool) (ha2:∀ (x0:Ty) (x1:Ty) r,a2 x0 x1=some r→∀ B' rows,B <+: B'→Rw <+: rows→ACalls Tryz.prog w0 fa2 ([.agg (x0.cs),.agg (x1.cs)]++ca2) ⟨B',rows,L⟩ fun v s=>v = .val (.bool r)∧s=⟨B',rows,L⟩) (r:Bool) (h:Ho n a0 a1 a2=some r) :
  ACalls Tryz.prog w0 205 [.list (a0.map Ia) .none,.list (a1.map Ia) .none,.clo fa2 ca2] ⟨B,Rw,L⟩ fun x st=>x = .val (.bool r)∧st=⟨B,Rw,L⟩:=by
 rw [Ho] at h
 refine hd [.tmp 6] Tryz.func205 Tryz.ntmps205 fun M0 W0 N q w b O d hs=>?_
 simp only [Au]
 have c:=Ci (O (.clo fa2 ca2) (by simp))
 refine rg [0,1,2] hs ?_
 apply Ah;intro K2 C
 refine rg [0,1,2,14] hs ?_
 refine AL h hs (fun hs h=>?_) (fun hs h=>?_)
 ·refine rg [6] hs ?_
  exact rt h hs b d
 refine sk [0,1,2] hs C ?_
 clear C
 refine Av (fun e st=>Ck e st B Rw L [] [] [] (GT n  = some r)) ?_ ?_
 ·intro K8 J
  refine rg [1,2,15,16,17] hs ?_
  apply Ak
  refine AC (fun m e st=>∃ (a:Int),Ck e st B Rw L [(1,true,.list (a1.map Ia) .none),(2,true,.clo fa2 ca2),(15,true,.list (a0.map Ia) .none),(16,true,.val (.int .i64 (a0.length:Int))),(17,true,.val (.int .i64 a))] [] [] (EL n a0 a1 a2 m a=some r)) n ⟨0,([]),Rw,ef hs,ef hs,d,h⟩ ?_
  rintro ml10 e st ⟨a,Xl10,Rl10,rfl,rfl,d,h⟩ Ul10 Vl10
  cases ml10 with
  | zero=>cases h
  | succ ml10 =>
  rw [EL] at h
  refine AP N q w rfl b d (I5 c d) (I5 c d) ?_
  refine rg [1,2,15,16,17,18] hs ?_
  apply Ah;intro K12 j
  refine AL h hs (fun hs h=>?_) (fun hs h=>?_)
  rotate_left
  ·refine sx [] hs J ?_
   exact ⟨([]),Rl10,ef hs,ef hs,d,h⟩
  refine sk [1,2,15,16,17] hs j ?_
  clear j
  apply Ah;intro K14 i
  apply Ak
  obtain ⟨y,u,h⟩:=bind_some h
  obtain ⟨H,F,l⟩:=AA u
  have k:=AB (f:=Ia) l
  have hs:=Aa k hs
  refine rg [1,2,7,8,15,16,17] hs ?_
  obtain ⟨t,z,h⟩:=bind_some h
  obtain ⟨E,G,o⟩:=AA z
  have p:=AB (f:=Ia) o
  have hs:=Aa p hs
  refine rg [1,2,8,9,15,16,17] hs ?_
  obtain ⟨Q,D,h⟩:=bind_some h
  refine rc 2 [1,2,15,16,17,30] hs ?_;intro K19 g
  refine F6 _ (ha2 y t _ D _ _ px d.pre) (hv hs) ?_
  refine ne hs g ?_
  clear g
  refine AL h hs (fun hs h=>?_) (fun hs h=>?_)
  ·refine rg [6] hs ?_
   exact rt h hs b d
  refine sk [1,2,15,16,17] hs i ?_
  clear i
  obtain ⟨K,h⟩:=Aj h
  refine rl [1,2,15,16,17] hs (fun e s=>Vl10 ml10 e s (Nat.lt_succ_self _)) ?_
  exact ⟨(a+1),([y.cs,t.cs]),Rl10,ef hs,ef hs,d,h⟩
 ·clear h;rintro e st ⟨Xk7,Rk7,rfl,rfl,d,h⟩
  rw [GT] at h
  refine AP N q w rfl b d (I5 c d) (I5 c d) ?_
  refine rg [6] hs ?_
  exact rt h hs b d
def ES (n:Nat)  : Option Bool :=
 some (true)
def Dt (n:Nat) (q:List (Int × ByteArray × Int × Ty × List Vl)) (a1:List (Int × ByteArray × Int × Ty × List Vl)) (y:(Int × ByteArray × Int × Ty × List Vl)→(Int × ByteArray × Int × Ty × List Vl)→Option Bool):Nat→Int→Option Bool
 | 0,_=>none
 | m+1,b =>
  if decide (b<(q.length:Int)) then
   (Cb q b).bind fun s =>
   (Cb a1 b).bind fun g =>
   (y s g).bind fun h =>
   if !h then
    some (false)
   else
    if BV (b+1) then
     (Dt n q a1 y m) (b+1)
    else none
  else
   ES n 
def E7 (n:Nat) (g:List (Int × ByteArray × Int × Ty × List Vl)) (b:List (Int × ByteArray × Int × Ty × List Vl)) (h:(Int × ByteArray × Int × Ty × List Vl)→(Int × ByteArray × Int × Ty × List Vl)→Option Bool):Option Bool :=
 if !(decide ((g.length:Int)=(b.length:Int))) then
  some (false)
 else
  Dt n g b h n 0
theorem KL (w0:World) (n:Nat) (B:List (List AV)) (Rw:List RowA) (L:List LoopA) (a0:List (Int × ByteArray × Int × Ty × List Vl)) (a1:List (Int × ByteArray × Int × Ty × List Vl)) (fa2:FuncId) (ca2:List AV) (a2:(Int × ByteArray × Int × Ty × List Vl)→(Int × ByteArray × Int × Ty × List Vl)→Option Bool) (ha2:∀ (x0:Int × ByteArray × Int × Ty × List Vl) (x1:Int × ByteArray × Int × Ty × List Vl) r,a2 x0 x1=some r→∀ B' rows,B <+: B'→Rw <+: rows→ACalls Tryz.prog w0 fa2 ([.agg (.val (.int .i64 x0.1)::(.val (.string x0.2.1)::(.val (.int .i64 x0.2.2.1)::((x0.2.2.2.1.cs)++([.list (x0.2.2.2.2.map Bo) .none]))))),.agg (.val (.int .i64 x1.1)::(.val (.string x1.2.1)::(.val (.int .i64 x1.2.2.1)::((x1.2.2.2.1.cs)++([.list (x1.2.2.2.2.map Bo) .none])))))]++ca2) ⟨B',rows,L⟩ fun v s=>v = .val (.bool r)∧s=⟨B',rows,L⟩) (r:Bool) (h:E7 n a0 a1 a2=some r) :
  ACalls Tryz.prog w0 206 [.list (a0.map Da) .none,.list (a1.map Da) .none,.clo fa2 ca2] ⟨B,Rw,L⟩ fun x st=>x = .val (.bool r)∧st=⟨B,Rw,L⟩:=by
 rw [E7] at h
 refine hd [.tmp 6] Tryz.func206 Tryz.ntmps206 fun M0 W0 N u y b O d hs=>?_
 simp only [Au]
 have c:=Ci (O (.clo fa2 ca2) (by simp))
 refine rg [0,1,2] hs ?_
 apply Ah;intro K2 C
 refine rg [0,1,2,14] hs ?_
 refine AL h hs (fun hs h=>?_) (fun hs h=>?_)
 ·refine rg [6] hs ?_
  exact rt h hs b d
 refine sk [0,1,2] hs C ?_
 clear C
 refine Av (fun e st=>Ck e st B Rw L [] [] [] (ES n  = some r)) ?_ ?_
 ·intro K8 J
  refine rg [1,2,15,16,17] hs ?_
  apply Ak
  refine AC (fun m e st=>∃ (a:Int),Ck e st B Rw L [(1,true,.list (a1.map Da) .none),(2,true,.clo fa2 ca2),(15,true,.list (a0.map Da) .none),(16,true,.val (.int .i64 (a0.length:Int))),(17,true,.val (.int .i64 a))] [] [] (Dt n a0 a1 a2 m a=some r)) n ⟨0,([]),Rw,ef hs,ef hs,d,h⟩ ?_
  rintro ml10 e st ⟨a,Xl10,Rl10,rfl,rfl,d,h⟩ Ul10 Vl10
  cases ml10 with
  | zero=>cases h
  | succ ml10 =>
  rw [Dt] at h
  refine AP N u y rfl b d (I5 c d) (I5 c d) ?_
  refine rg [1,2,15,16,17,18] hs ?_
  apply Ah;intro K12 l
  refine AL h hs (fun hs h=>?_) (fun hs h=>?_)
  rotate_left
  ·refine sx [] hs J ?_
   exact ⟨([]),Rl10,ef hs,ef hs,d,h⟩
  refine sk [1,2,15,16,17] hs l ?_
  clear l
  apply Ah;intro K14 k
  apply Ak
  obtain ⟨i,w,h⟩:=bind_some h
  obtain ⟨H,F,p⟩:=AA w
  have o:=AB (f:=Da) p
  have hs:=Aa o hs
  refine rg [1,2,7,8,15,16,17] hs ?_
  obtain ⟨g,z,h⟩:=bind_some h
  obtain ⟨E,G,q⟩:=AA z
  have t:=AB (f:=Da) q
  have hs:=Aa t hs
  refine rg [1,2,8,9,15,16,17] hs ?_
  obtain ⟨Q,D,h⟩:=bind_some h
  refine rc 2 [1,2,15,16,17,30] hs ?_;intro K19 j
  refine F6 _ (ha2 i g _ D _ _ px d.pre) (hv hs) ?_
  refine ne hs j ?_
  clear j
  refine AL h hs (fun hs h=>?_) (fun hs h=>?_)
  ·refine rg [6] hs ?_
   exact rt h hs b d
  refine sk [1,2,15,16,17] hs k ?_
  clear k
  obtain ⟨K,h⟩:=Aj h
  refine rl [1,2,15,16,17] hs (fun e s=>Vl10 ml10 e s (Nat.lt_succ_self _)) ?_
  exact ⟨(a+1),([.val (.int .i64 i.1)::(.val (.string i.2.1)::(.val (.int .i64 i.2.2.1)::((i.2.2.2.1.cs)++([.list (i.2.2.2.2.map Bo) .none])))),.val (.int .i64 g.1)::(.val (.string g.2.1)::(.val (.int .i64 g.2.2.1)::((g.2.2.2.1.cs)++([.list (g.2.2.2.2.map Bo) .none]))))]),Rl10,ef hs,ef hs,d,h⟩
 ·clear h;rintro e st ⟨Xk7,Rk7,rfl,rfl,d,h⟩
  rw [ES] at h
  refine AP N u y rfl b d (I5 c d) (I5 c d) ?_
  refine rg [6] hs ?_
  exact rt h hs b d
def HD (n:Nat)  : Option Bool :=
 some (true)
def CB (n:Nat) (q:List ByteArray) (s:List ByteArray):Nat→Int→Option Bool
 | 0,_=>none
 | m+1,b =>
  if decide (b<(q.length:Int)) then
   (Cb q b).bind fun g =>
   (Cb s b).bind fun h =>
   if !(DK g h) then
    some (false)
   else
    if BV (b+1) then
     (CB n q s m) (b+1)
    else none
  else
   HD n 
def E4 (n:Nat) (g:List ByteArray) (b:List ByteArray):Option Bool :=
 if !(decide ((g.length:Int)=(b.length:Int))) then
  some (false)
 else
  CB n g b n 0
theorem HE (w0:World) (n:Nat) (B:List (List AV)) (Rw:List RowA) (L:List LoopA) (a0:List ByteArray) (a1:List ByteArray) (r:Bool) (h:E4 n a0 a1=some r) :
  ACalls Tryz.prog w0 204 [.list (a0.map NI) .none,.list (a1.map NI) .none] ⟨B,Rw,L⟩ fun x st=>x = .val (.bool r)∧st=⟨B,Rw,L⟩:=by
 rw [E4] at h
 refine hd [.tmp 4] Tryz.func204 Tryz.ntmps204 fun M0 W0 D o q b H c hs=>?_
 simp only [Au]
 refine rg [0,1] hs ?_
 apply Ah;intro K2 u
 refine rg [0,1,10] hs ?_
 refine AL h hs (fun hs h=>?_) (fun hs h=>?_)
 ·refine rg [4] hs ?_
  exact rt h hs b c
 refine sk [0,1] hs u ?_
 clear u
 refine Av (fun e st=>Ck e st B Rw L [] [] [] (HD n  = some r)) ?_ ?_
 ·intro K8 z
  refine rg [0,1,12,13] hs ?_
  apply Ak
  refine AC (fun m e st=>∃ (a:Int),Ck e st B Rw L [(0,true,.list (a0.map NI) .none),(1,true,.list (a1.map NI) .none),(12,true,.val (.int .i64 (a0.length:Int))),(13,true,.val (.int .i64 a))] [] [] (CB n a0 a1 m a=some r)) n ⟨0,([]),Rw,ef hs,ef hs,c,h⟩ ?_
  rintro ml10 e st ⟨a,Xl10,Rl10,rfl,rfl,c,h⟩ Ul10 Vl10
  cases ml10 with
  | zero=>cases h
  | succ ml10 =>
  rw [CB] at h
  refine td D o q b c ?_
  refine rg [0,1,12,13,14] hs ?_
  apply Ah;intro K12 g
  refine AL h hs (fun hs h=>?_) (fun hs h=>?_)
  rotate_left
  ·refine sx [] hs z ?_
   exact ⟨([]),Rl10,ef hs,ef hs,c,h⟩
  refine sk [0,1,12,13] hs g ?_
  clear g
  apply Ah;intro K14 d
  apply Ak
  refine rg [0,1,5,12,13] hs ?_
  obtain ⟨F,p,h⟩:=bind_some h
  obtain ⟨C,w,i⟩:=AA p
  have l:=AB (f:=NI) i
  obtain ⟨G,t,h⟩:=bind_some h
  obtain ⟨v,y,j⟩:=AA t
  have k:=AB (f:=NI) j
  have hs:=Aa l hs
  have hs:=Aa k hs
  refine dg 9 1 1 [0,1,12,13,24] hs Iw ?_
  refine AL h hs (fun hs h=>?_) (fun hs h=>?_)
  ·refine rg [4] hs ?_
   exact rt h hs b c
  refine sk [0,1,12,13] hs d ?_
  clear d
  obtain ⟨E,h⟩:=Aj h
  refine rl [0,1,12,13] hs (fun e s=>Vl10 ml10 e s (Nat.lt_succ_self _)) ?_
  exact ⟨(a+1),([]),Rl10,ef hs,ef hs,c,h⟩
 ·clear h;rintro e st ⟨Xk7,Rk7,rfl,rfl,c,h⟩
  rw [HD] at h
  refine td D o q b c ?_
  refine rg [4] hs ?_
  exact rt h hs b c
def OG (rec:Ty→Ty→Option Bool) (n:Nat) (g:Ty) (b:Ty):Option Bool :=
 if (((decide (g.kind=b.kind))&&(decide (g.min=b.min)))&&(decide (g.max=b.max)))&&(decide (g.scale=b.scale)) then
  (E4 n g.words b.words).bind fun y4 =>
  if y4 then
   (Ho n g.elem b.elem (fun (q:Ty) (h:Ty)=>rec q h)).bind fun s =>
   if s then
    (E7 n g.fields b.fields (fun (q:Int × ByteArray × Int × Ty × List Vl) (h:Int × ByteArray × Int × Ty × List Vl)=>Le rec n q h)).bind fun y =>
    some (y)
   else
    some (false)
  else
   some (false)
 else
  some (false)
def J3:Nat→Ty→Ty→Option Bool
 | 0,_,_=>none
 | n+1,g,b=>OG (J3 n) n g b
def QY (w0:World) (F:Ty→Ty→Option Bool):Prop:=∀ (B:List (List AV)) (Rw:List RowA) (L:List LoopA) (g:Ty) (b:Ty) (r:Bool),F g b=some r→ACalls Tryz.prog w0 163 [.agg (g.cs),.agg (b.cs)] ⟨B,Rw,L⟩ fun x st=>x = .val (.bool r)∧st=⟨B,Rw,L⟩
theorem WZ (w0:World) (rec:Ty→Ty→Option Bool) (ih:QY w0 rec) (n:Nat):QY w0 (OG rec n):=by
 intro B Rw L a0 a1 r h
 rw [OG] at h
 refine hd [.tmp 4] Tryz.func163 Tryz.ntmps163 fun M0 W0 u p t a v l hs=>?_
 simp only [Au]
 refine rg [2,3] hs ?_
 apply Ah;intro K2 b
 rcases Bool.eq_false_or_eq_true ((((decide (a0.kind=a1.kind))&&(decide (a0.min=a1.min)))&&(decide (a0.max=a1.max)))&&(decide (a0.scale=a1.scale))) with hf3 | hf3
 ·replace h:=AY h hf3
  obtain ⟨s,f,h⟩:=bind_some h
  rcases Bool.eq_false_or_eq_true (s) with hf5 | hf5
  ·replace h:=AY h hf5
   obtain ⟨q,j,h⟩:=bind_some h
   rcases Bool.eq_false_or_eq_true (q) with hf7 | hf7
   ·replace h:=AY h hf7
    obtain ⟨w,m,h⟩:=bind_some h
    have hs:=Aa hf3 hs
    have hs:=Aa hf5 hs
    have hs:=Aa hf7 hs
    refine rk 4 [4] (al hs) ?_
    refine Ai _ (HE w0 n _ _ _ a0.words a1.words _ f) (hv (al hs)) ?_
    refine nc (al hs) ?_
    refine Ai _ (Jk w0 n _ _ _ a0.elem a1.elem 163 [] (fun (d:Ty) (c:Ty)=>rec d c) (fun d c r g o e i k=>by exact ih _ _ _ d c _ g) _ j) (hv (al hs)) ?_
    refine nc (al hs) ?_
    refine Ai _ (KL w0 n _ _ _ a0.fields a1.fields 207 [] (fun (d:Int × ByteArray × Int × Ty × List Vl) (c:Int × ByteArray × Int × Ty × List Vl)=>Le rec n d c) (fun d c r g o e i k=>by exact WU w0 rec ih n _ _ _ d c _ g) _ m) (hv (al hs)) ?_
    refine ne (al hs) b ?_
    clear b
    exact rt h hs a l
   ·replace h:=AZ h hf7
    have hs:=Aa hf3 hs
    have hs:=Aa hf5 hs
    have hs:=Aa hf7 hs
    refine rk 4 [4] (al hs) ?_
    refine Ai _ (HE w0 n _ _ _ a0.words a1.words _ f) (hv (al hs)) ?_
    refine nc (al hs) ?_
    refine Ai _ (Jk w0 n _ _ _ a0.elem a1.elem 163 [] (fun (d:Ty) (c:Ty)=>rec d c) (fun d c r g o e i k=>by exact ih _ _ _ d c _ g) _ j) (hv (al hs)) ?_
    refine nc (al hs) ?_
    refine Az ?_
    refine ne (al hs) b ?_
    clear b
    exact rt h hs a l
  ·replace h:=AZ h hf5
   have hs:=Aa hf3 hs
   have hs:=Aa hf5 hs
   refine rk 4 [4] (al hs) ?_
   refine Ai _ (HE w0 n _ _ _ a0.words a1.words _ f) (hv (al hs)) ?_
   refine nc (al hs) ?_
   refine Az ?_
   refine nc (al hs) ?_
   refine Az ?_
   refine ne (al hs) b ?_
   clear b
   exact rt h hs a l
 ·replace h:=AZ h hf3
  have hs:=Aa hf3 hs
  refine rk 4 [4] (al hs) ?_
  refine Az ?_
  refine nc (al hs) ?_
  refine Az ?_
  refine nc (al hs) ?_
  refine Az ?_
  refine ne (al hs) b ?_
  clear b
  exact rt h hs a l
theorem Ui (w0:World):∀ n:Nat,QY w0 (J3 n)
 | 0=>fun _ _ _ _ _ _ h=>(nomatch h)
 | n+1=>WZ w0 (J3 n) (Ui w0 n) n
theorem Ze1 {a b:Nat}:decide ((a:Int)=(b:Int))=decide (a=b):=decide_eq_decide.2 ⟨fun h=>by omega,fun h=>by omega⟩
theorem Zc6 {a b:Nat}:decide ((a:Int)≤(b:Int))=decide (a≤b):=decide_eq_decide.2 ⟨fun h=>by omega,fun h=>by omega⟩
theorem Zcs (n:Nat) (a b:List ByteArray) (hl:a.length≤1000000000) (hab:a.length=b.length):∀ (k m i:Nat),i+k=a.length→k<m→∃ c,CB n a b m i=some c∧(c=true↔a.drop i=b.drop i)
 | k,0,i,_,h=>absurd h (Nat.not_lt_zero _)
 | 0,m+1,i,hi,_=>by
  rw [CB,As,Ac (by omega)]
  simp only [Bool.false_eq_true,if_false]
  exact ⟨true,rfl,by rw [List.drop_eq_nil_of_le (by omega),List.drop_eq_nil_of_le (by omega)];simp⟩
 | k+1,m+1,i,hi,hm=>by
  have f:i<a.length:=by omega
  have d:i<b.length:=by omega
  rw [CB,As,Ad f]
  simp only [if_true,Ax f,Ax d,Ab]
  rw [N2 _ _ i f d]
  have e:=E3 a[i] b[i]
  cases hs:DK a[i] b[i] with
  | false =>
   rw [hs] at e
   simp only [Bool.not_false,if_true];exact ⟨false,rfl,by simp only [Bool.false_eq_true,false_iff];intro h;simpa using e.2 h.1⟩
  | true =>
   rw [hs] at e
   simp only [Bool.not_true,Bool.false_eq_true,if_false]
   rw [Ae (Aw (by omega))]
   obtain ⟨j,g,d⟩:=Zcs n a b hl hab k m (i+1) (by omega) (by omega)
   exact ⟨j,g,d.trans ⟨fun h=>⟨e.1 rfl,h⟩,fun h=>h.2⟩⟩
theorem Zjb (n:Nat) (a b:List ByteArray) (hl:a.length≤1000000000) (hn:a.length<n):∃ c,E4 n a b=some c∧(c=true↔a=b):=by
 rw [E4,Ze1]
 by_cases h:a.length=b.length
 ·rw [Ad h]
  simp only [Bool.not_true,Bool.false_eq_true,if_false]
  exact Zcs n a b hl h a.length n 0 (by omega) hn
 ·rw [Ac h]
  exact ⟨false,rfl,by simp only [Bool.false_eq_true,false_iff];intro e;exact h (by rw [e])⟩
theorem UN (n:Nat) (a b:List (Vl)) (f:Vl→Vl→Option Int) (hl:a.length≤1000000000)
  (hr:∀ p∈a,∀ q∈b,∃ c,f p q=some c∧(c=0↔p=q)):∀ (k m i:Nat),i+k=a.length→k<m→∃ c,BI n a b f m i=some c∧(c=0↔a.drop i=b.drop i)
 | k,0,i,_,h=>absurd h (Nat.not_lt_zero _)
 | 0,m+1,i,hi,_=>by
  rw [BI,As,Ac (by omega)]
  simp only [Bool.false_eq_true,if_false]
  rw [D4,As,List.drop_eq_nil_of_le (show a.length≤i by omega)]
  by_cases h:a.length<b.length
  ·rw [Ad h]
   simp only [if_true]
   exact ⟨-1,rfl,⟨fun h=>absurd h (by decide),fun e=>by have:=List.drop_eq_nil_iff.1 e.symm;omega⟩⟩
  ·rw [Ac h]
   simp only [Bool.false_eq_true,if_false]
   exact ⟨0,rfl,⟨fun _=>(List.drop_eq_nil_of_le (by omega)).symm,fun _=>rfl⟩⟩
 | k+1,m+1,i,hi,hm=>by
  have g:i<a.length:=by omega
  rw [BI,As,Ad g]
  simp only [if_true,Ax g,Ab,Zc6]
  by_cases d:i<b.length
  ·rw [Ac (show ¬ b.length≤i by omega)]
   simp only [Bool.false_eq_true,if_false,Ax d,Ab]
   obtain ⟨c,e,j⟩:=hr _ (List.getElem_mem g) _ (List.getElem_mem d)
   rw [e,N2 _ _ i g d]
   simp only [Ab]
   by_cases h0:c=0
   ·rw [Ad h0]
    simp only [Bool.not_true,Bool.false_eq_true,if_false]
    rw [Ae (Aw (by omega))]
    obtain ⟨o,l,d⟩:=UN n a b f hl hr k m (i+1) (by omega) (by omega)
    exact ⟨o,l,d.trans ⟨fun h=>⟨j.1 h0,h⟩,fun h=>h.2⟩⟩
   ·rw [Ac h0]
    simp only [Bool.not_false,if_true]
    exact ⟨c,rfl,⟨fun h=>absurd h h0,fun h=>absurd (j.2 h.1) h0⟩⟩
  ·rw [Ad (show b.length≤i by omega)]
   simp only [if_true]
   refine ⟨1,rfl,⟨fun h=>absurd h (by decide),fun e=>?_⟩⟩
   rw [List.drop_eq_nil_of_le (show b.length≤i by omega)] at e
   have:=List.drop_eq_nil_iff.1 e
   omega
theorem Zg (n:Nat) (a b:List (Vl)) (f:Vl→Vl→Option Int) (hl:a.length≤1000000000) (hn:a.length<n)
  (hr:∀ p∈a,∀ q∈b,∃ c,f p q=some c∧(c=0↔p=q)):∃ c,Eh n a b f=some c∧(c=0↔a=b) :=
 UN n a b f hl hr a.length n 0 (by omega) hn
theorem Uh (n:Nat) (a b:List (ByteArray × Vl)) (f:ByteArray × Vl→ByteArray × Vl→Option Int) (hl:a.length≤1000000000)
  (hr:∀ p∈a,∀ q∈b,∃ c,f p q=some c∧(c=0↔p=q)):∀ (k m i:Nat),i+k=a.length→k<m→∃ c,BJ n a b f m i=some c∧(c=0↔a.drop i=b.drop i)
 | k,0,i,_,h=>absurd h (Nat.not_lt_zero _)
 | 0,m+1,i,hi,_=>by
  rw [BJ,As,Ac (by omega)]
  simp only [Bool.false_eq_true,if_false]
  rw [D6,As,List.drop_eq_nil_of_le (show a.length≤i by omega)]
  by_cases h:a.length<b.length
  ·rw [Ad h]
   simp only [if_true]
   exact ⟨-1,rfl,⟨fun h=>absurd h (by decide),fun e=>by have:=List.drop_eq_nil_iff.1 e.symm;omega⟩⟩
  ·rw [Ac h]
   simp only [Bool.false_eq_true,if_false]
   exact ⟨0,rfl,⟨fun _=>(List.drop_eq_nil_of_le (by omega)).symm,fun _=>rfl⟩⟩
 | k+1,m+1,i,hi,hm=>by
  have g:i<a.length:=by omega
  rw [BJ,As,Ad g]
  simp only [if_true,Ax g,Ab,Zc6]
  by_cases d:i<b.length
  ·rw [Ac (show ¬ b.length≤i by omega)]
   simp only [Bool.false_eq_true,if_false,Ax d,Ab]
   obtain ⟨c,e,j⟩:=hr _ (List.getElem_mem g) _ (List.getElem_mem d)
   rw [e,N2 _ _ i g d]
   simp only [Ab]
   by_cases h0:c=0
   ·rw [Ad h0]
    simp only [Bool.not_true,Bool.false_eq_true,if_false]
    rw [Ae (Aw (by omega))]
    obtain ⟨o,l,d⟩:=Uh n a b f hl hr k m (i+1) (by omega) (by omega)
    exact ⟨o,l,d.trans ⟨fun h=>⟨j.1 h0,h⟩,fun h=>h.2⟩⟩
   ·rw [Ac h0]
    simp only [Bool.not_false,if_true]
    exact ⟨c,rfl,⟨fun h=>absurd h h0,fun h=>absurd (j.2 h.1) h0⟩⟩
  ·rw [Ad (show b.length≤i by omega)]
   simp only [if_true]
   refine ⟨1,rfl,⟨fun h=>absurd h (by decide),fun e=>?_⟩⟩
   rw [List.drop_eq_nil_of_le (show b.length≤i by omega)] at e
   have:=List.drop_eq_nil_iff.1 e
   omega
theorem Zo (n:Nat) (a b:List (ByteArray × Vl)) (f:ByteArray × Vl→ByteArray × Vl→Option Int) (hl:a.length≤1000000000) (hn:a.length<n)
  (hr:∀ p∈a,∀ q∈b,∃ c,f p q=some c∧(c=0↔p=q)):∃ c,Eg n a b f=some c∧(c=0↔a=b) :=
 Uh n a b f hl hr a.length n 0 (by omega) hn
theorem ZfW (n:Nat) (l:List Int) (hl:l.length≤1000000000):∀ (k m i:Nat),i+k=l.length→k<m→∃ c,E6 n l m i=some c∧(c=0↔∀ x∈l.drop i,x=0)
 | k,0,i,_,h=>absurd h (Nat.not_lt_zero _)
 | 0,m+1,i,hi,_=>by
  rw [E6,As,Ac (by omega)]
  simp only [Bool.false_eq_true,if_false]
  exact ⟨0,rfl,by rw [List.drop_eq_nil_of_le (by omega)];simp⟩
 | k+1,m+1,i,hi,hm=>by
  have a:i<l.length:=by omega
  rw [E6,As,Ad a]
  simp only [if_true,Ax a,Ab]
  rw [List.drop_eq_getElem_cons a]
  by_cases h0:l[i]=0
  ·rw [Ad h0]
   simp only [Bool.not_true,Bool.false_eq_true,if_false]
   rw [Ae (Aw (by omega))]
   obtain ⟨e,d,b⟩:=ZfW n l hl k m (i+1) (by omega) (by omega)
   exact ⟨e,d,b.trans ⟨fun h x hx=>by rcases List.mem_cons.1 hx with rfl | hx;exact h0;exact h x hx,fun h x hx=>h x (List.mem_cons_of_mem _ hx)⟩⟩
  ·rw [Ac h0]
   simp only [Bool.not_false,if_true]
   exact ⟨_,rfl,⟨fun h=>absurd h h0,fun h=>absurd (h _ (List.mem_cons_self ..)) h0⟩⟩
theorem Zf1 (n:Nat) (l:List Int) (hl:l.length<n) (h2:l.length≤1000000000):∃ c,Ij n l=some c∧(c=0↔∀ x∈l,x=0):=ZfW n l h2 l.length n 0 (by omega) hl
theorem Zby (a b:Int):(if a<b then (-1:Int) else if a=b then 0 else 1)=0↔a=b:=by
 by_cases h1:a<b
 ·rw [Ae h1];omega
 ·rw [Af h1]
  by_cases h2:a=b
  ·simp [h2]
  ·simp [h2]
theorem Vl.lens' (v:Vl):v.list.length<v.size∧v.fields.length<v.size:=by have:=Np v.list;have:=MY v.fields;have:=v.size_eq;omega
theorem NP:∀ (n:Nat) (a b:Vl),a.size+10≤n→a.size≤1000000000→∃ c,FO n a b=some c∧(c=0↔a=b)
 | 0,a,b,h,_=>by omega
 | n+1,a,b,h,hs=>by
  have w:=a.lens'
  rw [FO,Lp]
  obtain ⟨s,v,m⟩:=Zg n a.list b.list (fun x y=>FO n x y) (by omega) (by omega) (fun p d q _=>NP n p q (by have:=a.list_size p d;omega) (by have:=a.list_size p d;omega))
  obtain ⟨j,i,f⟩:=Zo n a.fields b.fields (fun x y=>Gq (FO n) n x y) (by omega) (by omega) (fun p d q _=>by
   obtain ⟨c,e,g⟩:=NP n p.2 q.2 (by have:=a.field_size p d;omega) (by have:=a.field_size p d;omega)
   obtain ⟨j,i,f⟩:=Zf1 n [EM p.1 q.1,c] (by simp;omega) (by simp)
   refine ⟨j,by rw [Gq,e,Ab,i];rfl,f.trans ?_⟩
   simp only [List.mem_cons,List.not_mem_nil,or_false,forall_eq_or_imp,forall_eq,J5,g]
   exact ⟨fun h=>Prod.ext h.1 h.2,fun h=>by rw [h];exact ⟨rfl,rfl⟩⟩)
  rw [v,Ab,i,Ab]
  obtain ⟨c,e,g⟩:=Zf1 n [if a.kind<b.kind then -1 else if a.kind=b.kind then 0 else 1,if a.int<b.int then -1 else if a.int=b.int then 0 else 1,if a.scale<b.scale then -1 else if a.scale=b.scale then 0 else 1,EM a.text b.text,s,j] (by simp;omega) (by simp)
  refine ⟨c,by rw [e];rfl,g.trans ?_⟩
  simp only [List.mem_cons,List.not_mem_nil,or_false,forall_eq_or_imp,forall_eq,J5,Zby,m,f]
  exact ⟨fun ⟨l,t,u,k,r,o⟩=>Vl.ext' l t u k r o,fun h=>by rw [h];exact ⟨rfl,rfl,rfl,rfl,rfl,rfl⟩⟩
theorem Zbf (n:Nat) (a b:Vl) (h:a.size+10≤n) (hs:a.size≤1000000000):∃ c,FD n a b=some c∧(c=true↔a=b):=by
 obtain ⟨c,e,d⟩:=NP n a b h hs
 exact ⟨decide (c=0),by rw [FD,e];rfl,by rw [decide_eq_true_eq];exact d⟩
theorem ZgX {t:Ty} {v:Vl} (k:1≤t.kind∧t.kind≤10) (hk:v.kind=t.kind) (hf:DD v=true):¬ ((t.kind<1∨10<t.kind)∨v.kind≠t.kind∨DD v=false):=by
 rintro (q | q | q)
 ·omega
 ·exact q hk
 ·rw [hf] at q;cases q
theorem Zh {v:Vl} (hs:SS v.fields) {q:ByteArray × Vl} (hq:q∈v.fields):Eb v q.1=some q.2:=by
 rw [Eb]
 cases c:v.fields.find? (fun x=>DK x.1 q.1) with
 | none =>
  rw [List.find?_eq_none] at c
  exact absurd (Mc q.1) (c q hq)
 | some z =>
  have e:=List.mem_of_find?_eq_some c
  have a:z.1=q.1:=(E3 _ _).1 (List.find?_some (p:=fun x:ByteArray × Vl=>DK x.1 q.1) c)
  have:z=q:=by
   obtain ⟨i,b,rfl⟩:=List.mem_iff_getElem.1 e
   obtain ⟨j,d,rfl⟩:=List.mem_iff_getElem.1 hq
   rcases Nat.lt_trichotomy i j with w | w | w
   ·have:=List.pairwise_iff_getElem.1 hs i j b d w
    rw [a,OX] at this;omega
   ·subst w;rfl
   ·have:=List.pairwise_iff_getElem.1 hs j i d b w
    rw [a,OX] at this;omega
  rw [this];rfl
def I1 (rec:Ty→Ty→Option Bool) (n:Nat) (q:Ty) (b:Int × ByteArray × Int × Ty × List Vl):Option Bool :=
 (CV n q.fields b.1).bind fun g =>
 if !g.2 then
  some (!(decide (b.2.2.1=1)))
 else
  (rec g.1.2.2.2.1 b.2.2.2.1).bind fun h =>
  some (h&&(!((decide (b.2.2.1=1))&&(decide (g.1.2.2.1=2)))))
theorem TN (w0:World) (rec:Ty→Ty→Option Bool) (ih:∀ (B:List (List AV)) (Rw:List RowA) (L:List LoopA) (a0:Ty) (a1:Ty) (r:Bool) (h:rec a0 a1=some r),ACalls Tryz.prog w0 90 [.agg (a0.cs),.agg (a1.cs)] ⟨B,Rw,L⟩ fun x st=>x = .val (.bool r)∧st=⟨B,Rw,L⟩) (n:Nat) (B:List (List AV)) (Rw:List RowA) (L:List LoopA) (a0:Ty) (a1:Int × ByteArray × Int × Ty × List Vl) (r:Bool) (h:I1 rec n a0 a1=some r) :
  ACalls Tryz.prog w0 152 [.agg (a0.cs),.agg (.val (.int .i64 a1.1)::(.val (.string a1.2.1)::(.val (.int .i64 a1.2.2.1)::((a1.2.2.2.1.cs)++([.list (a1.2.2.2.2.map Bo) .none])))))] ⟨B,Rw,L⟩ fun x st=>x = .val (.bool r)∧st=⟨B,Rw,L⟩:=by
 rw [I1] at h
 refine hd [.tmp 4] Tryz.func152 Tryz.ntmps152 fun M0 W0 m j i a l g hs=>?_
 simp only [Au]
 refine rg [2,3] hs ?_
 obtain ⟨k,e,h⟩:=bind_some h
 refine rc 2 [3,5,6] hs ?_;intro K2 d
 refine Ai _ (ED w0 n _ _ _ a0.fields a1.1 _ e) (hv hs) ?_
 refine ne hs d ?_
 clear d
 apply Ah;intro K4 c
 refine rg [3,5,16] hs ?_
 refine AL h hs (fun hs h=>?_) (fun hs h=>?_)
 ·refine rg [4] hs ?_
  exact rt h hs a g
 refine sk [3,5] hs c ?_
 clear c
 obtain ⟨o,f,h⟩:=bind_some h
 refine rc 2 [4] hs ?_;intro K8 b
 refine Ai _ (ih _ _ _ k.1.2.2.2.1 a1.2.2.2.1 _ f) (hv hs) ?_
 refine ne hs b ?_
 clear b
 exact rt h hs a g
def CO (rec:Ty→Ty→Option Bool) (n:Nat) (h:Int × ByteArray × Int × Ty × List Vl) (b:Ty):Option Bool :=
 (I1 rec n b h).bind fun g =>
 some (!g)
theorem Nn (w0:World) (rec:Ty→Ty→Option Bool) (ih:∀ (B:List (List AV)) (Rw:List RowA) (L:List LoopA) (a0:Ty) (a1:Ty) (r:Bool) (h:rec a0 a1=some r),ACalls Tryz.prog w0 90 [.agg (a0.cs),.agg (a1.cs)] ⟨B,Rw,L⟩ fun x st=>x = .val (.bool r)∧st=⟨B,Rw,L⟩) (n:Nat) (B:List (List AV)) (Rw:List RowA) (L:List LoopA) (a0:Int × ByteArray × Int × Ty × List Vl) (la1:Nat) (a1:Ty) (hla1:B[la1]? = some (a1.cs)) (r:Bool) (h:CO rec n a0 a1=some r) :
  ACalls Tryz.prog w0 151 [.agg (.val (.int .i64 a0.1)::(.val (.string a0.2.1)::(.val (.int .i64 a0.2.2.1)::((a0.2.2.2.1.cs)++([.list (a0.2.2.2.2.map Bo) .none]))))),.box la1 0] ⟨B,Rw,L⟩ fun x st=>x = .val (.bool r)∧st=⟨B,Rw,L⟩:=by
 rw [CO] at h
 refine hd [.tmp 3] Tryz.func151 Tryz.ntmps151 fun M0 W0 k g f a i e hs=>?_
 simp only [Au]
 have c:=(Ag.1 hla1).1
 have hs:=Aa (An hla1) hs
 refine rg [1,2] hs ?_
 obtain ⟨j,d,h⟩:=bind_some h
 refine rc 2 [3] hs ?_;intro K2 b
 refine Ai _ (TN w0 rec ih n _ _ _ a1 a0 _ d) (hv hs) ?_
 refine ne hs b ?_
 clear b
 exact rt h hs a e
def Iq (rec:Ty→Ty→Option Bool) (n:Nat) (g:Int × ByteArray × Int × Ty × List Vl) (h:Ty):Option Bool :=
 (CV n h.fields g.1).bind fun b =>
 if b.2 then
  (rec g.2.2.2.1 b.1.2.2.2.1).bind fun q =>
  some (q)
 else
  some (false)
theorem SC (w0:World) (rec:Ty→Ty→Option Bool) (ih:∀ (B:List (List AV)) (Rw:List RowA) (L:List LoopA) (a0:Ty) (a1:Ty) (r:Bool) (h:rec a0 a1=some r),ACalls Tryz.prog w0 90 [.agg (a0.cs),.agg (a1.cs)] ⟨B,Rw,L⟩ fun x st=>x = .val (.bool r)∧st=⟨B,Rw,L⟩) (n:Nat) (B:List (List AV)) (Rw:List RowA) (L:List LoopA) (a0:Int × ByteArray × Int × Ty × List Vl) (a1:Ty) (r:Bool) (h:Iq rec n a0 a1=some r) :
  ACalls Tryz.prog w0 154 [.agg (.val (.int .i64 a0.1)::(.val (.string a0.2.1)::(.val (.int .i64 a0.2.2.1)::((a0.2.2.2.1.cs)++([.list (a0.2.2.2.2.map Bo) .none]))))),.agg (a1.cs)] ⟨B,Rw,L⟩ fun x st=>x = .val (.bool r)∧st=⟨B,Rw,L⟩:=by
 rw [Iq] at h
 refine hd [.tmp 4] Tryz.func154 Tryz.ntmps154 fun M0 W0 m j i a l f hs=>?_
 simp only [Au]
 refine rg [2,3] hs ?_
 obtain ⟨g,e,h⟩:=bind_some h
 refine rc 2 [2,5,6] hs ?_;intro K2 c
 refine Ai _ (ED w0 n _ _ _ a1.fields a0.1 _ e) (hv hs) ?_
 refine ne hs c ?_
 clear c
 apply Ah;intro K4 b
 rcases Bool.eq_false_or_eq_true (g.2) with hf5 | hf5
 ·replace h:=AY h hf5
  obtain ⟨k,d,h⟩:=bind_some h
  have hs:=Aa hf5 hs
  refine rk 2 [4] hs ?_
  refine Ai _ (ih _ _ _ a0.2.2.2.1 g.1.2.2.2.1 _ d) (hv hs) ?_
  refine ne hs b ?_
  clear b
  exact rt h hs a f
 ·replace h:=AZ h hf5
  have hs:=Aa hf5 hs
  refine rk 2 [4] hs ?_
  refine Az ?_
  refine ne hs b ?_
  clear b
  exact rt h hs a f
def CM (rec:Ty→Ty→Option Bool) (n:Nat) (h:Int × ByteArray × Int × Ty × List Vl) (b:Ty):Option Bool :=
 (Iq rec n h b).bind fun g =>
 some (!g)
theorem MM (w0:World) (rec:Ty→Ty→Option Bool) (ih:∀ (B:List (List AV)) (Rw:List RowA) (L:List LoopA) (a0:Ty) (a1:Ty) (r:Bool) (h:rec a0 a1=some r),ACalls Tryz.prog w0 90 [.agg (a0.cs),.agg (a1.cs)] ⟨B,Rw,L⟩ fun x st=>x = .val (.bool r)∧st=⟨B,Rw,L⟩) (n:Nat) (B:List (List AV)) (Rw:List RowA) (L:List LoopA) (a0:Int × ByteArray × Int × Ty × List Vl) (la1:Nat) (a1:Ty) (hla1:B[la1]? = some (a1.cs)) (r:Bool) (h:CM rec n a0 a1=some r) :
  ACalls Tryz.prog w0 153 [.agg (.val (.int .i64 a0.1)::(.val (.string a0.2.1)::(.val (.int .i64 a0.2.2.1)::((a0.2.2.2.1.cs)++([.list (a0.2.2.2.2.map Bo) .none]))))),.box la1 0] ⟨B,Rw,L⟩ fun x st=>x = .val (.bool r)∧st=⟨B,Rw,L⟩:=by
 rw [CM] at h
 refine hd [.tmp 3] Tryz.func153 Tryz.ntmps153 fun M0 W0 k g f a i e hs=>?_
 simp only [Au]
 have c:=(Ag.1 hla1).1
 have hs:=Aa (An hla1) hs
 refine rg [1,2] hs ?_
 obtain ⟨j,d,h⟩:=bind_some h
 refine rc 2 [3] hs ?_;intro K2 b
 refine Ai _ (SC w0 rec ih n _ _ _ a0 a1 _ d) (hv hs) ?_
 refine ne hs b ?_
 clear b
 exact rt h hs a e
def FB (n:Nat) (b:Ty) (g:Ty):Option Bool :=
 (Di n b.min b.scale g.scale).bind fun h =>
 (Di n b.max b.scale g.scale).bind fun q =>
 some ((((h.2&&q.2)&&(Bh h.1 g))&&(Bh q.1 g))&&((decide (b.scale≤g.scale))||(decide (b.min=b.max))))
theorem QP (w0:World) (n:Nat) (B:List (List AV)) (Rw:List RowA) (L:List LoopA) (a0:Ty) (a1:Ty) (r:Bool) (h:FB n a0 a1=some r) :
  ACalls Tryz.prog w0 147 [.agg (a0.cs),.agg (a1.cs)] ⟨B,Rw,L⟩ fun x st=>x = .val (.bool r)∧st=⟨B,Rw,L⟩:=by
 rw [FB] at h
 refine hd [.tmp 4] Tryz.func147 Tryz.ntmps147 fun M0 W0 o j i a m g hs=>?_
 simp only [Au]
 refine rg [2,3] hs ?_
 obtain ⟨k,f,h⟩:=bind_some h
 refine rc 2 [2,3,5,6] hs ?_;intro K2 d
 refine Ai _ (Ii w0 n _ _ _ a0.min a0.scale a1.scale _ f) (hv hs) ?_
 refine ne hs d ?_
 clear d
 obtain ⟨l,e,h⟩:=bind_some h
 refine rc 2 [2,3,5,6,7,8] hs ?_;intro K4 c
 refine Ai _ (Ii w0 n _ _ _ a0.max a0.scale a1.scale _ e) (hv hs) ?_
 refine ne hs c ?_
 clear c
 refine rc 3 [4] hs ?_;intro K6 b
 refine HB _ (fun _=>C9 w0 _ _ _ k.1 a1) (hv hs) ?_
 refine nc hs ?_
 refine HB _ (fun _=>C9 w0 _ _ _ l.1 a1) (hv hs) ?_
 refine ne hs b ?_
 clear b
 exact rt h hs a g
def Et (n:Nat) (g:ByteArray) (b:Ty) (q:Ty):Option Bool :=
 (AG n b q (Gj g)).bind fun h =>
 some (!h.2)
theorem Qb (w0:World) (n:Nat) (B:List (List AV)) (Rw:List RowA) (L:List LoopA) (a0:ByteArray) (la1:Nat) (a1:Ty) (hla1:B[la1]? = some (a1.cs)) (la2:Nat) (a2:Ty) (hla2:B[la2]? = some (a2.cs)) (r:Bool) (h:Et n a0 a1 a2=some r) :
  ACalls Tryz.prog w0 200 [.val (.string a0),.box la1 0,.box la2 0] ⟨B,Rw,L⟩ fun x st=>x = .val (.bool r)∧st=⟨B,Rw,L⟩:=by
 rw [Et] at h
 refine hd [.tmp 4] Tryz.func200 Tryz.ntmps200 fun M0 W0 m j g a k f hs=>?_
 simp only [Au]
 have c:=(Ag.1 hla1).1
 have d:=(Ag.1 hla2).1
 have hs:=Aa (An hla1) hs
 have hs:=Aa (An hla2) hs
 refine rg [0,1,2] hs ?_
 apply Ah;intro K2 b
 obtain ⟨l,e,h⟩:=bind_some h
 apply JP Iw [8,9] [6] kr (fun s=>∃ (X:List (List AV)) (rows:List RowA),s=⟨B++([]++X),rows,L⟩) 3 (B.length+0)
 ·simp +decide only [go_sem,Nat.reduceAdd]
 ·rintro s ⟨X,rows,rfl⟩
  refine ⟨3,?_⟩
  rw [Am];simp +decide only [go_sem,Nat.reduceAdd,EO,An hla1,An hla2]
  (repeat' apply Aa)<;>first | refine Ai _ (TA w0 _ _ _ a0) (hv hs) ?_ | exact cl
  rw [Am];simp +decide only [go_sem,Nat.reduceAdd,An hla1,An hla2]
  (repeat' apply Aa)<;>first | refine Ai _ (Ie w0 n _ _ _ a1 a2 (Gj a0) _ e) (hv hs) ?_ | exact cl
  rw [Am];simp +decide only [go_sem,Nat.reduceAdd,An hla1,An hla2]
  (repeat' apply Aa)<;>first | rfl | exact cl
 ·refine Good.mk [8] kr ⟨[],_,by first | rfl | (simp only [List.append_nil,List.nil_append];done) | (simp only [List.append_nil,List.nil_append];rfl)⟩ ?_ ?_
  ·intro h;exact absurd h (by decide)
  ·intro i hi;simp only [List.mem_cons,List.not_mem_nil,or_false] at hi
   subst hi
   ·apply D3 rfl rfl ev
    ·simp +decide only [go_sem,Nat.reduceAdd,Gt,An hla1,An hla2]
     (repeat' apply Aa)<;>first | rfl | exact cl
    ·simp +decide only [go_sem,Nat.reduceAdd,An hla1,An hla2]
     refine Good.mk [9] kr ⟨_,_,by first | rfl | (simp only [List.append_nil,List.nil_append];done) | (simp only [List.append_nil,List.nil_append];rfl)⟩ ?_ ?_
     ·intro h;exact absurd h (by decide)
     ·intro i hi;simp only [List.mem_cons,List.not_mem_nil,or_false] at hi
      subst hi
      ·apply D3 rfl rfl ev
       ·simp +decide only [go_sem,Nat.reduceAdd,Gt,An hla1,An hla2]
        (repeat' apply Aa)<;>first | rfl | exact cl
       ·simp +decide only [go_sem,Nat.reduceAdd,An hla1,An hla2]
        refine Good.mk [] kr ⟨_,_,by first | rfl | (simp only [List.append_nil,List.nil_append];done) | (simp only [List.append_nil,List.nil_append];rfl)⟩ ?_ ?_
        ·intro _;apply DJ [6];first | (simp +decide only [go_sem,Nat.reduceAdd,An hla1,An hla2];done) | (simp +decide only [go_sem,Nat.reduceAdd,An hla1,An hla2];rfl)
        ·intro i hi;cases hi
 simp +decide only [go_sem,Nat.reduceAdd,An hla1,An hla2]
 (repeat' apply Aa)<;>first | refine b _ _ ?_ | exact cl
 clear b
 refine rg [4] hs ?_
 exact rt h hs a f
def CP (g:Ty) (b:Ty):Bool :=
 (decide (b.min≤g.min))&&(decide (g.max≤b.max))
theorem SD (w0:World) (B:List (List AV)) (Rw:List RowA) (L:List LoopA) (a0:Ty) (a1:Ty) (r:Bool) (h:CP a0 a1=r) :
  ACalls Tryz.prog w0 149 [.agg (a0.cs),.agg (a1.cs)] ⟨B,Rw,L⟩ fun x st=>x = .val (.bool r)∧st=⟨B,Rw,L⟩:=by
 rw [CP] at h
 refine hd [.tmp 4] Tryz.func149 Tryz.ntmps149 fun M0 W0 f d c a e b hs=>?_
 simp only [Au]
 refine rg [2,3] hs ?_
 refine rg [4] hs ?_
 exact rT h hs a b
theorem En (w0:World) (B:List (List AV)) (Rw:List RowA) (L:List LoopA) (a0:Ty) (a1:Ty) :
  ACalls Tryz.prog w0 149 [.agg (a0.cs),.agg (a1.cs)] ⟨B,Rw,L⟩ fun x st=>x = .val (.bool (CP a0 a1))∧st=⟨B,Rw,L⟩:=SD w0 B Rw L a0 a1 _ rfl
def Ge (n:Nat)  : Option Int :=
 some ((-1))
def BQ (n:Nat) (q:List ByteArray) (s:ByteArray→Option Bool):Nat→Int→Option Int
 | 0,_=>none
 | m+1,b =>
  if decide (b<(q.length:Int)) then
   (Cb q b).bind fun g =>
   (s g).bind fun h =>
   if h then
    some (b)
   else
    if BV (b+1) then
     (BQ n q s m) (b+1)
    else none
  else
   Ge n 
def EI (n:Nat) (g:List ByteArray) (b:ByteArray→Option Bool):Option Int :=
 BQ n g b n 0
theorem Nl (w0:World) (n:Nat) (B:List (List AV)) (Rw:List RowA) (L:List LoopA) (a0:List ByteArray) (fa1:FuncId) (ca1:List AV) (a1:ByteArray→Option Bool) (ha1:∀ (x0:ByteArray) r,a1 x0=some r→∀ B' rows,B <+: B'→Rw <+: rows→ACalls Tryz.prog w0 fa1 ([.val (.string x0)]++ca1) ⟨B',rows,L⟩ fun v s=>v = .val (.bool r)∧s=⟨B',rows,L⟩) (r:Int) (h:EI n a0 a1=some r) :
  ACalls Tryz.prog w0 229 [.list (a0.map NI) .none,.clo fa1 ca1] ⟨B,Rw,L⟩ fun x st=>x = .val (.int .i64 r)∧st=⟨B,Rw,L⟩:=by
 rw [EI] at h
 refine hd [.tmp 4] Tryz.func229 Tryz.ntmps229 fun M0 W0 C l q c E d hs=>?_
 simp only [Au]
 have a:=Ci (E (.clo fa1 ca1) (by simp))
 refine rg [0,1] hs ?_
 refine Av (fun e st=>Ck e st B Rw L [] [] [] (Ge n  = some r)) ?_ ?_
 ·intro K4 y
  refine rg [0,1,7,8] hs ?_
  apply Ak
  refine AC (fun m e st=>∃ (b:Int),Ck e st B Rw L [(0,true,.list (a0.map NI) .none),(1,true,.clo fa1 ca1),(7,true,.val (.int .i64 (a0.length:Int))),(8,true,.val (.int .i64 b))] [] [] (BQ n a0 a1 m b=some r)) n ⟨0,([]),Rw,ef hs,ef hs,d,h⟩ ?_
  rintro ml6 e st ⟨b,Xl6,Rl6,rfl,rfl,d,h⟩ Ul6 Vl6
  cases ml6 with
  | zero=>cases h
  | succ ml6 =>
  rw [BQ] at h
  refine AP C l q rfl c d (I5 a d) (I5 a d) ?_
  refine rg [0,1,7,8,9] hs ?_
  apply Ah;intro K8 p
  refine AL h hs (fun hs h=>?_) (fun hs h=>?_)
  rotate_left
  ·refine sx [] hs y ?_
   exact ⟨([]),Rl6,ef hs,ef hs,d,h⟩
  refine sk [0,1,7,8] hs p ?_
  clear p
  apply Ah;intro K10 g
  apply Ak
  refine rg [0,1,5,7,8] hs ?_
  obtain ⟨z,t,h⟩:=bind_some h
  obtain ⟨w,u,k⟩:=AA t
  have j:=AB (f:=NI) k
  obtain ⟨F,o,h⟩:=bind_some h
  have hs:=Aa j hs
  refine rc 2 [0,1,5,7,8,16] hs ?_;intro K12 i
  refine F6 _ (ha1 z _ o _ _ px d.pre) (hv hs) ?_
  refine ne hs i ?_
  clear i
  refine AL h hs (fun hs h=>?_) (fun hs h=>?_)
  ·refine rg [4] hs ?_
   exact rt h hs c d
  refine sk [0,1,7,8] hs g ?_
  clear g
  obtain ⟨D,h⟩:=Aj h
  refine rl [0,1,7,8] hs (fun e s=>Vl6 ml6 e s (Nat.lt_succ_self _)) ?_
  exact ⟨(b+1),([]),Rl6,ef hs,ef hs,d,h⟩
 ·clear h;rintro e st ⟨Xk3,Rk3,rfl,rfl,d,h⟩
  rw [Ge] at h
  refine AP C l q rfl c d (I5 a d) (I5 a d) ?_
  refine rg [4] hs ?_
  exact rt h hs c d
def CS (n:Nat) (h:List ByteArray) (b:ByteArray→Option Bool):Option Bool :=
 (EI n h b).bind fun g =>
 some (decide (0≤g))
theorem KJ (w0:World) (n:Nat) (B:List (List AV)) (Rw:List RowA) (L:List LoopA) (a0:List ByteArray) (fa1:FuncId) (ca1:List AV) (a1:ByteArray→Option Bool) (ha1:∀ (x0:ByteArray) r,a1 x0=some r→∀ B' rows,B <+: B'→Rw <+: rows→ACalls Tryz.prog w0 fa1 ([.val (.string x0)]++ca1) ⟨B',rows,L⟩ fun v s=>v = .val (.bool r)∧s=⟨B',rows,L⟩) (r:Bool) (h:CS n a0 a1=some r) :
  ACalls Tryz.prog w0 199 [.list (a0.map NI) .none,.clo fa1 ca1] ⟨B,Rw,L⟩ fun x st=>x = .val (.bool r)∧st=⟨B,Rw,L⟩:=by
 rw [CS] at h
 refine hd [.tmp 4] Tryz.func199 Tryz.ntmps199 fun M0 W0 q l j b i g hs=>?_
 simp only [Au]
 have d:=Ci (i (.clo fa1 ca1) (by simp))
 refine rg [0,1] hs ?_
 obtain ⟨p,e,h⟩:=bind_some h
 refine rc 2 [4] hs ?_;intro K2 c
 refine Ai _ (Nl w0 n _ _ _ a0 fa1 ca1 a1 (fun x0 r o f a m k=>ha1 x0 r o f a (List.IsPrefix.trans px m) (g.pre.trans k)) _ e) (hv hs) ?_
 refine ne hs c ?_
 clear c
 exact rt h hs b g
def GI (n:Nat) (b:Ty) (g:Ty):Option Bool :=
 if decide (0<(b.words.length:Int)) then
  (CS n b.words (fun (s:ByteArray)=>Et n s b g)).bind fun q =>
  some (!q)
 else
  if decide (0<(g.words.length:Int)) then
   if decide (b.max=0) then
    (Bz n g.words ((⟨#[]⟩:ByteArray))).bind fun h =>
    some (h)
   else
    some (false)
  else
   some (CP b g)
theorem SE (w0:World) (n:Nat) (B:List (List AV)) (Rw:List RowA) (L:List LoopA) (a0:Ty) (a1:Ty) (r:Bool) (h:GI n a0 a1=some r) :
  ACalls Tryz.prog w0 148 [.agg (a0.cs),.agg (a1.cs)] ⟨B,Rw,L⟩ fun x st=>x = .val (.bool r)∧st=⟨B,Rw,L⟩:=by
 rw [GI] at h
 refine hd [.tmp 4] Tryz.func148 Tryz.ntmps148 fun M0 W0 t m p a v i hs=>?_
 simp only [Au]
 refine rg [2,3] hs ?_
 apply Ah;intro K2 g
 apply Ak
 refine rg [2,3,5] hs ?_
 refine AL h hs (fun hs h=>?_) (fun hs h=>?_)
 ·obtain ⟨u,k,h⟩:=bind_some h
  refine rc 2 [4] hs ?_;intro K5 d
  refine Ai _ (KJ w0 n _ _ _ a0.words 200 [.box B.length 0,.box (B.length+1) 0] (fun (j:ByteArray)=>Et n j a0 a1) (fun j r o w l f s=>by exact Qb w0 n _ _ _ j _ a0 (DI f (ef hs)) _ a1 (DI f (ef hs)) _ o) _ k) (hv hs) ?_
  refine ne hs d ?_
  clear d
  exact rt h hs a i
 refine rg [2,3,15] hs ?_
 refine AL h hs (fun hs h=>?_) (fun hs h=>?_)
 ·apply Ah;intro K9 b
  rcases Bool.eq_false_or_eq_true (decide (a0.max=0)) with hf10 | hf10
  ·replace h:=AY h hf10
   obtain ⟨q,e,h⟩:=bind_some h
   have hs:=Aa hf10 hs
   refine rk 2 [4] hs ?_
   refine Ai _ (EH w0 n _ _ _ a1.words ((⟨#[]⟩:ByteArray)) _ e) (hv hs) ?_
   refine ne hs b ?_
   clear b
   exact rt h hs a i
  ·replace h:=AZ h hf10
   have hs:=Aa hf10 hs
   refine rk 2 [4] hs ?_
   refine Az ?_
   refine ne hs b ?_
   clear b
   exact rt h hs a i
 refine sk [2,3] hs g ?_
 clear g
 refine rc 2 [4] hs ?_;intro K12 c
 refine Ai _ (En w0 _ _ _ a0 a1) (hv hs) ?_
 refine ne hs c ?_
 clear c
 exact rt h hs a i
def BA (rec:Ty→Ty→Option Bool) (n:Nat) (h:Ty) (b:Ty) (g:Bool):Option Bool :=
 if g then
  (FB n h b).bind fun y15 =>
  some (y15)
 else
  if decide (b.kind=1) then
   some (true)
  else
   if decide (b.kind=4) then
    (GI n h b).bind fun q =>
    some (q)
   else
    if decide (b.kind=8) then
     if CP h b then
      if decide (h.max=0) then
       some (true)
      else
       (Cb h.elem 0).bind fun x28 =>
       (Cb b.elem 0).bind fun x29 =>
       (rec x28 x29).bind fun s =>
       some (s)
     else
      some (false)
    else
     if decide (b.kind=9) then
      (AD n b.fields (fun (x0:Int × ByteArray × Int × Ty × List Vl)=>CO rec n x0 h)).bind fun y34 =>
      some (!y34)
     else
      if decide (b.kind=10) then
       (AD n h.fields (fun (x0:Int × ByteArray × Int × Ty × List Vl)=>CM rec n x0 b)).bind fun y =>
       some (!y)
      else
       some (CP h b)
def Ff (rec:Ty→Ty→Option Bool) (n:Nat) (g:Ty) (b:Ty):Option Bool :=
 if !(Dn g.kind b.kind) then
  some (false)
 else
  if decide (b.kind=2) then
   BA rec n g b true
  else
   BA rec n g b (decide (b.kind=3))
def AH:Nat→Ty→Ty→Option Bool
 | 0,_,_=>none
 | n+1,g,b=>Ff (AH n) n g b
def Hr (w0:World) (F:Ty→Ty→Option Bool):Prop:=∀ (B:List (List AV)) (Rw:List RowA) (L:List LoopA) (g:Ty) (b:Ty) (r:Bool),F g b=some r→ACalls Tryz.prog w0 90 [.agg (g.cs),.agg (b.cs)] ⟨B,Rw,L⟩ fun x st=>x = .val (.bool r)∧st=⟨B,Rw,L⟩
theorem M7 (w0:World) (rec:Ty→Ty→Option Bool) (ih:Hr w0 rec) (n:Nat):Hr w0 (Ff rec n):=by
 intro B Rw L a0 a1 r h
 rw [Ff] at h
 refine hd [.tmp 4] Tryz.func90 Tryz.ntmps90 fun M0 W0 hN F N a hu d hs=>?_
 simp only [Au]
 refine rg [2,3] hs ?_
 apply Ah;intro K2 C
 refine rc 2 [2,3,10] hs ?_;intro K3 E
 refine Ai _ (Jz w0 _ _ _ a0.kind a1.kind) (hv hs) ?_
 refine ne hs E ?_
 clear E
 refine AL h hs (fun hs h=>?_) (fun hs h=>?_)
 ·refine rg [4] hs ?_
  exact rt h hs a d
 refine sk [2,3] hs C ?_
 clear C
 apply Ah;intro K6 y
 refine rg [2,3,12] hs ?_
 apply Ak
 refine Av (fun e st=>∃ (c:Bool),Ck e st B Rw L [(2,true,.box B.length 0),(3,true,.box (B.length+1) 0),(12,true,.val (.int .i64 a1.kind)),(13,true,.val (.bool c))] [a0.cs,a1.cs] [] (BA rec n a0 a1 c=some r)) ?_ ?_
 ·intro K10 i
  refine rg [2,3,12,13] hs ?_
  refine AL h hs (fun hs h=>?_) (fun hs h=>?_)
  ·refine sk [2,3,12,13] hs i ?_
   exact ⟨true,([]),Rw,ef hs,ef hs,d,h⟩
  refine rl [2,3,12,13] hs i ?_
  exact ⟨(decide (a1.kind=3)),([]),Rw,ef hs,ef hs,d,h⟩
 ·clear h;rintro e st ⟨c,Xk9,Rk9,rfl,rfl,d,h⟩
  rw [BA] at h
  refine td hN F N a d ?_
  refine AL h hs (fun hs h=>?_) (fun hs h=>?_)
  ·obtain ⟨ad,x,h⟩:=bind_some h
   refine rc 2 [4] hs ?_;intro K14 l
   refine Ai _ (QP w0 n _ _ _ a0 a1 _ x) (hv hs) ?_
   refine ne hs l ?_
   clear l
   exact rt h hs a d
  refine rg [2,3,12,19] hs ?_
  refine AL h hs (fun hs h=>?_) (fun hs h=>?_)
  ·refine rg [4] hs ?_
   exact rt h hs a d
  refine rg [2,3,12,21] hs ?_
  refine AL h hs (fun hs h=>?_) (fun hs h=>?_)
  ·obtain ⟨Y,D,h⟩:=bind_some h
   refine rc 2 [4] hs ?_;intro K21 k
   refine Ai _ (SE w0 n _ _ _ a0 a1 _ D) (hv hs) ?_
   refine ne hs k ?_
   clear k
   exact rt h hs a d
  refine rg [2,3,12,26] hs ?_
  refine AL h hs (fun hs h=>?_) (fun hs h=>?_)
  ·apply Ah;intro K25 b
   rcases Bool.eq_false_or_eq_true (CP a0 a1) with hf26 | hf26
   ·replace h:=AY h hf26
    rcases Bool.eq_false_or_eq_true (decide (a0.max=0)) with hf27 | hf27
    ·replace h:=AY h hf27
     have hs:=Aa hf26 hs
     have hs:=Aa hf27 hs
     refine dk 20 3 1 [4] hs Iw ?_
     refine Ai _ (En w0 _ _ _ a0 a1) (hv hs) ?_
     refine nc hs ?_
     refine Az ?_
     refine dn hs b ?_
     clear b
     exact rt h hs a d
    ·replace h:=AZ h hf27
     obtain ⟨K,V,H,g,h⟩:=ix Ia h
     have p:(a0.elem.map Ia).getD 0 .junk=_:=g
     obtain ⟨J,U,O,f,h⟩:=ix Ia h
     have t:(a1.elem.map Ia).getD 0 .junk=_:=f
     obtain ⟨aa,v,h⟩:=bind_some h
     have hs:=Aa hf26 hs
     have hs:=Aa hf27 hs
     have hs:=Aa g hs
     have hs:=Aa p hs
     have hs:=Aa f hs
     have hs:=Aa t hs
     refine dk 20 3 1 [4] hs Iw ?_
     refine Ai _ (En w0 _ _ _ a0 a1) (hv hs) ?_
     refine nc hs ?_
     refine Ai _ (ih _ _ _ K J _ v) (hv hs) ?_
     refine dn hs b ?_
     clear b
     exact rt h hs a d
   ·replace h:=AZ h hf26
    have hs:=Aa hf26 hs
    refine dk 20 3 1 [4] hs Iw ?_
    refine Ai _ (En w0 _ _ _ a0 a1) (hv hs) ?_
    refine nc hs ?_
    refine Az ?_
    refine dn hs b ?_
    clear b
    exact rt h hs a d
  refine rg [2,3,12,47] hs ?_
  refine AL h hs (fun hs h=>?_) (fun hs h=>?_)
  ·obtain ⟨ab,z,h⟩:=bind_some h
   refine rc 2 [4] hs ?_;intro K33 j
   refine Ai _ (BS w0 n _ _ _ a1.fields 151 [.box B.length 0] (fun (q:Int × ByteArray × Int × Ty × List Vl)=>CO rec n q a0) (fun q r G B' u s Q=>by exact Nn w0 rec ih n _ _ _ q _ a0 (DI s (ef hs)) _ G) _ z) (hv hs) ?_
   refine ne hs j ?_
   clear j
   exact rt h hs a d
  refine rg [2,3,54] hs ?_
  refine AL h hs (fun hs h=>?_) (fun hs h=>?_)
  ·obtain ⟨Z,w,h⟩:=bind_some h
   refine rc 2 [4] hs ?_;intro K37 o
   refine Ai _ (BS w0 n _ _ _ a0.fields 153 [.box (B.length+1) 0] (fun (q:Int × ByteArray × Int × Ty × List Vl)=>CM rec n q a1) (fun q r G B' u s Q=>by exact MM w0 rec ih n _ _ _ q _ a1 (DI s (ef hs)) _ G) _ w) (hv hs) ?_
   refine ne hs o ?_
   clear o
   exact rt h hs a d
  refine sk [2,3] hs y ?_
  clear y
  refine rc 2 [4] hs ?_;intro K39 m
  refine Ai _ (En w0 _ _ _ a0 a1) (hv hs) ?_
  refine ne hs m ?_
  clear m
  exact rt h hs a d
theorem EY (w0:World):∀ n:Nat,Hr w0 (AH n)
 | 0=>fun _ _ _ _ _ _ h=>(nomatch h)
 | n+1=>M7 w0 (AH n) (EY w0 n) n
def LC (g:Ty) (b:Ty):Bool :=
 (decide (b.min≤g.min))&&(decide (g.max≤b.max))
def PW (rec:Ty→Ty→Option Bool) (n:Nat) (h:Ty) (b:Ty):Option Bool :=
 if decide (0<(h.words.length:Int)) then
  some (true)
 else
  if decide (0<(b.words.length:Int)) then
   if decide (h.max=0) then
    (OZ n ((⟨#[]⟩:ByteArray)) b).bind fun g =>
    some (g)
   else
    some (false)
  else
   some (LC h b)
def Z6 (rec:Ty→Ty→Option Bool) (n:Nat)  : Option Bool :=
 some (true)
def Zy (rec:Ty→Ty→Option Bool) (n:Nat)  : Option Bool :=
 some (true)
def Z7 (rec:Ty→Ty→Option Bool) (n:Nat) (g:Ty) (b:Ty):Option Bool :=
 some (LC g b)
def HS (rec:Ty→Ty→Option Bool) (n:Nat) (g:Ty) (h:Ty):Nat→Int→Option Bool
 | 0,_=>none
 | m+1,b =>
  if decide (b<(g.words.length:Int)) then
   (Cb g.words b).bind fun q =>
   (OZ n q h).bind fun s =>
   if !s then
    some (false)
   else
    if BV (b+1) then
     (HS rec n g h m) (b+1)
    else none
  else
   PW rec n g h 
def IG (rec:Ty→Ty→Option Bool) (n:Nat) (q:Ty) (y:Ty):Nat→Int→Option Bool
 | 0,_=>none
 | m+1,b =>
  if decide (b<(q.fields.length:Int)) then
   (Cb q.fields b).bind fun g =>
   (Gm n y g.1).bind fun h =>
   if !h.2 then
    some (false)
   else
    (rec g.2.2.2.1 h.1.2.2.2.1).bind fun s =>
    if !s then
     some (false)
    else
     if BV (b+1) then
      (IG rec n q y m) (b+1)
     else none
  else
   Z6 rec n 
def G0 (rec:Ty→Ty→Option Bool) (n:Nat) (y:Ty) (s:Ty):Nat→Int→Option Bool
 | 0,_=>none
 | m+1,b =>
  if decide (b<(s.fields.length:Int)) then
   (Cb s.fields b).bind fun h =>
   (Gm n y h.1).bind fun g =>
   if (!g.2)&&(decide (h.2.2.1=1)) then
    some (false)
   else
    if g.2 then
     (rec g.1.2.2.2.1 h.2.2.2.1).bind fun q =>
     if (!q)||((decide (h.2.2.1=1))&&(decide (g.1.2.2.1=2))) then
      some (false)
     else
      if BV (b+1) then
       (G0 rec n y s m) (b+1)
      else none
    else
     if BV (b+1) then
      (G0 rec n y s m) (b+1)
     else none
  else
   Zy rec n 
def Yi (rec:Ty→Ty→Option Bool) (n:Nat) (g:Ty) (b:Ty):Option Bool :=
 if (decide (0≤(A1 g)))&&(decide (0≤(A1 b))) then
  if BV ((A1 b)-(A1 g)) then
   (GL n g.min ((A1 b)-(A1 g))).bind fun y7 =>
   if BV ((A1 b)-(A1 g)) then
    (GL n g.max ((A1 b)-(A1 g))).bind fun h =>
    if (decide ((A1 b)<(A1 g)))&&(!(decide (g.min=g.max))) then
     some (false)
    else
     some (((y7.2&&h.2)&&(Bd y7.1 b))&&(Bd h.1 b))
   else none
  else none
 else
  if !(decide (g.kind=b.kind)) then
   some (false)
  else
   if decide (b.kind=1) then
    some (true)
   else
    if decide (b.kind=4) then
     HS rec n g b n 0
    else
     if decide (b.kind=8) then
      if LC g b then
       if decide (g.max=0) then
        some (true)
       else
        (Cb g.elem 0).bind fun y =>
        (Cb b.elem 0).bind fun s =>
        (rec y s).bind fun q =>
        some (q)
      else
       some (false)
     else
      if decide (b.kind=10) then
       IG rec n g b n 0
      else
       if decide (b.kind=9) then
        G0 rec n g b n 0
       else
        Z7 rec n g b 
def Hu:Nat→Ty→Ty→Option Bool
 | 0,_,_=>none
 | n+1,g,b=>Yi (Hu n) n g b
def ZbG (a b:Ty):Bool:=match MZ a.min a.scale b.scale,MZ a.max a.scale b.scale with
 | some x,some y=>NM x b&&NM y b&&(decide (a.scale≤b.scale)||decide (a.min=a.max))
 | _,_=>false
def XW (a b:Ty):Bool:=decide (b.min≤a.min)&&decide (a.max≤b.max)
def ZbM (a b:Ty):Bool:=if a.words≠[] then a.words.all fun w=>Jl w b else if b.words≠[] then decide (a.max=0)&&Jl ⟨#[]⟩ b else XW a b
def Nb:Nat→Ty→Ty→Bool
 | 0,_,_=>false
 | d+1,a,b =>
  if (a.kind=2∨a.kind=3)∧(b.kind=2∨b.kind=3) then ZbG a b
  else if a.kind≠b.kind then false
  else if b.kind=1 then true
  else if b.kind=4 then ZbM a b
  else if b.kind=8 then XW a b&&(decide (a.max=0)||(match a.elem,b.elem with | [x],[y]=>Nb d x y | _,_=>false))
  else if b.kind=9 then b.fields.all fun g=>match Fv a.fields g.1 with | none => !decide (g.2.2.1=1) | some p=>Nb d p.2.2.2.1 g.2.2.2.1 && !(decide (g.2.2.1=1)&&decide (p.2.2.1=2))
  else if b.kind=10 then a.fields.all fun p=>match Fv b.fields p.1 with | none=>false | some g=>Nb d p.2.2.2.1 g.2.2.2.1
  else XW a b
theorem Zce {t:Ty} (o:t.Own) (h:t.kind=2∨t.kind=3):(-999999999999999≤t.min∧t.min≤999999999999999)∧(-999999999999999≤t.max∧t.max≤999999999999999):=by
 obtain ⟨_,_,c⟩:=o.bounds (by omega) (by omega)
 have:=SO o h
 omega
theorem Zho (n:Nat) (a b:Ty) (oa:a.Own) (ob:b.Own) (ha:a.kind=2∨a.kind=3) (hb:b.kind=2∨b.kind=3) (hn:200<n):FB n a b=some (ZbG a b):=by
 have f:=oa.scale
 have e:=ob.scale
 obtain ⟨c,d⟩:=Zce oa ha
 rw [FB,PS n _ _ _ c (by omega) (by omega) hn,Ab,PS n _ _ _ d (by omega) (by omega) hn,Ab,ZbG]
 cases MZ a.min a.scale b.scale with
 | none=>simp
 | some x =>
  cases MZ a.max a.scale b.scale with
  | none=>simp
  | some y=>simp [NM,Bh,Bool.and_assoc]
def okN (b:Ty):Option Int→Bool
 | some m=>NM m b
 | none=>false
theorem XH {o:Option Int} {y:Int × Bool} {b:Ty} (ob:b.Own) (hb:b.kind=2∨b.kind=3) (h:Zhv o y):(y.2&&Bd y.1 b)=okN b o:=by
 have a:=SO ob hb
 cases o with
 | some m =>
  have h:y=(m,true):=h
  subst h;rfl
 | none =>
  rcases h with h | ⟨h,h2⟩
  ·rw [h];rfl
  ·rw [h,Bool.true_and]
   show Bd y.1 b=false
   rw [Bool.eq_false_iff]
   intro w
   have:NM y.1 b=true:=w
   rw [WX] at this
   omega
theorem ZfA (n:Nat) (a b:Ty) (oa:a.Own) (ob:b.Own) (ha:a.kind=2∨a.kind=3) (hb:b.kind=2∨b.kind=3) (hn:200<n) :
  ((GL n a.min (b.scale-a.scale)).bind fun y7=>if BV (b.scale-a.scale) then (GL n a.max (b.scale-a.scale)).bind fun y10=>if (decide (b.scale<a.scale) && !decide (a.min=a.max))=true then some false else some (((y7.2&&y10.2)&&Bd y7.1 b)&&Bd y10.1 b) else none)=some (ZbG a b):=by
 have t:=oa.scale
 have o:=ob.scale
 obtain ⟨l,m⟩:=Zce oa ha
 obtain ⟨y,h,g⟩:=Tu n a.min a.scale b.scale l (by omega) (by omega) hn
 obtain ⟨z,k,f⟩:=Tu n a.max a.scale b.scale m (by omega) (by omega) hn
 have j:=XH ob hb g
 have d:=XH ob hb f
 rw [h,Ab,Ae (by unfold BV;omega),k,Ab,ZbG]
 have i:(((y.2&&z.2)&&Bd y.1 b)&&Bd z.1 b)=((y.2&&Bd y.1 b)&&(z.2&&Bd z.1 b)):=by
  generalize y.2=p;generalize z.2=q;generalize Bd y.1 b=r;generalize Bd z.1 b=s
  revert p q r s;decide
 rw [i,j,d]
 by_cases c:b.scale<a.scale∧a.min≠a.max
 ·rw [Ae (by rw [Bool.and_eq_true,decide_eq_true_eq,Bool.not_eq_true',decide_eq_false_iff_not];exact c),Ac (show ¬ a.scale≤b.scale by omega),Ac c.2]
  cases MZ a.min a.scale b.scale with
  | none=>rfl
  | some x=>cases MZ a.max a.scale b.scale<;>simp [okN]
 ·rw [Af (by rw [Bool.and_eq_true,decide_eq_true_eq,Bool.not_eq_true',decide_eq_false_iff_not];exact c)]
  have e:(decide (a.scale≤b.scale)||decide (a.min=a.max))=true:=by
   rw [Bool.or_eq_true,decide_eq_true_eq,decide_eq_true_eq]
   by_cases q:a.min=a.max
   ·exact .inr q
   ·left
    have:¬ b.scale<a.scale:=fun z=>c ⟨z,q⟩
    omega
  rw [e]
  cases MZ a.min a.scale b.scale with
  | none=>rfl
  | some x=>cases MZ a.max a.scale b.scale<;>simp [okN]
theorem ZfK (n:Nat) (a b:Ty) (w:ByteArray) (ha:a.kind=4) (hb:b.kind=4) (hl:b.words.length≤1000000000) (hn:b.words.length+1<n):AG n a b (Gj w)=some (Gj w,Jl w b):=by
 obtain ⟨n,rfl⟩:∃ m,n=m+1:=⟨n-1,by omega⟩
 have c:(Gj w).text=w:=rfl
 rw [AG,Fq,J6 (.inl (by omega)),Af (by decide),Ac (show ¬ b.kind=2 by omega),Af (by decide),Ac (show ¬ b.kind=3 by omega),BC,Af (by decide),Ac (show ¬ b.kind=6 by omega),Af (by decide),Ac (show ¬ b.kind=7 by omega),BB,Af (by decide),Ac (show ¬ b.kind=5 by omega),Af (by decide),Ad hb,Ae rfl,Jl]
 by_cases q:b.words=[]
 ·rw [Ae q,q,Af (by decide)];rfl
 ·have d:0<b.words.length:=List.length_pos_iff.2 q
  rw [Af q,Ae (by rw [decide_eq_true_eq];omega),I2 n _ b hl (by omega),Ab,c]
theorem Tc (n:Nat) (l:List ByteArray) (f:ByteArray→Option Bool) (p:ByteArray→Bool) (hf:∀ x∈l,f x=some (p x)) (hl:l.length≤1000000000) (hn:l.length<n):CS n l f=some (l.any p):=by
 have b:∀ (k m i:Nat),i+k=l.length→k<m→BQ n l f m i=some (N5 p l i):=by
  intro k
  induction k with
  | zero =>
   intro m i c d
   obtain ⟨m,rfl⟩:∃ q,m=q+1:=⟨m-1,by omega⟩
   rw [BQ,As,Ac (by omega),Lm p l i (by omega)];rfl
  | succ k ih =>
   intro m i c d
   obtain ⟨m,rfl⟩:∃ q,m=q+1:=⟨m-1,by omega⟩
   have a:i<l.length:=by omega
   rw [BQ,As,Ad a,Ae rfl,Ax a,Ab,hf _ (List.getElem_mem a),Ab,Jn p l i a]
   cases p l[i] with
   | true=>rfl
   | false =>
    rw [Af (by decide),Ae (Aw (by omega)),Af (show ¬ (false=true) by decide)]
    exact ih m (i+1) (by omega) (by omega)
 have e:EI n l f=some (N5 p l 0):=b l.length n 0 (by omega) hn
 rw [CS,e,Ab,MK]
theorem ZgY (n:Nat) (a b:Ty) (ha:a.kind=4) (hb:b.kind=4) (la:a.words.length≤1048576) (lb:b.words.length≤1048576) (hn:1048580<n):GI n a b=some (ZbM a b):=by
 rw [GI,ZbM]
 by_cases q:a.words=[]
 ·rw [q,Af (by decide),Af (show ¬ (([]:List ByteArray)≠[]) from fun h=>h rfl)]
  by_cases r:b.words=[]
  ·rw [r,Af (by decide),Af (show ¬ (([]:List ByteArray)≠[]) from fun h=>h rfl)];rfl
  ·have d:0<b.words.length:=List.length_pos_iff.2 r
   rw [Ae r,Ae (by rw [decide_eq_true_eq];omega)]
   by_cases z:a.max=0
   ·rw [Ad z,Ae rfl,I2 n _ b (by omega) (by omega),Jl,Af r,Bool.true_and];rfl
   ·rw [Ac z,Af (by decide),Bool.false_and]
 ·have e:0<a.words.length:=List.length_pos_iff.2 q
  rw [Ae q,Ae (by rw [decide_eq_true_eq];omega),Tc n a.words (fun c=>Et n c a b) (fun w => !Jl w b) (fun x f=>by rw [Et,ZfK n a b x ha hb (by omega) (by omega)];rfl) (by omega) (by omega),Ab,List.not_any_eq_all_not]
  simp
theorem Zdi (rec:Ty→Ty→Option Bool) (n:Nat) (a b:Ty) (la:a.words.length≤1048576) (lb:b.words.length≤1048576) (hn:1048580<n):∀ (k m i:Nat),i+k=a.words.length→k<m →
  HS rec n a b m i=if ((a.words.drop i).all fun w=>Jl w b)=true then PW rec n a b else some false:=by
 intro k
 induction k with
 | zero =>
  intro m i d e
  obtain ⟨m,rfl⟩:∃ q,m=q+1:=⟨m-1,by omega⟩
  rw [HS,As,Ac (by omega),Af (show ¬ (false=true) by decide),List.drop_eq_nil_of_le (by omega),List.all_nil,Ae (show true=true from rfl)]
 | succ k ih =>
  intro m i d e
  obtain ⟨m,rfl⟩:∃ q,m=q+1:=⟨m-1,by omega⟩
  have c:i<a.words.length:=by omega
  rw [HS,As,Ad c,Ae rfl,Ax c,Ab,WB n _ b (by omega) (by omega),Ab,List.drop_eq_getElem_cons c,List.all_cons]
  cases Jl a.words[i] b with
  | false=>rw [Ae (show (!false)=true from rfl),Bool.false_and,Af (show ¬ (false=true) by decide)]
  | true =>
   rw [Af (show ¬ ((!true)=true) by decide),Ae (Aw (by omega)),Bool.true_and]
   exact ih m (i+1) (by omega) (by omega)
theorem ZeX (rec:Ty→Ty→Option Bool) (n:Nat) (a b:Ty) (la:a.words.length≤1048576) (lb:b.words.length≤1048576) (hn:1048580<n):HS rec n a b n 0=some (ZbM a b):=by
 have e:=Zdi rec n a b la lb hn a.words.length n 0 (by omega) (by omega)
 have c:HS rec n a b n 0=_:=e
 rw [c,List.drop_zero,ZbM,PW]
 by_cases q:a.words=[]
 ·rw [q,List.all_nil,Ae rfl,Af (by decide),Af (show ¬ (([]:List ByteArray)≠[]) from fun h=>h rfl)]
  by_cases r:b.words=[]
  ·rw [r,Af (by decide),Af (show ¬ (([]:List ByteArray)≠[]) from fun h=>h rfl)];rfl
  ·have d:0<b.words.length:=List.length_pos_iff.2 r
   rw [Ae r,Ae (by rw [decide_eq_true_eq];omega)]
   by_cases z:a.max=0
   ·rw [Ad z,Ae rfl,WB n _ b (by omega) (by omega),Bool.true_and];rfl
   ·rw [Ac z,Af (by decide),Bool.false_and]
 ·have f:0<a.words.length:=List.length_pos_iff.2 q
  rw [Ae q]
  cases h:a.words.all fun w=>Jl w b with
  | false=>rfl
  | true=>rw [Ae rfl,Ae (by rw [decide_eq_true_eq];omega)]
def Zfq (f:Ty→Ty→Bool) (a:Ty) (g:TF):Bool:=match Fv a.fields g.1 with | none => !decide (g.2.2.1=1) | some p=>f p.2.2.2.1 g.2.2.2.1 && !(decide (g.2.2.1=1)&&decide (p.2.2.1=2))
def Zfh (f:Ty→Ty→Bool) (b:Ty) (p:TF):Bool:=match Fv b.fields p.1 with | none=>false | some g=>f p.2.2.2.1 g.2.2.2.1
theorem YX (rec:Ty→Ty→Option Bool) (f:Ty→Ty→Bool) (n:Nat) (a b:Ty) (la:a.fields.length≤1000000) (lb:b.fields.length≤1000000) (hn:1048580<n) (hr:∀ g∈b.fields,∀ p,Fv a.fields g.1=some p→rec p.2.2.2.1 g.2.2.2.1=some (f p.2.2.2.1 g.2.2.2.1)):∀ (k m i:Nat),i+k=b.fields.length→k<m →
  G0 rec n a b m i=some ((b.fields.drop i).all (Zfq f a))
 | k,0,i,_,h=>absurd h (Nat.not_lt_zero _)
 | 0,m+1,i,hi,_=>by
  rw [G0,As,Ac (by omega),Af (by decide),List.drop_eq_nil_of_le (by omega),List.all_nil];rfl
 | k+1,m+1,i,hi,hm=>by
  have d:i<b.fields.length:=by omega
  have j:=List.getElem_mem d
  have ih:=YX rec f n a b la lb hn hr k m (i+1) (by omega) (by omega)
  rw [G0,As,Ad d,Ae rfl,Ax d,Ab,Jb n a _ (by omega) (by omega),Ab,List.drop_eq_getElem_cons d,List.all_cons,Zfq]
  cases q:Fv a.fields b.fields[i].1 with
  | none =>
   by_cases c:b.fields[i].2.2.1=1
   ·rw [Ad c,Ae (by rfl)];rfl
   ·rw [Ac c,Af (by simp),Af (by simp),Ae (Aw (by omega))]
    simpa using ih
  | some p =>
   rw [Af (by simp),Ae Option.isSome_some,Option.getD_some,hr _ j p q,Ab]
   simp only
   cases hf:f p.2.2.2.1 b.fields[i].2.2.2.1 with
   | false=>rw [Ae (by rfl)];simp [hf]
   | true =>
    by_cases c:b.fields[i].2.2.1=1∧p.2.2.1=2
    ·rw [Ad c.1,Ad c.2,Ae (by rfl)];simp [hf]
    ·have e:(decide (b.fields[i].2.2.1=1)&&decide (p.2.2.1=2))=false:=by
      rw [Bool.eq_false_iff];intro z;rw [Bool.and_eq_true,decide_eq_true_eq,decide_eq_true_eq] at z;exact c z
     rw [e,Af (by decide),Ae (Aw (by omega))]
     refine (show G0 rec n a b m ((i:Int)+1)=_ from ih).trans ?_
     simp [hf]
theorem XU (rec:Ty→Ty→Option Bool) (f:Ty→Ty→Bool) (n:Nat) (a b:Ty) (la:a.fields.length≤1000000) (lb:b.fields.length≤1000000) (hn:1048580<n) (hr:∀ p∈a.fields,∀ g,Fv b.fields p.1=some g→rec p.2.2.2.1 g.2.2.2.1=some (f p.2.2.2.1 g.2.2.2.1)):∀ (k m i:Nat),i+k=a.fields.length→k<m →
  IG rec n a b m i=some ((a.fields.drop i).all (Zfh f b))
 | k,0,i,_,h=>absurd h (Nat.not_lt_zero _)
 | 0,m+1,i,hi,_=>by
  rw [IG,As,Ac (by omega),Af (by decide),List.drop_eq_nil_of_le (by omega),List.all_nil];rfl
 | k+1,m+1,i,hi,hm=>by
  have c:i<a.fields.length:=by omega
  have d:=List.getElem_mem c
  have ih:=XU rec f n a b la lb hn hr k m (i+1) (by omega) (by omega)
  rw [IG,As,Ad c,Ae rfl,Ax c,Ab,Jb n b _ (by omega) (by omega),Ab,List.drop_eq_getElem_cons c,List.all_cons,Zfh]
  cases q:Fv b.fields a.fields[i].1 with
  | none=>rw [Ae (by rfl)];rfl
  | some g =>
   rw [Af (by simp),Option.getD_some,hr _ d g q,Ab]
   simp only
   cases hf:f a.fields[i].2.2.2.1 g.2.2.2.1 with
   | false=>rfl
   | true =>
    rw [Af (by decide),Ae (Aw (by omega)),Bool.true_and]
    exact ih
theorem Wx {α:Type} (l:List α) (p:α→Bool):(!l.any fun x => !p x)=l.all p:=by rw [List.not_any_eq_all_not];simp
theorem TT:∀ (d n:Nat) (a b:Ty),a.small→b.small→a.Good→b.Good→a.depth≤d→d+2000000<n→AH n a b=some (Nb d a b)∧Hu n a b=some (Nb d a b)
 | 0,n,a,b,_,_,_,_,h,_=>by have:=a.depth_eq;omega
 | d+1,0,a,b,_,_,_,_,_,h=>absurd h (by omega)
 | d+1,n+1,a,b,sa,sb,ga,gb,hd,hn=>by
  have l:=ga.own
  have r:=gb.own
  have U:=a.lens
  have Q:=b.lens
  have O:=sa.1
  have H:=sb.1
  have D:=(a.ok_eq.1 sa.2.2).1
  have E:=(b.ok_eq.1 sb.2.2).1
  rw [AH,Ff,Hu,Yi,Nb]
  by_cases num:(a.kind=2∨a.kind=3)∧(b.kind=2∨b.kind=3)
  ·have o:(if decide (b.kind=2)=true then BA (AH n) n a b true else BA (AH n) n a b (decide (b.kind=3)))=BA (AH n) n a b true:=by
    rcases num.2 with q | q
    ·rw [Ad q,Ae rfl]
    ·rw [Ad q];exact ite_self _
   have N:=l.scale
   have K:=r.scale
   have j:=ZfA n a b l r num.1 num.2 (by omega)
   rw [Ae num,J6 (.inr num),Af (by decide),o,BA,Ae rfl,Zho n a b l r num.1 num.2 (by omega),QE l num.1,QE r num.2,Ad N.1,Ad K.1,Ae (by rfl),Ae (by unfold BV;omega)]
   exact ⟨rfl,j⟩
  have w:(decide (0≤A1 a)&&decide (0≤A1 b))=false:=by
   rw [Bool.eq_false_iff]
   intro q
   rw [Bool.and_eq_true,decide_eq_true_eq,decide_eq_true_eq] at q
   exact num ⟨OW q.1,OW q.2⟩
  rw [Af num,w,Af (show ¬ (false=true) by decide)]
  by_cases ne:a.kind=b.kind
  rotate_left
  ·rw [Ae ne,UD ne num,Ae (by rfl),Ac ne,Ae (by rfl)]
   exact ⟨rfl,rfl⟩
  have u:¬ b.kind=2:=fun q=>num ⟨by omega,.inl q⟩
  have t:¬ b.kind=3:=fun q=>num ⟨by omega,.inr q⟩
  rw [Af (show ¬ a.kind≠b.kind from fun q=>q ne),J6 (.inl ne),Af (show ¬ ((!true)=true) by decide),Ac u,Af (show ¬ (false=true) by decide),Ac t,BA,Af (show ¬ (false=true) by decide),Ad ne,Af (show ¬ ((!true)=true) by decide)]
  by_cases k1:b.kind=1
  ·rw [Ae k1,Ad k1,Ae rfl,Ae rfl]
   exact ⟨rfl,rfl⟩
  rw [Af k1,Ac k1,Af (show ¬ (false=true) by decide),Af (show ¬ (false=true) by decide)]
  by_cases k4:b.kind=4
  ·rw [Ae k4,Ad k4,Ae rfl,Ae rfl,ZgY n a b (by omega) k4 D E (by omega),ZeX _ n a b D E (by omega)]
   exact ⟨rfl,rfl⟩
  rw [Af k4,Ac k4,Af (show ¬ (false=true) by decide),Af (show ¬ (false=true) by decide)]
  by_cases k8:b.kind=8
  ·obtain ⟨x,C⟩:=l.elem (by omega)
   obtain ⟨y,F⟩:=r.elem k8
   have f:x∈a.elem:=by rw [C];simp
   have s:y∈b.elem:=by rw [F];simp
   obtain ⟨J,G⟩:=TT d n x y (Ty.small_elem sa f) (Ty.small_elem sb s) (ET ga f) (ET gb s) (by have:=Ty.depth_elem f;omega) (by omega)
   rw [Ae k8,Ad k8,Ae rfl,Ae rfl,C,F,show Cb [x] 0=some x from rfl,show Cb [y] 0=some y from rfl,Ab,Ab,Ab,Ab,J,G,show CP a b=XW a b from rfl,show LC a b=XW a b from rfl]
   cases XW a b with
   | false=>exact ⟨rfl,rfl⟩
   | true =>
    by_cases z:a.max=0
    ·rw [Ad z];exact ⟨rfl,rfl⟩
    ·rw [Ac z];exact ⟨rfl,rfl⟩
  rw [Af k8,Ac k8,Af (show ¬ (false=true) by decide),Af (show ¬ (false=true) by decide)]
  by_cases k9:b.kind=9
  ·have ih:∀ g∈b.fields,∀ p,Fv a.fields g.1=some p→AH n p.2.2.2.1 g.2.2.2.1=some (Nb d p.2.2.2.1 g.2.2.2.1)∧Hu n p.2.2.2.1 g.2.2.2.1=some (Nb d p.2.2.2.1 g.2.2.2.1):=fun g e p c=>by
    have i:p∈a.fields:=List.mem_of_find?_eq_some c
    exact TT d n _ _ (Ty.small_field sa i) (Ty.small_field sb e) (BK ga i) (BK gb e) (by have:=Ty.depth_field i;omega) (by omega)
   have o:=JU n b.fields (fun v=>CO (AH n) n v a) (fun g => !Zfq (Nb d) a g) (fun g e=>by
    rw [CO,I1,M4 n a.fields _ (by omega) (by omega),Ab,Zfq]
    cases q:Fv a.fields g.1 with
    | none=>rfl
    | some p=>rw [Af (by simp),Option.getD_some,(ih g e p q).1];rfl) (by omega) (by omega)
   have j:=YX (Hu n) (Nb d) n a b (by omega) (by omega) (by omega) (fun g e p c=>(ih g e p c).2) b.fields.length n 0 (by omega) (by omega)
   rw [List.drop_zero] at j
   have k:G0 (Hu n) n a b n 0=_:=j
   rw [Ae k9,Ad k9,Ae rfl,o,Ab,Ac (show ¬ b.kind=10 by omega),Af (show ¬ (false=true) by decide),Ae rfl,k,Wx]
   exact ⟨rfl,rfl⟩
  rw [Af k9,Ac k9,Af (show ¬ (false=true) by decide)]
  by_cases k10:b.kind=10
  ·have ih:∀ p∈a.fields,∀ g,Fv b.fields p.1=some g→AH n p.2.2.2.1 g.2.2.2.1=some (Nb d p.2.2.2.1 g.2.2.2.1)∧Hu n p.2.2.2.1 g.2.2.2.1=some (Nb d p.2.2.2.1 g.2.2.2.1):=fun p c g e=>by
    have m:g∈b.fields:=List.mem_of_find?_eq_some e
    exact TT d n _ _ (Ty.small_field sa c) (Ty.small_field sb m) (BK ga c) (BK gb m) (by have:=Ty.depth_field c;omega) (by omega)
   have o:=JU n a.fields (fun v=>CM (AH n) n v b) (fun p => !Zfh (Nb d) b p) (fun p c=>by
    rw [CM,Iq,M4 n b.fields _ (by omega) (by omega),Ab,Zfh]
    cases q:Fv b.fields p.1 with
    | none=>rfl
    | some g=>rw [Ae (by rfl),Option.getD_some,(ih p c g q).1];rfl) (by omega) (by omega)
   have j:=XU (Hu n) (Nb d) n a b (by omega) (by omega) (by omega) (fun p c g e=>(ih p c g e).2) a.fields.length n 0 (by omega) (by omega)
   rw [List.drop_zero] at j
   have k:IG (Hu n) n a b n 0=_:=j
   rw [Ae k10,Ad k10,Ae rfl,Ae rfl,o,Ab,k,Wx]
   exact ⟨rfl,rfl⟩
  ·rw [Af k10,Ac k10,Af (show ¬ (false=true) by decide),Af (show ¬ (false=true) by decide),Af (show ¬ (false=true) by decide)]
   exact ⟨rfl,rfl⟩
theorem Za0 {f:Ty→Ty→Vl→Option Vl} {a:Ty} {v:Vl} {g:TF} {o:List (ByteArray × Vl)} (h:LS f a v g=some o) :
  (∃ p x y,Fv a.fields g.1=some p∧Eb v p.2.1=some x∧f p.2.2.2.1 g.2.2.2.1 x=some y∧o=[(g.2.1,y)])∨(g.2.2.1=3∧∃ x r,g.2.2.2.2=x::r∧o=[(g.2.1,x)])∨(o=[]∧g.2.2.1≠1∧(g.2.2.1=3→g.2.2.2.2=[])):=by
 have b:WC g=some o→(g.2.2.1=3∧∃ x r,g.2.2.2.2=x::r∧o=[(g.2.1,x)])∨(o=[]∧g.2.2.1≠1∧(g.2.2.1=3→g.2.2.2.2=[])):=fun h=>by
  rw [WC] at h
  by_cases c1:g.2.2.1=1
  ·rw [Ae c1] at h;cases h
  rw [Af c1] at h
  by_cases c3:g.2.2.1=3
  ·rw [Ae c3] at h
   cases q:g.2.2.2.2 with
   | nil=>rw [q] at h;cases h;exact .inr ⟨rfl,c1,fun _=>rfl⟩
   | cons x r=>rw [q] at h;cases h;exact .inl ⟨c3,x,r,rfl,rfl⟩
  ·rw [Af c3] at h;cases h;exact .inr ⟨rfl,c1,fun q=>absurd q c3⟩
 rw [LS] at h
 cases hp:Fv a.fields g.1 with
 | none=>rw [hp] at h;exact .inr (b h)
 | some p =>
  rw [hp] at h
  cases hx:Eb v p.2.1 with
  | none=>simp only [hx] at h;exact .inr (b h)
  | some x =>
   simp only [hx] at h
   obtain ⟨y,c,rfl⟩:=Option.map_eq_some_iff.1 h
   exact .inl ⟨p,x,y,rfl,hx,c,rfl⟩
theorem ZT {f:Ty→Ty→Vl→Option Vl} {a:Ty} {v:Vl} {g:TF} {o:List (ByteArray × Vl)} (h:LS f a v g=some o):o.map Prod.fst=[g.2.1]∨o=[]:=by
 rcases Za0 h with ⟨p,x,y,_,_,_,rfl⟩ | ⟨_,x,r,_,rfl⟩ | ⟨rfl,_⟩
 ·exact .inl rfl
 ·exact .inl rfl
 ·exact .inr rfl
theorem VZ (f:Ty→Ty→Vl→Option Vl) (a:Ty) (v:Vl):∀ (gs:List TF) (l:List (ByteArray × Vl)),NH f a v gs=some l →
  (l.map Prod.fst).Sublist (gs.map fun g=>g.2.1)∧(∀ g∈gs,∃ o,LS f a v g=some o∧∀ q∈o,q∈l)∧∀ q∈l,∃ g∈gs,∃ o,LS f a v g=some o∧q∈o
 | [],l,h=>by rw [NH] at h;cases h;simp
 | g::gs,l,h=>by
  rw [NH] at h
  obtain ⟨o,ho,h⟩:=Option.bind_eq_some_iff.1 h
  obtain ⟨m,j,rfl⟩:=Option.map_eq_some_iff.1 h
  obtain ⟨h1,i,d⟩:=VZ f a v gs m j
  refine ⟨?_,fun x hx=>?_,fun q hq=>?_⟩
  ·rw [List.map_append,List.map_cons]
   rcases ZT ho with e | e
   ·rw [e,List.singleton_append];exact h1.cons_cons _
   ·subst e;exact h1.cons _
  ·rcases List.mem_cons.1 hx with rfl | hx
   ·exact ⟨o,ho,fun q hq=>List.mem_append_left _ hq⟩
   ·obtain ⟨c,b,k⟩:=i x hx
    exact ⟨c,b,fun q hq=>List.mem_append_right _ (k q hq)⟩
  ·rcases List.mem_append.1 hq with hq | hq
   ·exact ⟨g,List.mem_cons_self .., o,ho,hq⟩
   ·obtain ⟨x,hx,c,b,k⟩:=d q hq
    exact ⟨x,List.mem_cons_of_mem _ hx,c,b,k⟩
def Cd (n:Nat) (q:Ty) (g:Ty):Option Int :=
 (DR n q).bind fun b =>
 if !(decide (b=0)) then
  some (b)
 else
  (DR n g).bind fun h =>
  some (h)
theorem EU (w0:World) (hT:Lib.Utf8Tabs 0 1 w0) (n:Nat) (B:List (List AV)) (Rw:List RowA) (L:List LoopA) (a0:Ty) (a1:Ty) (r:Int) (h:Cd n a0 a1=some r) :
  ACalls Tryz.prog w0 78 [.agg (a0.cs),.agg (a1.cs)] ⟨B,Rw,L⟩ fun x st=>x = .val (.int .i64 r)∧st=⟨B,Rw,L⟩:=by
 rw [Cd] at h
 refine hd [.tmp 4] Tryz.func78 Tryz.ntmps78 fun M0 W0 m j i a k g hs=>?_
 simp only [Au]
 refine rg [2,3] hs ?_
 apply Ah;intro K2 d
 obtain ⟨l,e,h⟩:=bind_some h
 refine rc 2 [3,5] hs ?_;intro K3 c
 refine Ai _ (Px w0 hT n _ _ _ a0 _ e) (hv hs) ?_
 refine ne hs c ?_
 clear c
 refine rg [3,5,9] hs ?_
 refine AL h hs (fun hs h=>?_) (fun hs h=>?_)
 ·refine rg [4] hs ?_
  exact rt h hs a g
 refine sk [3] hs d ?_
 clear d
 obtain ⟨o,f,h⟩:=bind_some h
 refine rc 2 [4] hs ?_;intro K8 b
 refine Ai _ (Px w0 hT n _ _ _ a1 _ f) (hv hs) ?_
 refine ne hs b ?_
 clear b
 exact rt h hs a g
def Em (n:Nat) (h:Ty) (a1:Ty) (a2:Vl):Option (Vl × Int) :=
 (Cd n h a1).bind fun y =>
 if !(decide (y=0)) then
  some ((Vl.mk 0 0 0 ((⟨#[]⟩:ByteArray)) ([]) ([]),y))
 else
  (Ft n h a2).bind fun q =>
  if !(decide (q.2=0)) then
   some ((Vl.mk 0 0 0 ((⟨#[]⟩:ByteArray)) ([]) ([]),q.2))
  else
   (AG n h a1 q.1).bind fun b =>
   if !b.2 then
    some ((Vl.mk 0 0 0 ((⟨#[]⟩:ByteArray)) ([]) ([]),20))
   else
    (EX n b.1).bind fun s =>
    if !(decide (s=0)) then
     some ((Vl.mk 0 0 0 ((⟨#[]⟩:ByteArray)) ([]) ([]),9))
    else
     (BN n b.1).bind fun g =>
     some ((g,0))
theorem Ls (w0:World) (hP:Pow10 w0) (hT:Lib.Utf8Tabs 0 1 w0) (n:Nat) (B:List (List AV)) (Rw:List RowA) (L:List LoopA) (a0:Ty) (a1:Ty) (a2:Vl) (r:Vl × Int) (h:Em n a0 a1 a2=some r) :
  ACalls Tryz.prog w0 29 [.agg (a0.cs),.agg (a1.cs),.agg (a2.cs)] ⟨B,Rw,L⟩ fun x st=>x = .tup [.agg (r.1.cs),.val (.int .i64 r.2)]∧st=⟨B,Rw,L⟩:=by
 rw [Em] at h
 refine hd [.cell 6 46,.tmp 7] Tryz.func29 Tryz.ntmps29 fun M0 W0 z t w a C g hs=>?_
 simp only [Au]
 refine rg [3,4,5,6] hs ?_
 apply Ah;intro K2 l
 obtain ⟨D,q,h⟩:=bind_some h
 refine rc 2 [3,4,5,6,8] hs ?_;intro K3 m
 refine Ai _ (EU w0 hT n _ _ _ a0 a1 _ q) (hv hs) ?_
 refine ne hs m ?_
 clear m
 refine rg [3,4,5,6,8,16] hs ?_
 refine AL h hs (fun hs h=>?_) (fun hs h=>?_)
 ·refine rg [6,7] hs ?_
  exact rt h hs a g
 refine sk [3,4,5,6] hs l ?_
 clear l
 obtain ⟨y,s,h⟩:=bind_some h
 refine rc 2 [3,4,5,6,9] hs ?_;intro K8 k
 refine Ai _ (NE w0 hP hT n _ _ _ a0 a2 _ s) (hv hs) ?_
 refine ne hs k ?_
 clear k
 apply Ah;intro K10 c
 refine rg [3,4,5,6,9,26] hs ?_
 refine AL h hs (fun hs h=>?_) (fun hs h=>?_)
 ·refine rg [6,7] hs ?_
  exact rt h hs a g
 refine sk [3,4,5,6] hs c ?_
 clear c
 obtain ⟨o,j,h⟩:=bind_some h
 refine rc 2 [6,10,11] hs ?_;intro K14 e
 refine Ai _ (Ie w0 n _ _ _ a0 a1 y.1 _ j) (hv hs) ?_
 refine ne hs e ?_
 clear e
 apply Ah;intro K16 b
 apply Ak
 refine rg [6,10,36] hs ?_
 refine AL h hs (fun hs h=>?_) (fun hs h=>?_)
 ·refine rg [6,7] hs ?_
  exact rt h hs a g
 obtain ⟨v,i,h⟩:=bind_some h
 refine rc 2 [6,10,40] hs ?_;intro K20 d
 refine Ai _ (Kt w0 hT n _ _ _ o.1 _ i) (hv hs) ?_
 refine ne hs d ?_
 clear d
 refine AL h hs (fun hs h=>?_) (fun hs h=>?_)
 ·refine rg [6,7] hs ?_
  exact rt h hs a g
 refine sk [6,10] hs b ?_
 clear b
 obtain ⟨u,p,h⟩:=bind_some h
 refine rc 2 [6,7] hs ?_;intro K24 f
 refine Ai _ (GO w0 n _ _ _ o.1 _ p) (hv hs) ?_
 refine ne hs f ?_
 clear f
 exact rt h hs a g
def UpR (t1 t2:Ty) (v:Vl):Vl × Int:=if IY 12 t1 (CQ 12 t1 v)=true then (match UA 12 t1 t2 (CQ 12 t1 v) with | none=>(nilV,20) | some y=>if NZ y=0 then (y,0) else (nilV,9)) else (nilV,18)
theorem ZI (n:Nat) (t1 t2:Ty) (v:Vl) (hn:10000000000≤n) (q1:t1.small) (q2:t2.small) (vok:v.ok) (hv:v.size≤1048576) (e1:DR n t1=some 0) (e2:DR n t2=some 0) (g1:t1.Fine 8) (g2:t2.Fine 8):Em n t1 t2 v=some (UpR t1 t2 v):=by
 have l:∀ c:Int,c≠0→(!decide (c=0))=true:=fun c h=>by rw [Ac h];rfl
 have b:(!decide ((0:Int)=0))=false:=by decide
 have d:Cd n t1 t2=some 0:=by rw [Cd,e1,Ab,b,Af (show ¬ (false=true) by decide),e2];rfl
 have k:=SA n t1 v q1 vok hv (by omega)
 obtain ⟨m,i⟩:=N7 12 t1 v q1 vok hv
 have r:=v.depth_size
 rw [Em,d,Ab,b,Af (show ¬ (false=true) by decide),k,Ab,UpR]
 by_cases hf:IY 12 t1 (CQ 12 t1 v)=true
 rotate_left
 ·rw [Af hf,Af hf,Ae (show (!decide ((nilV,(18:Int)).2=0))=true by decide)]
 rw [Ae hf,Ae hf,b,Af (show ¬ (false=true) by decide)]
 obtain ⟨f,p,j,q,a,s⟩:=Zar 12 n (v.depth+1048576) 8 t1 t2 (CQ 12 t1 v) q1 q2 g1.good g2 m i hf (by omega)
 rw [j,Ab]
 cases o:UA 12 t1 t2 (CQ 12 t1 v) with
 | none =>
  rw [o] at a
  have x1:f.2=false:=a.1
  rw [x1,Ae (by rfl)]
 | some y =>
  rw [o] at a
  have x1:f=(y,true):=a.1
  obtain ⟨_,e,g⟩:=a
  subst x1
  have g:y.depth≤v.depth+1048576+1048576:=g
  rw [Af (by simp),US n y (by omega) (by omega) e,Ab]
  by_cases c:NZ y=0
  ·rw [c,b,Af (show ¬ (false=true) by decide),HW n y e (by omega),Ab];simp only [c,if_true]
  ·rw [Ae (l _ c)];simp only [c,if_false]
def Es (rec:Ty→Ty→Option Bool) (n:Nat) (g:Int × ByteArray × Int × Ty × List Vl) (h:Ty):Option Bool :=
 (CV n h.fields g.1).bind fun b =>
 if !b.2 then
  some (true)
 else
  (rec g.2.2.2.1 b.1.2.2.2.1).bind fun q =>
  some ((!q)||((decide (g.2.2.1=2))&&(!(decide (b.1.2.2.1=2)))))
theorem QH (w0:World) (rec:Ty→Ty→Option Bool) (ih:∀ (B:List (List AV)) (Rw:List RowA) (L:List LoopA) (a0:Ty) (a1:Ty) (r:Bool) (h:rec a0 a1=some r),ACalls Tryz.prog w0 94 [.agg (a0.cs),.agg (a1.cs)] ⟨B,Rw,L⟩ fun x st=>x = .val (.bool r)∧st=⟨B,Rw,L⟩) (n:Nat) (B:List (List AV)) (Rw:List RowA) (L:List LoopA) (a0:Int × ByteArray × Int × Ty × List Vl) (la1:Nat) (a1:Ty) (hla1:B[la1]? = some (a1.cs)) (r:Bool) (h:Es rec n a0 a1=some r) :
  ACalls Tryz.prog w0 160 [.agg (.val (.int .i64 a0.1)::(.val (.string a0.2.1)::(.val (.int .i64 a0.2.2.1)::((a0.2.2.2.1.cs)++([.list (a0.2.2.2.2.map Bo) .none]))))),.box la1 0] ⟨B,Rw,L⟩ fun x st=>x = .val (.bool r)∧st=⟨B,Rw,L⟩:=by
 rw [Es] at h
 refine hd [.tmp 3] Tryz.func160 Tryz.ntmps160 fun M0 W0 o k j a m g hs=>?_
 simp only [Au]
 have d:=(Ag.1 hla1).1
 have hs:=Aa (An hla1) hs
 refine rg [1,2] hs ?_
 obtain ⟨i,f,h⟩:=bind_some h
 refine rc 2 [2,4,5] hs ?_;intro K2 c
 refine Ai _ (ED w0 n _ _ _ a1.fields a0.1 _ f) (hv hs) ?_
 refine ne hs c ?_
 clear c
 apply Ah;intro K4 b
 rcases Bool.eq_false_or_eq_true (!i.2) with hf5 | hf5
 ·replace h:=AY h hf5
  have hs:=Aa hf5 hs
  refine rk 2 [3] hs ?_
  refine Az ?_
  refine ne hs b ?_
  clear b
  exact rt h hs a g
 ·replace h:=AZ h hf5
  obtain ⟨l,e,h⟩:=bind_some h
  have hs:=Aa hf5 hs
  refine rk 2 [3] hs ?_
  refine Ai _ (ih _ _ _ a0.2.2.2.1 i.1.2.2.2.1 _ e) (hv hs) ?_
  refine ne hs b ?_
  clear b
  exact rt h hs a g
def Cj (rec:Ty→Ty→Option Bool) (n:Nat) (s:Ty) (q:Ty) (b:Bool):Option Bool :=
 if b then
  (AD n s.fields (fun (h:Int × ByteArray × Int × Ty × List Vl)=>Es rec n h q)).bind fun g =>
  some (!g)
 else
  some (true)
def Ih (rec:Ty→Ty→Option Bool) (n:Nat) (g:Ty) (b:Ty):Option Bool :=
 (AH n g b).bind fun y =>
 if !y then
  some (false)
 else
  if decide (b.kind=8) then
   if decide (g.max=0) then
    some (true)
   else
    (Cb g.elem 0).bind fun h =>
    (Cb b.elem 0).bind fun q =>
    (rec h q).bind fun s =>
    some (s)
  else
   if decide (b.kind=9) then
    Cj rec n g b true
   else
    Cj rec n g b (decide (b.kind=10))
def Cf:Nat→Ty→Ty→Option Bool
 | 0,_,_=>none
 | n+1,g,b=>Ih (Cf n) n g b
def KC (w0:World) (F:Ty→Ty→Option Bool):Prop:=∀ (B:List (List AV)) (Rw:List RowA) (L:List LoopA) (g:Ty) (b:Ty) (r:Bool),F g b=some r→ACalls Tryz.prog w0 94 [.agg (g.cs),.agg (b.cs)] ⟨B,Rw,L⟩ fun x st=>x = .val (.bool r)∧st=⟨B,Rw,L⟩
theorem Qh (w0:World) (rec:Ty→Ty→Option Bool) (ih:KC w0 rec) (n:Nat):KC w0 (Ih rec n):=by
 intro B Rw L a0 a1 r h
 rw [Ih] at h
 refine hd [.tmp 4] Tryz.func94 Tryz.ntmps94 fun M0 W0 H w y a Q g hs=>?_
 simp only [Au]
 refine rg [2,3] hs ?_
 apply Ah;intro K2 p
 obtain ⟨U,t,h⟩:=bind_some h
 refine rc 2 [2,3,8] hs ?_;intro K3 s
 refine Ai _ (EY w0 n _ _ _ a0 a1 _ t) (hv hs) ?_
 refine ne hs s ?_
 clear s
 refine AL h hs (fun hs h=>?_) (fun hs h=>?_)
 ·refine rg [4] hs ?_
  exact rt h hs a g
 refine sk [2,3] hs p ?_
 clear p
 apply Ah;intro K7 m
 refine rg [2,3,10] hs ?_
 apply Ak
 refine rg [2,3,10,11] hs ?_
 refine AL h hs (fun hs h=>?_) (fun hs h=>?_)
 ·apply Ah;intro K11 c
  rcases Bool.eq_false_or_eq_true (decide (a0.max=0)) with hf12 | hf12
  ·replace h:=AY h hf12
   have hs:=Aa hf12 hs
   refine dk 15 2 1 [4] hs Iw ?_
   refine Az ?_
   refine dn hs c ?_
   clear c
   exact rt h hs a g
  ·replace h:=AZ h hf12
   obtain ⟨F,C,v,d,h⟩:=ix Ia h
   have l:(a0.elem.map Ia).getD 0 .junk=_:=d
   obtain ⟨z,u,E,f,h⟩:=ix Ia h
   have k:(a1.elem.map Ia).getD 0 .junk=_:=f
   obtain ⟨K,o,h⟩:=bind_some h
   have hs:=Aa hf12 hs
   have hs:=Aa d hs
   have hs:=Aa l hs
   have hs:=Aa f hs
   have hs:=Aa k hs
   refine dk 15 2 1 [4] hs Iw ?_
   refine Ai _ (ih _ _ _ F z _ o) (hv hs) ?_
   refine dn hs c ?_
   clear c
   exact rt h hs a g
 refine Av (fun e st=>∃ (b:Bool),Ck e st B Rw L [(2,true,.box B.length 0),(3,true,.box (B.length+1) 0),(27,true,.val (.bool b))] [a0.cs,a1.cs] [] (Cj rec n a0 a1 b=some r)) ?_ ?_
 ·intro K18 i
  refine rg [2,3,10,27] hs ?_
  refine AL h hs (fun hs h=>?_) (fun hs h=>?_)
  ·refine sk [2,3,27] hs i ?_
   exact ⟨true,([]),Rw,ef hs,ef hs,g,h⟩
  refine rl [2,3,27] hs i ?_
  exact ⟨(decide (a1.kind=10)),([]),Rw,ef hs,ef hs,g,h⟩
 ·clear h;rintro e st ⟨b,Xk17,Rk17,rfl,rfl,g,h⟩
  rw [Cj] at h
  refine td H w y a g ?_
  refine AL h hs (fun hs h=>?_) (fun hs h=>?_)
  ·obtain ⟨O,q,h⟩:=bind_some h
   refine rc 2 [4] hs ?_;intro K22 j
   refine Ai _ (BS w0 n _ _ _ a0.fields 160 [.box (B.length+1) 0] (fun (x:Int × ByteArray × Int × Ty × List Vl)=>Es rec n x a1) (fun x r J V G D N=>by exact QH w0 rec ih n _ _ _ x _ a1 (DI D (ef hs)) _ J) _ q) (hv hs) ?_
   refine ne hs j ?_
   clear j
   exact rt h hs a g
  refine sk [] hs m ?_
  clear m
  refine rg [4] hs ?_
  exact rt h hs a g
theorem NB (w0:World):∀ n:Nat,KC w0 (Cf n)
 | 0=>fun _ _ _ _ _ _ h=>(nomatch h)
 | n+1=>Qh w0 (Cf n) (NB w0 n) n
def Xa (rec:Ty→Ty→Option Bool) (n:Nat)  : Option Bool :=
 some (true)
def Gf (rec:Ty→Ty→Option Bool) (n:Nat) (s:Ty) (y:Ty):Nat→Int→Option Bool
 | 0,_=>none
 | m+1,b =>
  if decide (b<(s.fields.length:Int)) then
   (Cb s.fields b).bind fun h =>
   (Gm n y h.1).bind fun g =>
   if !g.2 then
    some (false)
   else
    (rec h.2.2.2.1 g.1.2.2.2.1).bind fun q =>
    if (!q)||((decide (h.2.2.1=2))&&(!(decide (g.1.2.2.1=2)))) then
     some (false)
    else
     if BV (b+1) then
      (Gf rec n s y m) (b+1)
     else none
  else
   Xa rec n 
def TG (rec:Ty→Ty→Option Bool) (n:Nat) (g:Ty) (b:Ty):Option Bool :=
 (Hu n g b).bind fun y =>
 if !y then
  some (false)
 else
  if decide (b.kind=8) then
   if decide (g.max=0) then
    some (true)
   else
    (Cb g.elem 0).bind fun s =>
    (Cb b.elem 0).bind fun h =>
    (rec s h).bind fun q =>
    some (q)
  else
   if (!(decide (b.kind=9)))&&(!(decide (b.kind=10))) then
    some (true)
   else
    Gf rec n g b n 0
def IZ:Nat→Ty→Ty→Option Bool
 | 0,_,_=>none
 | n+1,g,b=>TG (IZ n) n g b
def ZaR (f:Ty→Ty→Bool) (b:Ty) (p:TF):Bool:=match Fv b.fields p.1 with | none=>false | some g=>f p.2.2.2.1 g.2.2.2.1 && !(decide (p.2.2.1=2) && !decide (g.2.2.1=2))
def NC:Nat→Ty→Ty→Bool
 | 0,_,_=>false
 | d+1,a,b=>Nb (d+1) a b &&
  (if b.kind=8 then (decide (a.max=0)||(match a.elem,b.elem with | [x],[y]=>NC d x y | _,_=>false))
  else if b.kind=9∨b.kind=10 then a.fields.all (ZaR (NC d) b)
  else true)
theorem VW (rec:Ty→Ty→Option Bool) (f:Ty→Ty→Bool) (n:Nat) (a b:Ty) (la:a.fields.length≤1000000) (lb:b.fields.length≤1000000) (hn:1048580<n) (hr:∀ p∈a.fields,∀ g,Fv b.fields p.1=some g→rec p.2.2.2.1 g.2.2.2.1=some (f p.2.2.2.1 g.2.2.2.1)):∀ (k m i:Nat),i+k=a.fields.length→k<m →
  Gf rec n a b m i=some ((a.fields.drop i).all (ZaR f b))
 | k,0,i,_,h=>absurd h (Nat.not_lt_zero _)
 | 0,m+1,i,hi,_=>by
  rw [Gf,As,Ac (by omega),Af (by decide),List.drop_eq_nil_of_le (by omega),List.all_nil];rfl
 | k+1,m+1,i,hi,hm=>by
  have d:i<a.fields.length:=by omega
  have j:=List.getElem_mem d
  have ih:=VW rec f n a b la lb hn hr k m (i+1) (by omega) (by omega)
  rw [Gf,As,Ad d,Ae rfl,Ax d,Ab,Jb n b _ (by omega) (by omega),Ab,List.drop_eq_getElem_cons d,List.all_cons,ZaR]
  cases q:Fv b.fields a.fields[i].1 with
  | none=>rw [Ae (by rfl)];rfl
  | some g =>
   rw [Af (by simp),Option.getD_some,hr _ j g q,Ab]
   simp only
   cases hf:f a.fields[i].2.2.2.1 g.2.2.2.1 with
   | false=>rw [Ae (by rfl)];simp
   | true =>
    by_cases c:a.fields[i].2.2.1=2∧¬ g.2.2.1=2
    ·rw [Ad c.1,Ac c.2,Ae (by rfl)];simp
    ·have e:(decide (a.fields[i].2.2.1=2) && !decide (g.2.2.1=2))=false:=by
      rw [Bool.eq_false_iff];intro z;rw [Bool.and_eq_true,decide_eq_true_eq,Bool.not_eq_true',decide_eq_false_iff_not] at z;exact c z
     rw [e,Af (by decide),Ae (Aw (by omega))]
     refine (show Gf rec n a b m ((i:Int)+1)=_ from ih).trans ?_
     simp
theorem WY:∀ (d n:Nat) (a b:Ty),a.small→b.small→a.Good→b.Good→a.depth≤d→d+3000000<n→Cf n a b=some (NC d a b)∧IZ n a b=some (NC d a b)
 | 0,n,a,b,_,_,_,_,h,_=>by have:=a.depth_eq;omega
 | d+1,0,a,b,_,_,_,_,_,h=>absurd h (by omega)
 | d+1,n+1,a,b,sa,sb,ga,gb,hd,hn=>by
  have u:=ga.own
  have H:=gb.own
  have N:=a.lens
  have K:=b.lens
  have F:=sa.1
  have w:=sb.1
  obtain ⟨J,E⟩:=TT (d+1) n a b sa sb ga gb hd (by omega)
  rw [Cf,Ih,IZ,TG,NC,J,E,Ab,Ab]
  cases hc:Nb (d+1) a b with
  | false=>exact ⟨rfl,rfl⟩
  | true =>
   have ne:(a.kind=b.kind)∨((a.kind=2∨a.kind=3)∧(b.kind=2∨b.kind=3)):=by
    rw [Nb] at hc
    by_cases num:(a.kind=2∨a.kind=3)∧(b.kind=2∨b.kind=3)
    ·exact .inr num
    ·rw [Af num] at hc
     by_cases q:a.kind=b.kind
     ·exact .inl q
     ·rw [Ae q] at hc;cases hc
   rw [Af (show ¬ ((!true)=true) by decide),Af (show ¬ ((!true)=true) by decide),Bool.true_and]
   by_cases k8:b.kind=8
   ·obtain ⟨x,o⟩:=u.elem (by omega)
    obtain ⟨y,s⟩:=H.elem k8
    have c:x∈a.elem:=by rw [o];simp
    have i:y∈b.elem:=by rw [s];simp
    obtain ⟨C,v⟩:=WY d n x y (Ty.small_elem sa c) (Ty.small_elem sb i) (ET ga c) (ET gb i) (by have:=Ty.depth_elem c;omega) (by omega)
    rw [Ae k8,Ad k8,Ae rfl,Ae rfl,o,s,show Cb [x] 0=some x from rfl,show Cb [y] 0=some y from rfl,Ab,Ab,Ab,Ab,C,v]
    by_cases z:a.max=0
    ·rw [Ad z];exact ⟨rfl,rfl⟩
    ·rw [Ac z];exact ⟨rfl,rfl⟩
   rw [Af k8,Ac k8,Af (show ¬ (false=true) by decide),Af (show ¬ (false=true) by decide)]
   by_cases k:b.kind=9∨b.kind=10
   ·have ih:∀ p∈a.fields,∀ g,Fv b.fields p.1=some g→Cf n p.2.2.2.1 g.2.2.2.1=some (NC d p.2.2.2.1 g.2.2.2.1)∧IZ n p.2.2.2.1 g.2.2.2.1=some (NC d p.2.2.2.1 g.2.2.2.1):=fun p e g m=>by
     have f:g∈b.fields:=List.mem_of_find?_eq_some m
     exact WY d n _ _ (Ty.small_field sa e) (Ty.small_field sb f) (BK ga e) (BK gb f) (by have:=Ty.depth_field e;omega) (by omega)
    have D:=JU n a.fields (fun G=>Es (Cf n) n G b) (fun p => !ZaR (NC d) b p) (fun p e=>by
     rw [Es,M4 n b.fields _ (by omega) (by omega),Ab,ZaR]
     cases q:Fv b.fields p.1 with
     | none=>rfl
     | some g=>rw [Af (by simp),Option.getD_some,(ih p e g q).1,Ab];simp only;cases NC d p.2.2.2.1 g.2.2.2.1<;>cases decide (p.2.2.1=2)<;>cases decide (g.2.2.1=2)<;>rfl) (by omega) (by omega)
    have t:=VW (IZ n) (NC d) n a b (by omega) (by omega) (by omega) (fun p e g m=>(ih p e g m).2) a.fields.length n 0 (by omega) (by omega)
    rw [List.drop_zero] at t
    have l:Gf (IZ n) n a b n 0=_:=t
    have j:(if decide (b.kind=9)=true then Cj (Cf n) n a b true else Cj (Cf n) n a b (decide (b.kind=10)))=Cj (Cf n) n a b true:=by
     rcases k with q | q
     ·rw [Ad q,Ae rfl]
     ·rw [Ad q];exact ite_self _
    have r:((!decide (b.kind=9)) && !decide (b.kind=10))=false:=by
     rcases k with q | q
     ·rw [Ad q];rfl
     ·rw [Ad q,Bool.not_true,Bool.and_false]
    rw [Ae k,j,Cj,Ae rfl,D,Ab,r,Af (by decide),l,Wx]
    exact ⟨rfl,rfl⟩
   ·have r:((!decide (b.kind=9)) && !decide (b.kind=10))=true:=by
     rw [Ac (fun q=>k (.inl q)),Ac (fun q=>k (.inr q))];rfl
    rw [Af k,Ac (fun q=>k (.inl q)),Af (by decide),Ac (fun q=>k (.inr q)),Cj,Af (by decide)]
    refine ⟨rfl,?_⟩
    rfl
theorem J9 (k:Int):∀ (l b:List TF),Hi k b l=0→(l.map fun p=>p.1).Nodup∧∀ p∈l,∀ q∈b,q.1≠p.1
 | [],_,_=>⟨.nil,by simp⟩
 | x::r,b,h=>by
  rw [Hi] at h
  by_cases q:JI k b x=0
  rotate_left
  ·rw [Af q] at h;exact absurd h q
  rw [Ae q] at h
  obtain ⟨f,c⟩:=J9 k r (b++[x]) h
  have g:∀ y∈b,y.1≠x.1:=by
   intro y a e
   unfold JI at q
   by_cases c1:E8 x.2.1=true
   ·rw [Ae c1] at q
    by_cases c2:¬ (1≤x.1∧x.1≤9999)
    ·rw [Ae c2] at q;exact absurd q (by decide)
    rw [Af c2,Ae (List.any_eq_true.2 ⟨y,a,by rw [D1,Ad e];simp⟩)] at q
    exact absurd q (by decide)
   ·rw [Af c1] at q;exact absurd q (by decide)
  refine ⟨List.nodup_cons.2 ⟨fun d=>?_,f⟩,fun p hp y a=>?_⟩
  ·obtain ⟨p,hp,e⟩:=List.mem_map.1 d
   exact c p hp x (by simp) e.symm
  ·rcases List.mem_cons.1 hp with rfl | hp
   ·exact g y a
   ·exact c p hp y (by simp [a])
theorem HH {l:List TF} (h:(l.map fun p=>p.1).Nodup) {p:TF} (hp:p∈l):Fv l p.1=some p:=by
 rw [Fv]
 cases c:l.find? (fun x=>decide (x.1=p.1)) with
 | none =>
  rw [List.find?_eq_none] at c
  exact absurd (Ad rfl) (c p hp)
 | some z =>
  have e:=List.mem_of_find?_eq_some c
  have a:z.1=p.1:=of_decide_eq_true (List.find?_some (p:=fun x:TF=>decide (x.1=p.1)) c)
  obtain ⟨i,b,rfl⟩:=List.mem_iff_getElem.1 e
  obtain ⟨j,d,rfl⟩:=List.mem_iff_getElem.1 hp
  rcases Nat.lt_trichotomy i j with w | w | w
  ·exact absurd a (by have:=List.pairwise_iff_getElem.1 h i j (by simpa using b) (by simpa using d) w;simpa using this)
  ·subst w;rfl
  ·exact absurd a.symm (by have:=List.pairwise_iff_getElem.1 h j i (by simpa using d) (by simpa using b) w;simpa using this)
theorem Qw {v:Vl} (i s t l f:Bool) (h:bare i s t l f v=true):(i=false→v.int=0)∧(s=false→v.scale=0)∧(t=false→v.text=⟨#[]⟩)∧(l=false→v.list=[])∧(f=false→v.fields=[]):=by
 simp only [bare,Bool.and_eq_true,Bool.or_eq_true,decide_eq_true_eq,E3] at h
 obtain ⟨⟨⟨⟨h1,h2⟩,h3⟩,h4⟩,h5⟩:=h
 refine ⟨fun q=>?_,fun q=>?_,fun q=>?_,fun q=>?_,fun q=>?_⟩
 ·subst q;rcases h1 with h | h;cases h;exact h
 ·subst q;rcases h2 with h | h;cases h;exact h
 ·subst q;rcases h3 with h | h;cases h;exact h
 ·subst q;rcases h4 with h | h;cases h;exact List.length_eq_zero_iff.1 h
 ·subst q;rcases h5 with h | h;cases h;exact List.length_eq_zero_iff.1 h
theorem Zae {v:Vl} {k i s:Int} {t:ByteArray} {l:List Vl} {f:List (ByteArray × Vl)} (h1:k=v.kind) (h2:i=v.int) (h3:s=v.scale) (h4:t=v.text) (h5:l=v.list) (h6:f=v.fields):Vl.mk k i s t l f=v:=by
 subst h1 h2 h3 h4 h5 h6;exact v.eta
theorem VS (f:Ty→Ty→Vl→Option Vl) (a:Ty) (v:Vl) (h:TF→List (ByteArray × Vl)):∀ gs:List TF,(∀ g∈gs,LS f a v g=some (h g))→NH f a v gs=some (gs.flatMap h)
 | [],_=>rfl
 | g::r,k=>by
  rw [NH,k g (List.mem_cons_self ..),Ab,VS f a v h r fun u b=>k u (List.mem_cons_of_mem _ b),List.flatMap_cons];rfl
def ZbN (w:Vl) (p:TF):List (ByteArray × Vl):=match Eb w p.2.1 with | some x=>[(p.2.1,x)] | none=>[]
theorem Zdn {f:Ty→Ty→Vl→Option Vl} {a b:Ty} {u w:Vl} (na:(a.fields.map fun p=>p.2.1).Nodup) (ws:SS w.fields) (hf:∀ q∈w.fields,(B5 a q.1).isSome=true) (hrec:NH f b u a.fields=some (a.fields.flatMap (ZbN w))):BZ (a.fields.flatMap (ZbN w))=w.fields:=by
 obtain ⟨l,r,o⟩:=VZ _ _ _ _ _ hrec
 have i:=na.sublist l
 refine Q6 _ _ ((IU _).trans ?_) (Qm _ i) ws
 refine (List.perm_ext_iff_of_nodup (List.Pairwise.of_map Prod.fst (fun x y h e=>h (congrArg Prod.fst e)) i) (ws.imp fun {x y} h e=>by rw [e,OX] at h;omega)).2 fun q=>⟨fun d=>?_,fun d=>?_⟩
 ·obtain ⟨p,g,d⟩:=List.mem_flatMap.1 d
  rw [ZbN] at d
  cases c:Eb w p.2.1 with
  | none=>rw [c] at d;simp at d
  | some x =>
   rw [c] at d
   obtain rfl:q=(p.2.1,x):=by simpa using d
   obtain ⟨z,m,n,k⟩:=PI c
   rw [←n,←k];exact m
 ·have:=hf q d
  cases c:B5 a q.1 with
  | none=>rw [c] at this;cases this
  | some p =>
   obtain ⟨g,j⟩:=EE c
   refine List.mem_flatMap.2 ⟨p,g,?_⟩
   rw [ZbN,j,Zh ws d]
   simp
theorem Rl (x a:Int):MZ x a a=some x:=by rw [MZ,Ae (Int.le_refl a),show (a-a).toNat=0 by omega];rfl
theorem Wc (f:Vl→Option Vl):∀ l:List Vl,(∀ v∈l,f v=some v)→Rx f l=some l
 | [],_=>rfl
 | v::r,k=>by rw [Rx,k v (List.mem_cons_self ..),Ab,Wc f r fun u a=>k u (List.mem_cons_of_mem _ a)];rfl
theorem SK:∀ (d:Nat) (a:Ty) (w:Vl),a.Good→IY d a w=true→UA d a a w=some w
 | 0,a,w,_,h=>by simp [IY] at h
 | d+1,a,w,ga,b=>by
  have l:=ga.own
  obtain ⟨C,_,_,e⟩:=Tf b
  have F:=ZgX (t:=a) (v:=w) (by have:=l.kind;omega) C e
  rw [IY,Af F] at b
  rw [UA]
  by_cases num:a.kind=2∨a.kind=3
  ·have hx:NM w.int a=true∧w.scale=a.scale∧w.text=⟨#[]⟩∧w.list=[]∧w.fields=[]:=by
    rcases num with q | q
    ·rw [Ae (.inl q)] at b
     rw [DD,Af (by omega),Ae (by omega)] at e
     obtain ⟨_,i,k,n,j⟩:=Qw _ _ _ _ _ e
     exact ⟨b,by rw [i rfl,l.noscale (by omega)],k rfl,n rfl,j rfl⟩
    ·rw [Af (by omega),Ae q,Bool.and_eq_true,decide_eq_true_eq] at b
     rw [DD,Af (by omega),Af (by omega),Ae (by omega)] at e
     obtain ⟨_,_,k,n,j⟩:=Qw _ _ _ _ _ e
     exact ⟨b.2,b.1,k rfl,n rfl,j rfl⟩
   rw [Ae ⟨num,num⟩,Rl,Ab,Ae hx.1]
   exact congrArg some (Zae C.symm rfl hx.2.1.symm hx.2.2.1.symm hx.2.2.2.1.symm hx.2.2.2.2.symm)
  rw [Af (fun q=>num q.1),Af (fun q=>q rfl)]
  by_cases k67:a.kind=6∨a.kind=7
  ·rw [Ae (by omega)] at b
   rw [Ae k67,Ae b]
  rw [Af k67]
  by_cases k5:a.kind=5
  ·rw [Af (by omega),Af (by omega),Af (by omega),Ae k5] at b
   rw [Ae k5,Ae b]
  rw [Af k5]
  by_cases k4:a.kind=4
  ·rw [Af (by omega),Af (by omega),Ae k4] at b
   rw [Ae k4,Ae b]
  rw [Af k4]
  by_cases k8:a.kind=8
  ·obtain ⟨x,hx⟩:=l.elem k8
   rw [Af (by omega),Af (by omega),Af (by omega),Af (by omega),Ae k8,Bool.and_eq_true,List.all_eq_true] at b
   have same:=Wc (UA d x x) w.list fun v hv=>by
    have:=b.2 v hv
    rw [hx] at this
    exact SK d x v (ET ga (by rw [hx];simp)) this
   rw [DD,Af (by omega),Af (by omega),Af (by omega),Af (by omega),Af (by omega),Ae (by omega)] at e
   obtain ⟨r,i,k,_,j⟩:=Qw _ _ _ _ _ e
   rw [Ae k8,hx]
   show ((Rx (UA d x x) w.list).bind fun m=>if NM (w.list.length:Int) a=true then some (Vl.mk 8 0 0 ⟨#[]⟩ m []) else none)=some w
   rw [same,Ab,Ae b.1]
   exact congrArg some (Zae (by omega) (r rfl).symm (i rfl).symm (k rfl).symm rfl (j rfl).symm)
  rw [Af k8]
  by_cases k9:a.kind=9
  ·have D:=(OJ _ _ _ l.apart).1
   have u:=(J9 _ _ _ l.apart).1
   have E:=V3 e (by omega)
   rw [Af (by omega),Af (by omega),Af (by omega),Af (by omega),Af (by omega),Ae k9,Bool.and_eq_true,List.all_eq_true,List.all_eq_true] at b
   have g:=VS (UA d) a w (ZbN w) a.fields fun p y=>by
    have f:=b.1 p y
    rw [LS,HH u y,ZbN]
    cases hx:Eb w p.2.1 with
    | some x =>
     rw [hx] at f
     simp only [hx,SK d _ x (BK ga y) f];rfl
    | none =>
     rw [hx] at f
     have G:p.2.2.1=2:=of_decide_eq_true f
     simp only [hx]
     rw [WC,Af (by omega),Af (by omega)]
   rw [DD,Af (by omega),Af (by omega),Af (by omega),Af (by omega),Af (by omega),Af (by omega),Ae (by omega),Bool.and_eq_true] at e
   obtain ⟨r,i,k,n,_⟩:=Qw _ _ _ _ _ e.2
   rw [Ae k9,g,Option.map_some,Zdn D E b.2 g]
   exact congrArg some (Zae (by omega) (r rfl).symm (i rfl).symm (k rfl).symm (n rfl).symm rfl)
  rw [Af k9]
  by_cases k10:a.kind=10
  ·rw [Af (by omega),Af (by omega),Af (by omega),Af (by omega),Af (by omega),Af (by omega),Ae k10] at b
   have u:=(J9 _ _ _ l.apart).1
   cases c:B5 a w.text with
   | none=>rw [c] at b;simp at b
   | some p =>
    cases hl:w.list with
    | nil=>rw [c,hl] at b;simp at b
    | cons x xs =>
     rw [c,hl] at b
     have b:IY d p.2.2.2.1 x=true:=b
     obtain ⟨o,z⟩:=EE c
     have one:=PT e (by omega)
     have s:xs=[]:=by rw [hl] at one;simpa using one
     rw [DD,Af (by omega),Af (by omega),Af (by omega),Af (by omega),Af (by omega),Af (by omega),Af (by omega),Ae (by omega),Bool.and_eq_true] at e
     obtain ⟨r,i,_,_,j⟩:=Qw _ _ _ _ _ e.2
     rw [Ae k10]
     simp only [HH u o,SK d _ x (BK ga o) b,Option.map_some]
     exact congrArg some (Zae (by omega) (r rfl).symm (i rfl).symm z (by rw [hl,s]) (j rfl).symm)
  ·rw [Af k10]
theorem Uj (a:Ty):XW a a=true:=by simp [XW]
theorem Ob:∀ (d:Nat) (a:Ty),a.Good→a.depth≤d→Nb d a a=true
 | 0,a,_,h=>by have:=a.depth_eq;omega
 | d+1,a,ga,hd=>by
  have e:=ga.own
  rw [Nb]
  by_cases num:a.kind=2∨a.kind=3
  ·obtain ⟨_,_,b⟩:=e.bounds (by omega) (by omega)
   rw [Ae ⟨num,num⟩,ZbG,Rl,Rl]
   simp [NM,b]
  rw [Af (fun q=>num q.1),Af (fun q=>q rfl)]
  by_cases k1:a.kind=1
  ·rw [Ae k1]
  rw [Af k1]
  by_cases k4:a.kind=4
  ·rw [Ae k4,ZbM]
   by_cases w:a.words=[]
   ·rw [Af (fun q=>q w),Af (fun q=>q w)];exact Uj a
   ·rw [Ae w,List.all_eq_true]
    intro x f
    rw [Jl,Af w,List.any_eq_true]
    exact ⟨x,f,Mc x⟩
  rw [Af k4]
  by_cases k8:a.kind=8
  ·obtain ⟨x,f⟩:=e.elem k8
   have i:x∈a.elem:=by rw [f];simp
   have ih:=Ob d x (ET ga i) (by have:=Ty.depth_elem i;omega)
   rw [Ae k8,Uj,f,Bool.true_and,Bool.or_eq_true]
   exact .inr ih
  rw [Af k8]
  by_cases k9:a.kind=9
  ·have g:=(J9 _ _ _ e.apart).1
   rw [Ae k9,List.all_eq_true]
   intro p c
   simp only [HH g c,Ob d _ (BK ga c) (by have:=Ty.depth_field c;omega),Bool.true_and,Bool.not_eq_true',Bool.and_eq_false_iff,decide_eq_false_iff_not]
   omega
  rw [Af k9]
  by_cases k10:a.kind=10
  ·have g:=(J9 _ _ _ e.apart).1
   rw [Ae k10,List.all_eq_true]
   intro p c
   simp only [HH g c,Ob d _ (BK ga c) (by have:=Ty.depth_field c;omega)]
  rw [Af k10];exact Uj a
theorem RF:∀ (d:Nat) (a:Ty),a.Good→a.depth≤d→NC d a a=true
 | 0,a,_,h=>by have:=a.depth_eq;omega
 | d+1,a,ga,hd=>by
  have c:=ga.own
  rw [NC,Ob (d+1) a ga hd,Bool.true_and]
  by_cases k8:a.kind=8
  ·obtain ⟨x,f⟩:=c.elem k8
   have e:x∈a.elem:=by rw [f];simp
   have ih:=RF d x (ET ga e) (by have:=Ty.depth_elem e;omega)
   rw [Ae k8,f,Bool.or_eq_true]
   exact .inr ih
  rw [Af k8]
  by_cases k9:a.kind=9∨a.kind=10
  ·have g:=(J9 _ _ _ c.apart).1
   rw [Ae k9,List.all_eq_true]
   intro p b
   rw [ZaR]
   simp only [HH g b,RF d _ (BK ga b) (by have:=Ty.depth_field b;omega),Bool.true_and]
   simp
  ·rw [Af k9]
def BO (h:ByteArray) (g:Int) (b:List (ByteArray × Int)):Option ((List (ByteArray × Int))) :=
 if (b.length+1)*24≤140737488355328∧b.length+1≤4611686018427387904 then
  some (b++([(h,g)]))
 else none
theorem CE (w0:World) (B:List (List AV)) (Rw:List RowA) (L:List LoopA) (a0:ByteArray) (a1:Int) (la2:Nat) (a2:List (ByteArray × Int)) (oa2:Ev.Own) (hla2:B[la2]? = some [.list (a2.map Jt) oa2]) (hGa2:Owns Rw Rw [(2,a2.length,oa2)] oa2) (r:(List (ByteArray × Int))) (h:BO a0 a1 a2=some r) :
  ACalls Tryz.prog w0 96 [.val (.string a0),.val (.int .i64 a1),.box la2 0] ⟨B,Rw,L⟩ fun x st=>x = .tup []∧∃ (R1:List RowA) (o1:Ev.Own),st=⟨(B.set la2 [.list (r.map Jt) o1]),R1,L⟩∧Owns Rw R1 [(2,r.length,o1)] oa2:=by
 rw [BO] at h
 refine ACalls.finG (Ep (rs:=[]) Tryz.func96 rfl rfl Tryz.ntmps96 (A9 Tryz.func96 rfl (by decide)) (Nat.le_of_ble_eq_true rfl) ?_)
 intro M0 W0 l j i b k
 dsimp only at l j i b k
 simp only [Au]
 have c:=hGa2
 have hs:=Zaz
 have e:=(Ag.1 hla2).1
 obtain ⟨d,h⟩:=Aj h
 obtain ⟨f,g,c,a⟩:=c.append (P:=Tryz.prog) ZgU (by rw [ZbP];rfl) (by decide) 1 d.1 d.2
 replace a:=fun (ys:List AV) B L f=>a (a2.map Jt) ys B L f FN
 replace a:=fun (y:AV) B L f=>a [y] B L f FN ev
 try simp only [List.mem_singleton,List.mem_cons,List.not_mem_nil,or_false,forall_eq_or_imp,forall_eq,List.map_append,List.map_cons,List.map_nil,Hn,Hk,Ht,Hq,Hm,GG,Fh,Fj,Hj,DZ,DY,Fe,Fp,Fg] at a
 apply Ao 1 []
 rw [Am];simp +decide only [go_sem,Nat.reduceAdd,An hla2,a]
 (repeat' with_reducible apply Aa)<;>first | exact cl | skip
 have hgt:=Option.some.inj h;subst hgt
 have m:=c.unders
 simp only [List.mem_cons,List.not_mem_nil,or_false,forall_eq_or_imp,forall_eq] at m
 refine Y7 c (Ap (Fo b c.len) ow) Hy ev ⟨?_,_,_,?_,(c.sub (List.sublist_append_left [_] _)).len1 FN⟩
 all_goals first | rfl | (simp +decide only [go_sem,Nat.reduceAdd,An hla2,a];done) | (simp +decide only [go_sem,Nat.reduceAdd,Vl.cs,Ty.cs,An hla2,a];done)
def F5 (s:Bool) (g:List (ByteArray × Int)) (b:ByteArray):Option ((List (ByteArray × Int))) :=
 if s then
  (BO b 6 g).bind fun q =>
  some (q)
 else
  (BO b 7 g).bind fun h =>
  some (h)
theorem JG (w0:World) (B:List (List AV)) (Rw:List RowA) (L:List LoopA) (a0:Bool) (la1:Nat) (a1:List (ByteArray × Int)) (oa1:Ev.Own) (hla1:B[la1]? = some [.list (a1.map Jt) oa1]) (hGa1:Owns Rw Rw [(2,a1.length,oa1)] oa1) (lb1:Nat) (hlb1:B[lb1]? = some [.clo 96 [.box la1 0]]) (la2:Nat) (a2:ByteArray) (hla2:B[la2]? = some ([.val (.string a2)])) (r:(List (ByteArray × Int))) (h:F5 a0 a1 a2=some r) :
  ACalls Tryz.prog w0 161 [.val (.bool a0),.box lb1 0,.box la2 0] ⟨B,Rw,L⟩ fun x st=>x = .tup []∧∃ (R1:List RowA) (o1:Ev.Own),st=⟨(B.set la1 [.list (r.map Jt) o1]),R1,L⟩∧Owns Rw R1 [(2,r.length,o1)] oa1:=by
 rw [F5] at h
 refine ACalls.finG (Ep (rs:=[]) Tryz.func161 rfl rfl Tryz.ntmps161 (A9 Tryz.func161 rfl (by decide)) (Nat.le_of_ble_eq_true rfl) ?_)
 intro M0 W0 s l n c u
 dsimp only at s l n c u
 simp only [Au]
 have d:=hGa1
 have hs:=Zaz
 have g:=(Ag.1 hla1).1
 have j:=(Ag.1 hlb1).1
 have a:la1≠lb1:=fun q=>by have k:=hla1;rw [q,hlb1] at k;cases k
 have i:=(Ag.1 hla2).1
 have hs:=Aa (An hla1) hs
 have hs:=Aa (An hlb1) hs
 have hs:=Aa (C2 hlb1 a) hs
 have hs:=Aa (An hla2) hs
 refine rg [1,2,4] hs ?_
 refine AL h hs (fun hs h=>?_) (fun hs h=>?_)
 ·have b:=hs.1
  obtain ⟨y,o,h⟩:=bind_some h
  apply Ao 2 []
  rw [Am];simp +decide only [go_sem,Nat.reduceAdd,An hla1,An hlb1,C2 hlb1 a,An hla2,b]
  (repeat' apply Aa)<;>first | (refine Bt _ (CE w0 _ _ _ a2 6 la1 a1 oa1 (ef hs) d.enter _ o) (hv hs) ?_;rintro _ _ ⟨rfl,Rg4,t,rfl,f⟩) | exact cl
  have d:=d.call f
  rw [Am];simp +decide only [go_sem,Nat.reduceAdd,An hla1,An hlb1,C2 hlb1 a,An hla2,b]
  (repeat' with_reducible apply Aa)<;>first | exact cl | skip
  have hgt:=Option.some.inj h;subst hgt
  have m:=d.unders
  simp only [List.mem_cons,List.not_mem_nil,or_false,forall_eq_or_imp,forall_eq] at m
  refine Y7 d (Ap (Fo c d.len) ow) Hy ev ⟨?_,_,_,?_,(d.sub (List.sublist_append_left [_] _)).len1 FN⟩
  all_goals first | rfl | (simp +decide only [go_sem,Nat.reduceAdd,An hla1,An hlb1,C2 hlb1 a,An hla2,b];done) | (simp +decide only [go_sem,Nat.reduceAdd,Vl.cs,Ty.cs,An hla1,An hlb1,C2 hlb1 a,An hla2,b];done)
 have b:=hs.1
 obtain ⟨w,p,h⟩:=bind_some h
 apply Ao 2 []
 rw [Am];simp +decide only [go_sem,Nat.reduceAdd,An hla1,An hlb1,C2 hlb1 a,An hla2,b]
 (repeat' apply Aa)<;>first | (refine Bt _ (CE w0 _ _ _ a2 7 la1 a1 oa1 (ef hs) d.enter _ p) (hv hs) ?_;rintro _ _ ⟨rfl,Rg7,v,rfl,e⟩) | exact cl
 have d:=d.call e
 rw [Am];simp +decide only [go_sem,Nat.reduceAdd,An hla1,An hlb1,C2 hlb1 a,An hla2,b]
 (repeat' with_reducible apply Aa)<;>first | exact cl | skip
 have hgt:=Option.some.inj h;subst hgt
 have m:=d.unders
 simp only [List.mem_cons,List.not_mem_nil,or_false,forall_eq_or_imp,forall_eq] at m
 refine Y7 d (Ap (Fo c d.len) ow) Hy ev ⟨?_,_,_,?_,(d.sub (List.sublist_append_left [_] _)).len1 FN⟩
 all_goals first | rfl | (simp +decide only [go_sem,Nat.reduceAdd,An hla1,An hlb1,C2 hlb1 a,An hla2,b];done) | (simp +decide only [go_sem,Nat.reduceAdd,Vl.cs,Ty.cs,An hla1,An hlb1,C2 hlb1 a,An hla2,b];done)
def BR (g:ByteArray) (h:Ty) (b:ByteArray):Option ByteArray :=
 if decide (h.kind=10) then
  if b.size+((⟨#[63]⟩:ByteArray)).size≤9223372036854775807 then
   if (b++((⟨#[63]⟩:ByteArray))).size+g.size≤9223372036854775807 then
    some ((b++((⟨#[63]⟩:ByteArray)))++g)
   else none
  else none
 else
  if DK b ((⟨#[]⟩:ByteArray)) then
   some (g)
  else
   if b.size+((⟨#[46]⟩:ByteArray)).size≤9223372036854775807 then
    if (b++((⟨#[46]⟩:ByteArray))).size+g.size≤9223372036854775807 then
     some ((b++((⟨#[46]⟩:ByteArray)))++g)
    else none
   else none
theorem Ee (w0:World) (B:List (List AV)) (Rw:List RowA) (L:List LoopA) (a0:ByteArray) (la1:Nat) (a1:Ty) (hla1:B[la1]? = some (a1.cs)) (la2:Nat) (a2:ByteArray) (hla2:B[la2]? = some ([.val (.string a2)])) (r:ByteArray) (h:BR a0 a1 a2=some r) :
  ACalls Tryz.prog w0 162 [.val (.string a0),.box la1 0,.box la2 0] ⟨B,Rw,L⟩ fun x st=>x = .val (.string r)∧st=⟨B,Rw,L⟩:=by
 rw [BR] at h
 refine hd [.tmp 4] Tryz.func162 Tryz.ntmps162 fun M0 W0 s p o a q m hs=>?_
 simp only [Au]
 have j:=(Ag.1 hla1).1
 have k:=(Ag.1 hla2).1
 have hs:=Aa (An hla1) hs
 have hs:=Aa (An hla2) hs
 refine rg [0,1,2] hs ?_
 apply Ah;intro K2 i
 apply Ak
 refine rg [0,2,5] hs ?_
 refine AL h hs (fun hs h=>?_) (fun hs h=>?_)
 ·obtain ⟨n,h⟩:=Aj h
  have g:=n
  try simp +decide only [go_sem] at g
  obtain ⟨l,h⟩:=Aj h
  have d:=l
  try simp +decide only [go_sem] at d
  refine rg [4] hs ?_
  exact rt h hs a m
 refine rg [0,2,13] hs ?_
 refine AL h hs (fun hs h=>?_) (fun hs h=>?_)
 ·refine rg [4] hs ?_
  exact rt h hs a m
 refine sk [0,2] hs i ?_
 clear i
 obtain ⟨f,h⟩:=Aj h
 have c:=f
 try simp +decide only [go_sem] at c
 obtain ⟨e,h⟩:=Aj h
 have b:=e
 try simp +decide only [go_sem] at b
 refine rg [4] hs ?_
 exact rt h hs a m
end Go.Proofs.YtgpmlelfkjfbiaaGreatDoor
